/- xpath.Move: the contract, whatever the path and the operation. -/
import Derived.Test.YtccobobnmpafbaaGreatDoorK07
import Derived.Test.YtccobobnmpafbaaGreatDoorK05
import Derived.Test.YtccobobnmpafbaaGreatDoorK03
set_option maxRecDepth 100000
set_option maxHeartbeats 100000000
namespace Go.Proofs.YtccobobnmpafbaaGreatDoor
open Go Go.RowKit
def zbN(p q d:List Int)(kind pos s:Int):List Int × Bool :=
 if kind=1 then (zbs p q,true)
 else if kind=2 then (if s=3\/s=2 then ([],false) else if s=1 then (zcP p (q.length - 1) (-1),true) else (p,true))
 else if kind=3 then (if q.getD (q.length - 1) 0=0 then ([],false) else if s=2 then (zcP (zcP p q.length pos) (q.length - 1) (-1),true) else if s=3\/s=1 then (zcP p (q.length - 1) (-1),true) else (p,true))
 else if kind=4 then (if s=2/\pos<=p.getD q.length 0 then (zcP (zcP p q.length (-pos)) (q.length - 1) 1,true) else if s=1 then (zcP p (q.length - 1) 1,true) else (p,true))
 else if kind=5 then (if s=3\/s=2 then (d++p.drop q.length,true) else (zbs (if s=1 then zcP p (q.length - 1) (-1) else p) d,true))
 else (p,true)
def zbO(p q d:List Int)(kind pos:Int):List Int × Bool :=
 if zcS p=true/\zcS q=true/\zcS d=true/\zcS [pos]=true then (if q.length=0 then (p,true) else zbN p q d kind pos (zcX q p)) else ([],false)
def RetMv(r:List Int × Bool)(w:World)(e:Ending)(w':World):Prop:=∃ q:PN,e=.returned (.tuple #[.slice q.a q.l.length q.c,.bool r.2])/\Grew w w'/\IntsIn w' w.heap.size w'.heap.size q.a q.c q.l/\Hid (q.l=r.1)
theorem retMv_no{r:List Int × Bool}{w w':World}(hg:Grew w w')(h:Hid (r=([],false))):RetMv r w (.returned (.tuple #[.slice none 0 0,.bool false])) w':=by
 rw[h.out];exact⟨PN.nil,rfl,hg,zbu,rfl⟩
theorem zcu{r:List Int × Bool}{l:List Int}{q:PN}{w w1 w':World}(g1:Grew w w1)(g2:Grew w1 w')(hq:IntsIn w' w1.heap.size w'.heap.size q.a q.c q.l)(he:Hid (q.l=l))(h:Hid (r=(l,true))):RetMv r w (.returned (.tuple #[.slice q.a q.l.length q.c,.bool true])) w':=by
 rw[h.out];exact⟨q,rfl,g1.trans g2,hq.mono g1.size zQ1,he⟩
theorem badN_bound{n:Int}(h:badN n=false):0<=n/\n<=1048576:=by
 unfold badN at h;simp only[Bool.or_eq_false_iff,decide_eq_false_iff_not] at h;omega
theorem concat2_any(a1 a2:Option Addr)(c1 c2 n2:Nat)(l1 l2:List Int)(w:World)(t:TypeId)(h1:IntsIn w 0 w.heap.size a1 c1 l1)(h2:IntsIn w 0 w.heap.size a2 c2 l2)(hn:n2=l2.length)(b1:l1.length<=1048576)(b2:l2.length<=1048576) :
  Calls Tryz.prog 167 #[.slice (some ⟨w.heap.size,0,none⟩) 2 2] (w.alloc (.cells #[.slice a1 l1.length c1,.slice a2 n2 c2] t)).drew (RetPath (l1++l2) w):=by
 subst hn;have g:Grew w (w.alloc (.cells #[.slice a1 l1.length c1,.slice a2 l2.length c2] t)).drew:=(Grew.alloc1 _ _).drew
 have hr:RowsI (w.alloc (.cells #[.slice a1 l1.length c1,.slice a2 l2.length c2] t)) w.heap.size (w.heap.size+1) (some ⟨w.heap.size,0,none⟩) 2 [⟨a1,c1,l1⟩,⟨a2,c2,l2⟩] :=
  zcC (n:=2) (cp:=2) (k:=1) zQ1 (by unfold maxLen;omega) (fun i hi j hj=>by
   obtain rfl:j=0:=by omega
   have hi':i=0\/i=1:=by omega
   rcases hi' with rfl | rfl <;> rfl)
 have hr2:RowsI (w.alloc (.cells #[.slice a1 l1.length c1,.slice a2 l2.length c2] t)).drew 0 (w.alloc (.cells #[.slice a1 l1.length c1,.slice a2 l2.length c2] t)).drew.heap.size (some ⟨w.heap.size,0,none⟩) 2 [⟨a1,c1,l1⟩,⟨a2,c2,l2⟩] :=
  (RowIn.agree hr ((Grew.refl _).drew.agree (by simp))).mono (Nat.zero_le _) (by simp)
 have C:=concatI_any (some ⟨w.heap.size,0,none⟩) 2 [⟨a1,c1,l1⟩,⟨a2,c2,l2⟩] _ hr2 (fun p hp=>by
  rcases List.mem_cons.1 hp with rfl | hp
  ·exact (IntsIn.agree h1 (g.agree zQ1)).mono zQ1 g.size
  ·obtain rfl:=List.mem_singleton.1 hp
   exact (IntsIn.agree h2 (g.agree zQ1)).mono zQ1 g.size) (by simp) (by simp[sumI];omega)
 refine C.mono ?_;rintro e w' ⟨v,rfl,g2,hv⟩;have hf:flatI [⟨a1,c1,l1⟩,⟨a2,c2,l2⟩]=l1++l2:=by simp[flatI]
 rw[hf] at hv;obtain⟨a,c,rfl,hi⟩:=intsIn_owned hv;exact⟨⟨a,c,l1++l2⟩,rfl,g.trans g2,hi.mono g.size zQ1,rfl⟩
theorem IntsIn.drop{w:World}{lo hi b o c:Nat}{l:List Int}(h:IntsIn w lo hi (some ⟨b,o,none⟩) c l)(k:Nat)(hk:k<=c):IntsIn w lo hi (some ⟨b,o+k,none⟩) (c - k) (l.drop k):=by
 have h1:=h.1.2.1;have h2:=h.1.2.2;refine⟨⟨fun e=>by simp at e,by simp;omega,by omega⟩,fun hn=>?_⟩;have hn2:0 < l.length:=by simp at hn;omega
 obtain⟨b2,o2,e,h1,h2,hc⟩:=h.2 hn2;injection e with e
 injection e with e1 e2
 refine⟨b,o+k,rfl,by omega,by omega,fun i hi j hj=>?_⟩;obtain rfl:j=0:=by omega
 have hi2:k+i < l.length:=by simp at hi;omega
 have:=hc (k+i) hi2 0 (by omega);rw[<- e1,<- e2] at this;rw[show o+k+i * 1+0=o+(k+i) * 1+0 by omega,this]
 simp[List.getD,List.getElem?_drop]
theorem move_any(a:Option Addr)(c:Nat)(p:List Int)(o:OpL)(w:World)(hp:IntsIn w 0 w.heap.size a c p)(ho:IntsIn w 0 w.heap.size o.path.a o.path.c o.path.l)(hd:IntsIn w 0 w.heap.size o.dest.a o.dest.c o.dest.l)(hl:p.length<=1048576)(hol:o.path.l.length<=1048576)(hdl:o.dest.l.length<=1048576) :
  Calls Tryz.prog 130 #[.slice a p.length c,o.val] w (RetMv (zbO p o.path.l o.dest.l o.kind o.pos) w):=by
 have later:∀ {a c l w1},IntsIn w 0 w.heap.size a c l->Grew w w1->IntsIn w1 0 w1.heap.size a c l:=fun h g=>(IntsIn.agree h (g.agree zQ1)).mono zQ1 g.size;have P1:=zQ0 (fun w1 (hg:Grew w w1)=>small_any p a c w1 (later hp hg) hl);have P2:=zQ0 (fun w1 (hg:Grew w w1)=>small_any o.path.l o.path.a o.path.c w1 (later ho hg) hol);have P3:=zQ0 (fun w1 (hg:Grew w w1)=>small_any o.dest.l o.dest.a o.dest.c w1 (later hd hg) hdl);have P4:=zQ0 (fun(w1:World)=>small_any [o.pos] (some ⟨w1.heap.size,0,none⟩) 1 (w1.alloc (.cells #[.int .i64 o.pos] 3)) ints_one (by simp));have ST:=zQ0 (fun w1 (hg:Grew w w1)=>stands_any o.path.a a o.path.c c o.path.l p w1 (later ho hg) (later hp hg) hol hl);have CL:=zQ0 (fun w1 (g:Grew w w1)=>zaU a c p w1 (later hp g) hl);have INS:=zQ0 (fun w1 (hg:Grew w w1)=>inserted_any a o.path.a c o.path.c p o.path.l w1 (later hp hg) (later ho hg) hl hol);have SH:=zQ0 (fun w1 (hg:Grew w w1) (k:Nat) (n:Int) (hk:k < p.length)=>shift_any a c p k n w1 (later hp hg) hl hk);have HM:Hid (zbO p o.path.l o.dest.l o.kind o.pos=if zcS p=true/\zcS o.path.l=true/\zcS o.dest.l=true/\zcS [o.pos]=true then (if o.path.l.length=0 then (p,true) else zbN p o.path.l o.dest.l o.kind o.pos (zcX o.path.l p)) else ([],false)):=rfl;have HLT:=zQ0 (fun h=>stands_lt (q:=o.path.l) (p:=p) h);have HAB:=zQ0 (fun h=>stands_above (q:=o.path.l) (p:=p) h);have HOR:=zQ0 (stands_or o.path.l p);have HPOS:Hid (zcS [o.pos]=true->0<=o.pos/\o.pos<=1048576):=fun h=>badN_bound (by cases hb:badN o.pos with | false=>rfl | true=>simp[zcS,zbl,List.findIdx?_cons,hb] at h);generalize zbO p o.path.l o.dest.l o.kind o.pos=res at *;generalize zcS p=b1 at *;generalize zcS o.path.l=b2 at *;generalize zcS o.dest.l=b3 at *;generalize zcS [o.pos]=b4 at *;have HPq:=zQ0 ho;have HPd:=zQ0 hd;have HPp:=zQ0 hp;have HLs:=zQ0 (⟨hl,hol,hdl⟩:_/\_/\_);clear hp ho hd later hl hol hdl;unfold OpL.val
 go_enter Tryz.func130,Tryz.ntmps130
 go_upto_region 1 with fail
 generalize hW:w.alloc _=w1;obtain⟨g1,rO,_,z1⟩:=zaq w o.cells _ w1 hW;clear hW;have KB:=zQ0 (fun(w':World) (g:Grew w1 w')=>(have h:=zcj rO g (by omega);⟨zci h (j:=0) rfl,zci h (j:=1) rfl,zci h (j:=2) rfl,zci h (j:=3) rfl⟩:w'.cell? ⟨w.heap.size,0,none⟩=some (.int .i64 o.kind)/\w'.cell? ⟨w.heap.size,1,none⟩=some (.slice o.path.a o.path.l.length o.path.c)/\w'.cell? ⟨w.heap.size,2,none⟩=some (.slice o.dest.a o.dest.l.length o.dest.c)/\w'.cell? ⟨w.heap.size,3,none⟩=some (.int .i64 o.pos)));have G1:=zQ0 g1;clear rO z1 g1;go_wp2_with fail
 refine (P1.out w1 G1.out).mono ?_;rintro e w2 ⟨rfl,g2⟩;have G2:=zQ0 (G1.out.trans g2);have G12:=zQ0 g2;clear g2
 cases b1 with
 | false =>
  have HN:Hid (res=([],false)):=by show _=_;rw[HM.out,if_neg (by simp)]
  go_wp2_with fail
  go_ret2
  exact retMv_no G2.out HN
 | true =>
 obtain⟨c0,c1,c2,c3⟩:=KB.out w2 G12.out;go_wp2_with fail
 refine (P2.out w2 G2.out).mono ?_;rintro e w3 ⟨rfl,g3⟩;clear c0 c1 c2 c3;have G3:=zQ0 (G2.out.trans g3);have G13:=zQ0 (G12.out.trans g3);clear g3 G2 G12
 cases b2 with
 | false =>
  have HN:Hid (res=([],false)):=by show _=_;rw[HM.out,if_neg (by simp)]
  go_wp2_with fail
  go_ret2
  exact retMv_no G3.out HN
 | true =>
 obtain⟨c0,c1,c2,c3⟩:=KB.out w3 G13.out;go_wp2_with fail
 refine (P3.out w3 G3.out).mono ?_;rintro e w4 ⟨rfl,g4⟩;clear c0 c1 c2 c3;have G4:=zQ0 (G3.out.trans g4);have G14:=zQ0 (G13.out.trans g4);clear g4 G3 G13
 cases b3 with
 | false =>
  have HN:Hid (res=([],false)):=by show _=_;rw[HM.out,if_neg (by simp)]
  go_wp2_with fail
  go_ret2
  exact retMv_no G4.out HN
 | true =>
 obtain⟨c0,c1,c2,c3⟩:=KB.out w4 G14.out;go_wp2_with fail
 refine (P4.out w4).mono ?_;rintro e w5 ⟨rfl,g5⟩;clear c0 c1 c2 c3;have G5:=zQ0 (G4.out.trans ((Grew.alloc1 _ _).trans g5));have G15:=zQ0 (G14.out.trans ((Grew.alloc1 _ _).trans g5));clear g5 G4 G14
 cases b4 with
 | false =>
  have HN:Hid (res=([],false)):=by show _=_;rw[HM.out,if_neg (by simp)]
  go_wp2_with fail
  go_ret2
  exact retMv_no G5.out HN
 | true =>
 have HM1:Hid (res=if o.path.l.length=0 then (p,true) else zbN p o.path.l o.dest.l o.kind o.pos (zcX o.path.l p)):=by show _=_;rw[HM.out,if_pos (by simp)]
 clear HM P1 P2 P3 P4;obtain⟨c0,c1,c2,c3⟩:=KB.out w5 G15.out;generalize hS:zcX o.path.l p=s at *;go_wp2_with fail
 refine (ST.out w5 G5.out).mono ?_;rintro e w6 ⟨rfl,g6⟩;clear c0 c1 c2 c3;have G6:=zQ0 (G5.out.trans g6);have G16:=zQ0 (G15.out.trans g6);clear g6 G5 G15 ST;obtain⟨c0,c1,c2,c3⟩:=KB.out w6 G16.out
 by_cases hq0:o.path.l.length=0
 ·have HN:Hid (res=(p,true)):=by show _=_;rw[HM1.out,if_pos hq0]
  have hwl:IntKind.i64.wrap ((o.path.l.length:Int) - 1)=(-1:Int):=by rw[hq0];rfl
  have tq:decide ((-1:Int) < 0)=true:=rfl;clear HM1 hq0;go_wp2_with fail
  refine (CL.out w6 G6.out).mono ?_;rintro e w7 ⟨q,rfl,g7,hq,he⟩;go_wp2_with fail
  go_ret2
  exact zcu G6.out g7 hq he HN
 ·have HM2:Hid (res=zbN p o.path.l o.dest.l o.kind o.pos s):=by show _=_;rw[HM1.out,if_neg hq0]
  obtain⟨k,hk⟩:∃ k,k=o.path.l.length - 1:=⟨_,rfl⟩
  have hwl:IntKind.i64.wrap ((o.path.l.length:Int) - 1)=(k:Int):=by have:=HLs.out;rw[IntKind.wrap_i64];omega
  have tq:decide ((k:Int) < 0)=false:=decide_eq_false (by omega);have HK:Hid (o.path.l.length=k+1):=by show _=_;omega
  have hsh:s≠0->k < p.length:=fun h=>by have:=(HLT.out h).2;omega
  have hsa:s=2->k+1 < p.length:=fun h=>by have:=(HAB.out h).2;omega
  have HSH:=zQ0 hsh;have HK':Hid (k=o.path.l.length - 1):=by show _=_;omega
  have HSA:=zQ0 hsa;clear HM1 hq0 hk HLT HAB hsh hsa;obtain⟨kk,hkk⟩:∃ kk,o.kind=kk:=⟨_,rfl⟩
  rw[hkk] at HM2 c0;clear hkk
  by_cases k1:kk=1
  ·subst k1;have HN:Hid (res=(zbs p o.path.l,true)):=by show _=_;rw[HM2.out];rfl
   clear HM2;go_wp2_with fail
   refine (INS.out w6 G6.out).mono ?_;rintro e w7 ⟨q,rfl,g7,hq,he⟩;go_wp2_with fail
   go_ret2
   exact zcu G6.out g7 hq he HN
  ·have n1:(kk == 1)=false:=by simpa using k1
   by_cases k2:kk=2
   ·subst k2;have HKK:Hid (res=if s=3\/s=2 then ([],false) else if s=1 then (zcP p k (-1),true) else (p,true)):=by show _=_;rw[HM2.out,HK'.out];rfl
    clear HM2
    rcases HOR.out with hs | hs | hs | hs
    ·subst hs;have HN:Hid (res=(p,true)):=by show _=_;rw[HKK.out];rfl
     clear HKK;go_wp2_with fail
     refine (CL.out w6 G6.out).mono ?_;rintro e w7 ⟨q,rfl,g7,hq,he⟩;go_wp2_with fail
     go_ret2
     exact zcu G6.out g7 hq he HN
    ·subst hs;have HN:Hid (res=(zcP p k (-1),true)):=by show _=_;rw[HKK.out];rfl
     clear HKK;go_wp2_with fail
     refine (SH.out w6 G6.out k (-1) (HSH.out (by decide))).mono ?_;rintro e w7 ⟨q,rfl,g7,hq,he⟩;go_wp2_with fail
     go_ret2
     exact zcu G6.out g7 hq he HN
    ·subst hs;have HN:Hid (res=([],false)):=by show _=_;rw[HKK.out];rfl
     clear HKK;go_wp2_with fail
     go_ret2
     exact retMv_no G6.out HN
    ·subst hs;have HN:Hid (res=([],false)):=by show _=_;rw[HKK.out];rfl
     clear HKK;go_wp2_with fail
     go_ret2
     exact retMv_no G6.out HN
   have n2:(kk == 2)=false:=by simpa using k2
   by_cases k3:kk=3
   ·subst k3;obtain⟨qb,qo,hqa,_,_,hqc⟩:=((IntsIn.agree HPq.out (G6.out.agree zQ1)).mono zQ1 G6.out.size).at (j:=k) (by have:=HK.out;omega);rw[hqa] at c1;have HX1:Hid (res=if o.path.l.getD k 0=0 then ([],false) else if s=2 then (zcP (zcP p (k+1) o.pos) k (-1),true) else if s=3\/s=1 then (zcP p k (-1),true) else (p,true)):=by show _=_;rw[HM2.out];show (if o.path.l.getD (o.path.l.length - 1) 0=0 then (([]:List Int),false) else if s=2 then (zcP (zcP p o.path.l.length o.pos) (o.path.l.length - 1) (-1),true) else if s=3\/s=1 then (zcP p (o.path.l.length - 1) (-1),true) else (p,true))=_;rw[<- HK'.out,HK.out]
    have qk1:(0:Int)<=(k:Int):=by omega
    have qk2:(k:Int) < (o.path.l.length:Int):=by have:=HK.out;omega
    clear HM2;generalize o.path.l.getD k 0=qk at *
    by_cases hqk:qk=0
    ·have t0:(qk == 0)=true:=by simpa using hqk
     have HN:Hid (res=([],false)):=by show _=_;rw[HX1.out,if_pos hqk]
     clear HX1 hqk;go_wp2_with fail
     go_ret2
     exact retMv_no G6.out HN
    ·have t0:(qk == 0)=false:=by simpa using hqk
     have HKK:Hid (res=if s=2 then (zcP (zcP p (k+1) o.pos) k (-1),true) else if s=3\/s=1 then (zcP p k (-1),true) else (p,true)):=by show _=_;rw[HX1.out,if_neg hqk]
     clear HX1 hqk
     rcases HOR.out with hs | hs | hs | hs
     ·subst hs;have HN:Hid (res=(p,true)):=by show _=_;rw[HKK.out];rfl
      clear HKK;go_wp2_with fail
      refine (CL.out w6 G6.out).mono ?_;rintro e w7 ⟨q,rfl,g7,hq,he⟩;go_wp2_with fail
      go_ret2
      exact zcu G6.out g7 hq he HN
     ·subst hs;have HN:Hid (res=(zcP p k (-1),true)):=by show _=_;rw[HKK.out];rfl
      clear HKK;go_wp2_with fail
      refine (SH.out w6 G6.out k (-1) (HSH.out (by decide))).mono ?_;rintro e w7 ⟨q,rfl,g7,hq,he⟩;go_wp2_with fail
      go_ret2
      exact zcu G6.out g7 hq he HN
     ·subst hs;have HN:Hid (res=(zcP (zcP p (k+1) o.pos) k (-1),true)):=by show _=_;rw[HKK.out];rfl
      clear HKK;have HE1:Hid (((k+1:Nat):Int)=(k:Int)+1):=by show _=_;omega
      have hkw:IntKind.i64.wrap ((k:Int)+1)=(k:Int)+1:=by have:=HLs.out;have:=HSA.out (by decide);rw[IntKind.wrap_i64];omega
      have SH1:=zQ0 (SH.out w6 G6.out (k+1) (o.pos) (HSA.out (by decide)));rw[HE1.out] at SH1;go_wp2_with fail
      refine SH1.out.mono ?_;rintro e w7 ⟨q,rfl,g7,hq,he⟩;have hql:q.l.length=p.length:=by rw[he.out];exact List.length_set
      have SH2:=zQ0 (fun w8 (g:Grew w7 w8)=>shift_any q.a q.c q.l k (-1) w8 ((hq.agree (g.agree zQ1)).mono (Nat.zero_le _) g.size) (by have:=HLs.out;omega) (by have:=HSA.out (by decide);omega));have G7:=zQ0 (G6.out.trans g7);have HE:=he;clear hq he hql g7;go_wp2_with fail
      refine (SH2.out w7 (Grew.refl _)).mono ?_;rintro e w8 ⟨q2,rfl,g8,hq2,he2⟩;go_wp2_with fail
      go_ret2
      have HE2:Hid (q2.l=zcP (zcP p (k+1) (o.pos)) k (-1)):=by show _=_;rw[he2.out,HE.out];rfl
      exact zcu G7.out g8 hq2 HE2 HN
     ·subst hs;have HN:Hid (res=(zcP p k (-1),true)):=by show _=_;rw[HKK.out];rfl
      clear HKK;go_wp2_with fail
      refine (SH.out w6 G6.out k (-1) (HSH.out (by decide))).mono ?_;rintro e w7 ⟨q,rfl,g7,hq,he⟩;go_wp2_with fail
      go_ret2
      exact zcu G6.out g7 hq he HN
   have n3:(kk == 3)=false:=by simpa using k3
   by_cases k4:kk=4
   ·subst k4;have HX1:Hid (res=if s=2/\o.pos<=p.getD (k+1) 0 then (zcP (zcP p (k+1) (-o.pos)) k 1,true) else if s=1 then (zcP p k 1,true) else (p,true)):=by show _=_;rw[HM2.out];show (if s=2/\o.pos<=p.getD o.path.l.length 0 then (zcP (zcP p o.path.l.length (-o.pos)) (o.path.l.length - 1) 1,true) else if s=1 then (zcP p (o.path.l.length - 1) 1,true) else (p,true))=_;rw[<- HK'.out,HK.out]
    clear HM2
    rcases HOR.out with hs | hs | hs | hs
    ·subst hs;have HN:Hid (res=(p,true)):=by show _=_;rw[HX1.out];simp
     clear HX1;go_upto_region 25 with fail
     go_quiet (fail)
     generalize hD:World.drewN w6 _=w60;have G60:Hid (Grew w w60):=by show Grew _ _;rw[<- hD];exact G6.out.drewN _
     have G160:Hid (Grew w1 w60):=by show Grew _ _;rw[<- hD];exact G16.out.drewN _
     clear hD c0 c1 c2 c3;obtain⟨c0,c1,c2,c3⟩:=KB.out w60 G160.out;go_wp2_with fail
     refine (CL.out w60 G60.out).mono ?_;rintro e w7 ⟨q,rfl,g7,hq,he⟩;go_wp2_with fail
     go_ret2
     exact zcu G60.out g7 hq he HN
    ·subst hs;have HN:Hid (res=(zcP p k 1,true)):=by show _=_;rw[HX1.out];simp
     clear HX1;go_upto_region 25 with fail
     go_quiet (fail)
     generalize hD:World.drewN w6 _=w60;have G60:Hid (Grew w w60):=by show Grew _ _;rw[<- hD];exact G6.out.drewN _
     have G160:Hid (Grew w1 w60):=by show Grew _ _;rw[<- hD];exact G16.out.drewN _
     clear hD c0 c1 c2 c3;obtain⟨c0,c1,c2,c3⟩:=KB.out w60 G160.out;go_wp2_with fail
     refine (SH.out w60 G60.out k 1 (HSH.out (by decide))).mono ?_;rintro e w7 ⟨q,rfl,g7,hq,he⟩;go_wp2_with fail
     go_ret2
     exact zcu G60.out g7 hq he HN
    ·subst hs;obtain⟨pb,po,hpa,_,_,hpc⟩:=((IntsIn.agree HPp.out (G6.out.agree zQ1)).mono zQ1 G6.out.size).at (j:=k+1) (HSA.out (by decide));have qk1:(0:Int)<=(k:Int)+1:=by omega
     have qk2:(k:Int)+1 < (p.length:Int):=by have:=HSA.out (by decide);omega
     have hkw:IntKind.i64.wrap ((k:Int)+1)=(k:Int)+1:=by have:=HLs.out;rw[IntKind.wrap_i64];omega
     have hnw:IntKind.i64.wrap (-o.pos)=-o.pos:=by have:=HPOS.out (by decide);rw[IntKind.wrap_i64];omega
     subst hpa;generalize hpk:p.getD (k+1) 0=pk at *;clear hpk
     by_cases hge:o.pos<=pk
     ·have t0:decide (o.pos<=pk)=true:=decide_eq_true hge;have HN:Hid (res=(zcP (zcP p (k+1) (-o.pos)) k 1,true)):=by show _=_;rw[HX1.out,if_pos ⟨rfl,hge⟩]
      clear HX1;go_upto_region 25 with fail
      go_quiet (fail)
      generalize hD:World.drewN w6 _=w60;have G60:Hid (Grew w w60):=by show Grew _ _;rw[<- hD];exact G6.out.drewN _
      have G160:Hid (Grew w1 w60):=by show Grew _ _;rw[<- hD];exact G16.out.drewN _
      clear hD c0 c1 c2 c3;obtain⟨c0,c1,c2,c3⟩:=KB.out w60 G160.out;have HE1:Hid (((k+1:Nat):Int)=(k:Int)+1):=by show _=_;omega
      have SH1:=zQ0 (SH.out w60 G60.out (k+1) (-o.pos) (HSA.out (by decide)));rw[HE1.out] at SH1;go_wp2_with fail
      refine SH1.out.mono ?_;rintro e w7 ⟨q,rfl,g7,hq,he⟩;have hql:q.l.length=p.length:=by rw[he.out];exact List.length_set
      have SH2:=zQ0 (fun w8 (g:Grew w7 w8)=>shift_any q.a q.c q.l k (1) w8 ((hq.agree (g.agree zQ1)).mono (Nat.zero_le _) g.size) (by have:=HLs.out;omega) (by have:=HSA.out (by decide);omega));have G7:=zQ0 (G60.out.trans g7);have HE:=he;clear hq he hql g7;go_wp2_with fail
      refine (SH2.out w7 (Grew.refl _)).mono ?_;rintro e w8 ⟨q2,rfl,g8,hq2,he2⟩;go_wp2_with fail
      go_ret2
      have HE2:Hid (q2.l=zcP (zcP p (k+1) (-o.pos)) k (1)):=by show _=_;rw[he2.out,HE.out];rfl
      exact zcu G7.out g8 hq2 HE2 HN
     ·have t0:decide (o.pos<=pk)=false:=decide_eq_false hge;have HN:Hid (res=(p,true)):=by show _=_;rw[HX1.out,if_neg (fun h=>hge h.2)];rfl
      clear HX1;go_upto_region 25 with fail
      go_quiet (fail)
      generalize hD:World.drewN w6 _=w60;have G60:Hid (Grew w w60):=by show Grew _ _;rw[<- hD];exact G6.out.drewN _
      have G160:Hid (Grew w1 w60):=by show Grew _ _;rw[<- hD];exact G16.out.drewN _
      clear hD c0 c1 c2 c3;obtain⟨c0,c1,c2,c3⟩:=KB.out w60 G160.out;go_wp2_with fail
      refine (CL.out w60 G60.out).mono ?_;rintro e w7 ⟨q,rfl,g7,hq,he⟩;go_wp2_with fail
      go_ret2
      exact zcu G60.out g7 hq he HN
    ·subst hs;have HN:Hid (res=(p,true)):=by show _=_;rw[HX1.out];simp
     clear HX1;go_upto_region 25 with fail
     go_quiet (fail)
     generalize hD:World.drewN w6 _=w60;have G60:Hid (Grew w w60):=by show Grew _ _;rw[<- hD];exact G6.out.drewN _
     have G160:Hid (Grew w1 w60):=by show Grew _ _;rw[<- hD];exact G16.out.drewN _
     clear hD c0 c1 c2 c3;obtain⟨c0,c1,c2,c3⟩:=KB.out w60 G160.out;go_wp2_with fail
     refine (CL.out w60 G60.out).mono ?_;rintro e w7 ⟨q,rfl,g7,hq,he⟩;go_wp2_with fail
     go_ret2
     exact zcu G60.out g7 hq he HN
   have n4:(kk == 4)=false:=by simpa using k4
   by_cases k5:kk=5
   ·subst k5;have HX1:Hid (res=if s=3\/s=2 then (o.dest.l++p.drop (k+1),true) else (zbs (if s=1 then zcP p k (-1) else p) o.dest.l,true)):=by show _=_;rw[HM2.out];show (if s=3\/s=2 then (o.dest.l++p.drop o.path.l.length,true) else (zbs (if s=1 then zcP p (o.path.l.length - 1) (-1) else p) o.dest.l,true))=_;rw[<- HK'.out,HK.out]
    clear HM2
    rcases HOR.out with hs | hs | hs | hs
    ·subst hs;have HN:Hid (res=(zbs p o.dest.l,true)):=by show _=_;rw[HX1.out];rfl
     clear HX1;have IN:=zQ0 (fun w1 (hg:Grew w w1)=>inserted_any a o.dest.a c o.dest.c p o.dest.l w1 ((IntsIn.agree HPp.out (hg.agree zQ1)).mono zQ1 hg.size) ((IntsIn.agree HPd.out (hg.agree zQ1)).mono zQ1 hg.size) HLs.out.1 HLs.out.2.2);go_wp2_with fail
     refine (IN.out w6 G6.out).mono ?_;rintro e w7 ⟨q,rfl,g7,hq,he⟩;go_wp2_with fail
     go_ret2
     exact zcu G6.out g7 hq he HN
    ·subst hs;have HN:Hid (res=(zbs (zcP p k (-1)) o.dest.l,true)):=by show _=_;rw[HX1.out];rfl
     clear HX1;go_wp2_with fail
     refine (SH.out w6 G6.out k (-1) (HSH.out (by decide))).mono ?_;rintro e w7 ⟨q,rfl,g7,hq,he⟩;have hql:q.l.length=p.length:=by rw[he.out];exact List.length_set
     have G7:=zQ0 (G6.out.trans g7);have G17:=zQ0 (G16.out.trans g7);have IN:=zQ0 (fun w1 (hg:Grew w7 w1)=>inserted_any q.a o.dest.a q.c o.dest.c q.l o.dest.l w1 ((hq.agree (hg.agree zQ1)).mono (Nat.zero_le _) hg.size) ((IntsIn.agree HPd.out ((G7.out.trans hg).agree zQ1)).mono zQ1 (G7.out.trans hg).size) (by have:=HLs.out;omega) HLs.out.2.2);have HE:=he;clear hq hql he g7 c0 c1 c2 c3;obtain⟨c0,c1,c2,c3⟩:=KB.out w7 G17.out;go_wp2_with fail
     refine (IN.out w7 (Grew.refl _)).mono ?_;rintro e w8 ⟨q2,rfl,g8,hq2,he2⟩;go_wp2_with fail
     go_ret2
     have HE2:Hid (q2.l=zbs (zcP p k (-1)) o.dest.l):=by show _=_;rw[he2.out,HE.out];rfl
     exact zcu G7.out g8 hq2 HE2 HN
    ·subst hs;have HN:Hid (res=(o.dest.l++p.drop (k+1),true)):=by show _=_;rw[HX1.out];rfl
     clear HX1;have hkp:=HSH.out (by decide);obtain⟨pb,po,hpa,_,_,_⟩:=HPp.out.2 (by omega);subst hpa;have hcap:=HPp.out.1.2.1;have q0:(0:Int)<=(k:Int)+1:=by omega
     have q1:(k:Int)+1<=p.length:=by omega
     have q2:(p.length:Int)<=c:=by omega
     have q3:(k:Int)+1<=c:=by omega
     have hkw:IntKind.i64.wrap ((k:Int)+1)=(k:Int)+1:=by have:=HLs.out;rw[IntKind.wrap_i64];omega
     have g20:Grew w6 w6.drew:=(Grew.refl _).drew;have KB6:∀ w',Grew w6 w'->w'.cell? ⟨w.heap.size,2,none⟩=some (.slice o.dest.a o.dest.l.length o.dest.c):=fun w' g=>(KB.out w' (G16.out.trans g)).2.2.1
     by_cases hkc:c=k+1
     ·subst hkc;have HD:Hid (p.drop (k+1)=[]):=by show _=_;rw[List.drop_eq_nil_iff];omega
      have CC:=zQ0 (concat2_any o.dest.a (some ⟨pb,po,none⟩) o.dest.c 0 (p.length - (k+1)) o.dest.l [] w6 27 ((IntsIn.agree HPd.out (G6.out.agree zQ1)).mono zQ1 G6.out.size) ⟨⟨(fun e=>by cases e),Nat.le_refl _,Nat.zero_le _⟩,fun h=>absurd h (Nat.lt_irrefl _)⟩ (by show _=0;omega) HLs.out.2.2 (by simp));clear hkp hcap;go_upto_region 33 with fail
      go_region_held3 (fun w'=>Grew w6 w') ((first | assumption | exact g20 | exact Grew.trans (by assumption) (by assumption) | exact Grew.trans (by assumption) (Grew.alloc1 _ _))) ((first | (go_at_call 167;refine CC.out.mono ?_;rintro e w7 ⟨q,rfl,g7,hq,he⟩)))
      go_wp2_with fail
      go_ret2
      have HE:Hid (q.l=o.dest.l++p.drop (k+1)):=by show _=_;rw[HD.out,he.out]
      exact zcu G6.out g7 hq HE HN
     ·have q4:¬ c=k+1:=hkc;have q5:(k:Int)+1 < c:=by omega
      have CC:=zQ0 (concat2_any o.dest.a (some ⟨pb,po+(k+1),none⟩) o.dest.c (c - (k+1)) (p.length - (k+1)) o.dest.l (p.drop (k+1)) w6 27 ((IntsIn.agree HPd.out (G6.out.agree zQ1)).mono zQ1 G6.out.size) (IntsIn.drop ((IntsIn.agree HPp.out (G6.out.agree zQ1)).mono zQ1 G6.out.size) (k+1) (by omega)) List.length_drop.symm HLs.out.2.2 (by have:=HLs.out;rw[List.length_drop];omega));clear hkc hkp hcap;go_upto_region 33 with fail
      go_region_held3 (fun w'=>Grew w6 w') ((first | assumption | exact g20 | exact Grew.trans (by assumption) (by assumption) | exact Grew.trans (by assumption) (Grew.alloc1 _ _))) ((first | (go_at_call 167;refine CC.out.mono ?_;rintro e w7 ⟨q,rfl,g7,hq,he⟩)))
      go_wp2_with fail
      go_ret2
      exact zcu G6.out g7 hq he HN
    ·subst hs;have HN:Hid (res=(o.dest.l++p.drop (k+1),true)):=by show _=_;rw[HX1.out];rfl
     clear HX1;have hkp:=HSH.out (by decide);obtain⟨pb,po,hpa,_,_,_⟩:=HPp.out.2 (by omega);subst hpa;have hcap:=HPp.out.1.2.1;have q0:(0:Int)<=(k:Int)+1:=by omega
     have q1:(k:Int)+1<=p.length:=by omega
     have q2:(p.length:Int)<=c:=by omega
     have q3:(k:Int)+1<=c:=by omega
     have hkw:IntKind.i64.wrap ((k:Int)+1)=(k:Int)+1:=by have:=HLs.out;rw[IntKind.wrap_i64];omega
     have g20:Grew w6 w6.drew:=(Grew.refl _).drew;have KB6:∀ w',Grew w6 w'->w'.cell? ⟨w.heap.size,2,none⟩=some (.slice o.dest.a o.dest.l.length o.dest.c):=fun w' g=>(KB.out w' (G16.out.trans g)).2.2.1
     by_cases hkc:c=k+1
     ·subst hkc;have HD:Hid (p.drop (k+1)=[]):=by show _=_;rw[List.drop_eq_nil_iff];omega
      have CC:=zQ0 (concat2_any o.dest.a (some ⟨pb,po,none⟩) o.dest.c 0 (p.length - (k+1)) o.dest.l [] w6 27 ((IntsIn.agree HPd.out (G6.out.agree zQ1)).mono zQ1 G6.out.size) ⟨⟨(fun e=>by cases e),Nat.le_refl _,Nat.zero_le _⟩,fun h=>absurd h (Nat.lt_irrefl _)⟩ (by show _=0;omega) HLs.out.2.2 (by simp));clear hkp hcap;go_upto_region 33 with fail
      go_region_held3 (fun w'=>Grew w6 w') ((first | assumption | exact g20 | exact Grew.trans (by assumption) (by assumption) | exact Grew.trans (by assumption) (Grew.alloc1 _ _))) ((first | (go_at_call 167;refine CC.out.mono ?_;rintro e w7 ⟨q,rfl,g7,hq,he⟩)))
      go_wp2_with fail
      go_ret2
      have HE:Hid (q.l=o.dest.l++p.drop (k+1)):=by show _=_;rw[HD.out,he.out]
      exact zcu G6.out g7 hq HE HN
     ·have q4:¬ c=k+1:=hkc;have q5:(k:Int)+1 < c:=by omega
      have CC:=zQ0 (concat2_any o.dest.a (some ⟨pb,po+(k+1),none⟩) o.dest.c (c - (k+1)) (p.length - (k+1)) o.dest.l (p.drop (k+1)) w6 27 ((IntsIn.agree HPd.out (G6.out.agree zQ1)).mono zQ1 G6.out.size) (IntsIn.drop ((IntsIn.agree HPp.out (G6.out.agree zQ1)).mono zQ1 G6.out.size) (k+1) (by omega)) List.length_drop.symm HLs.out.2.2 (by have:=HLs.out;rw[List.length_drop];omega));clear hkc hkp hcap;go_upto_region 33 with fail
      go_region_held3 (fun w'=>Grew w6 w') ((first | assumption | exact g20 | exact Grew.trans (by assumption) (by assumption) | exact Grew.trans (by assumption) (Grew.alloc1 _ _))) ((first | (go_at_call 167;refine CC.out.mono ?_;rintro e w7 ⟨q,rfl,g7,hq,he⟩)))
      go_wp2_with fail
      go_ret2
      exact zcu G6.out g7 hq he HN
   have n5:(kk == 5)=false:=by simpa using k5
   have HN:Hid (res=(p,true)):=by
    show _=_;rw[HM2.out];unfold zbN;rw[if_neg k1,if_neg k2,if_neg k3,if_neg k4,if_neg k5]
   clear HM2 k1 k2 k3 k4 k5;go_wp2_with fail
   refine (CL.out w6 G6.out).mono ?_;rintro e w7 ⟨q,rfl,g7,hq,he⟩;go_wp2_with fail
   go_ret2
   exact zcu G6.out g7 hq he HN
def RetPN(r:List Int × Int)(w:World)(e:Ending)(w':World):Prop:=∃ q:PN,e=.returned (.tuple #[.slice q.a q.l.length q.c,.int .i64 r.2])/\Grew w w'/\IntsIn w' w.heap.size w'.heap.size q.a q.c q.l/\Hid (q.l=r.1)
theorem retPN_no{r:List Int × Int}{k:Int}{w w':World}(hg:Grew w w')(h:Hid (r=([],k))):RetPN r w (.returned (.tuple #[.slice none 0 0,.int .i64 k])) w':=by
 rw[h.out];exact⟨PN.nil,rfl,hg,zbu,rfl⟩
def lastP(p:List Int):Int:=p.getD (p.length - 1) 0
def zao(p:List Int)(n:Int):List Int × Int:=if p.length=0 then ([],6) else if (0 < n/\lastP p=9223372036854775807)\/(n < 0/\lastP p<=0) then ([],8) else (zcP p (p.length - 1) n,0)
def zbR(p:List Int):List Int × Int:=zao p 1
def zam(p:List Int):List Int × Int:=zao p (-1)
theorem beside_any(a:Option Addr)(c:Nat)(p:List Int)(n:Int)(w:World)(hn:n=1\/n=-1)(hr:IntsIn w 0 w.heap.size a c p)(hl:p.length<=1048576) :
  Calls Tryz.prog 60 #[.slice a p.length c,.int .i64 n] w (RetPN (zao p n) w):=by
 have HB:Hid (zao p n=if p.length=0 then ([],6) else if (0 < n/\lastP p=9223372036854775807)\/(n < 0/\lastP p<=0) then ([],8) else (zcP p (p.length - 1) n,0)):=rfl;generalize zao p n=res at *
 by_cases h0:p.length=0
 ·have HN:Hid (res=([],6)):=by show _=_;rw[HB.out,if_pos h0]
  have t0:((p.length:Int) == 0)=true:=by simp[h0]
  clear HB hr hn
  go_enter Tryz.func60,Tryz.ntmps60
  go_wp2_with fail
  go_ret2
  exact retPN_no (Grew.refl _) HN
 ·have C:=zQ0 (cloneInts_any a c p w _ _ hr zQ1 hl);obtain⟨k,hk⟩:∃ k,k=p.length - 1:=⟨_,rfl⟩
  have hkl:k < p.length:=by omega
  have t0:((p.length:Int) == 0)=false:=by simpa using h0
  have q1:(k:Int) < p.length:=by omega
  have q2:(0:Int)<=k:=by omega
  have hwl:IntKind.i64.wrap ((p.length:Int) - 1)=(k:Int):=by rw[IntKind.wrap_i64];omega
  have HX:Hid (res=if (0 < n/\p.getD k 0=9223372036854775807)\/(n < 0/\p.getD k 0<=0) then ([],8) else (p.set k (wrap64 (p.getD k 0+n)),0)):=by
   show _=_;rw[HB.out,if_neg h0,hk];rfl
  clear HB h0;have HL1:=zQ0 hl;clear hl hr
  go_enter Tryz.func60,Tryz.ntmps60
  go_wp2_with fail
  refine C.out.mono ?_;rintro e w1 ⟨v,rfl,g1,hown⟩;obtain⟨va,vc,rfl⟩:=zb2 hown;have hrow:=zbZ (f:=fun i _=>.int .i64 (p.getD i 0)) hown (ints_at p);have hin:IntsIn w1 w.heap.size w1.heap.size va vc p:=hrow.1;obtain⟨b,o,rfl,hb1,hb2,c0⟩:=hin.at hkl;have f0:=hrow.2 (by omega) _ rfl (o+k);have HS:=zQ0 (hin.set hkl (wrap64 (p.getD k 0+n)));have HL:Hid ((p.set k (wrap64 (p.getD k 0+n))).length=p.length):=by show _=_;simp
  have HG:=zQ0 (g1.setCell (p:=⟨b,o+k,none⟩) hb1 (.int .i64 (wrap64 (p.getD k 0+n))));have HG1:=zQ0 g1;clear hin hrow hown C g1 hk;generalize p.set k (wrap64 (p.getD k 0+n))=r at *;generalize p.getD k 0=x at *
  rcases hn with rfl | rfl
  ·by_cases hx:x=9223372036854775807
   ·have t1:(x == 9223372036854775807)=true:=by simpa using hx
    have HN:Hid (res=([],8)):=by show _=_;rw[HX.out,if_pos (Or.inl ⟨by decide,hx⟩)]
    clear HX hx;go_wp2_with fail
    go_ret2
    exact retPN_no HG1.out HN
   ·have t1:(x == 9223372036854775807)=false:=by simpa using hx
    have HN:Hid (res=(r,0)):=by show _=_;rw[HX.out,if_neg (by simp[hx])]
    clear HX hx;go_wp2_with fail
    go_ret2
    rw[HN.out];refine⟨⟨some ⟨b,o,none⟩,vc,r⟩,?_,HG.out,?_,rfl⟩
    ·rw[HL.out];rfl
    ·rw[World.size_setCell];exact HS.out
  ·by_cases hx:x<=0
   ·have t1:decide (x<=0)=true:=by simpa using hx
    have HN:Hid (res=([],8)):=by show _=_;rw[HX.out,if_pos (Or.inr ⟨by decide,hx⟩)]
    clear HX;go_wp2_with fail
    go_ret2
    exact retPN_no HG1.out HN
   ·have t1:decide (x<=0)=false:=by simpa using hx
    have HN:Hid (res=(r,0)):=by show _=_;rw[HX.out,if_neg (by simp;omega)]
    clear HX;go_wp2_with fail
    go_ret2
    rw[HN.out];refine⟨⟨some ⟨b,o,none⟩,vc,r⟩,?_,HG.out,?_,rfl⟩
    ·rw[HL.out];rfl
    ·rw[World.size_setCell];exact HS.out
theorem trailNext_any(a:Option Addr)(c:Nat)(p:List Int)(w:World)(hr:IntsIn w 0 w.heap.size a c p)(hl:p.length<=1048576) :
  Calls Tryz.prog 129 #[.slice a p.length c] w (RetPN (zbR p) w):=by
 have C:=zQ0 (beside_any a c p 1 w (Or.inl rfl) hr hl)
 go_enter Tryz.func129,Tryz.ntmps129
 go_wp2_with fail
 refine C.out.mono ?_;rintro e w1 ⟨q,rfl,g1,hq,he⟩;go_wp2_with fail
 go_ret2
 exact⟨q,rfl,g1,hq,he⟩
theorem trailBack_any(a:Option Addr)(c:Nat)(p:List Int)(w:World)(hr:IntsIn w 0 w.heap.size a c p)(hl:p.length<=1048576) :
  Calls Tryz.prog 26 #[.slice a p.length c] w (RetPN (zam p) w):=by
 have C:=zQ0 (beside_any a c p (-1) w (Or.inr rfl) hr hl)
 go_enter Tryz.func26,Tryz.ntmps26
 go_wp2_with fail
 refine C.out.mono ?_;rintro e w1 ⟨q,rfl,g1,hq,he⟩;go_wp2_with fail
 go_ret2
 exact⟨q,rfl,g1,hq,he⟩
def zcK(a b:SelE):Bool:=decide (a.is=b.is) && zcJ a.a b.a && zcJ a.f b.f
def OpE.nil:OpE:=OpE.of 0 [] [] 0 T.zero []
def hasL(k:Int):Option (List Int) :=
 if k=1 then some [112,110] else if k=2 then some [112,110] else if k=3 then some [112,97,111] else if k=4 then some [112,97,119] else if k=5 then some [112,116] else if k=6 then some [112,111,119]
 else if k=7 then some [112,97,120] else if k=8 then some [112,97,120] else if k=9 then some [115] else none
noncomputable def za6 (o:OpE):List (Int × Bool):=[(112,decide (0 < o.path.length)),(116,decide (0 < o.dest.length)),(97,decide (o.pos≠0)),(110,decide (o.node≠T.zero)),(111,decide (0 < o.old.length)),(119,decide (0 < o.new.length)),(120,decide (0 < o.text.length)),(115,!zcK o.src SelE.nil),(115,!zcK o.dst SelE.nil)]
def setOf(l:List (Int × Bool)):List Int:=(l.filter (·.2)).map (·.1)
noncomputable def setE (o:OpE):List Int:=setOf (za6 o)
noncomputable def zba (o:OpE):Int:=match hasL o.kind with
 | none=>1
 | some fs=>if (setE o).all (fun c=>decide (c∈fs)) then 0 else 1
def zda(k:Int):Int:=if k=1 then 2 else if k=2 then 1 else if k=3 then 4 else if k=4 then 3 else if k=7 then 8 else if k=8 then 7 else if k=5 then 5 else if k=6 then 6 else if k=9 then 9 else 0
def OpE.turned(o:OpE):OpE:=⟨zda o.kind,o.path,o.dest,o.pos,o.node,o.new,o.old,o.text,o.dst,o.src⟩
noncomputable def invT (o:OpE):OpE × Int :=
 if zba o≠0 then (OpE.nil,zba o)
 else if o.kind=5 then ({ o.turned with path:=o.dest,dest:=o.path },0)
 else if o.kind=3 then (if (zam o.path).2≠0 then (OpE.nil,(zam o.path).2) else ({ o.turned with path:=(zam o.path).1 },0))
 else if o.kind=4 then (if (zbR o.path).2≠0 then (OpE.nil,(zbR o.path).2) else ({ o.turned with path:=(zbR o.path).1 },0))
 else (o.turned,0)
theorem sameSel_any(s t:SelL)(w:World)(hs:s.In w 0 w.heap.size)(ht:t.In w 0 w.heap.size)(l1:s.a.p.l.length<=1048576)(l2:s.f.p.l.length<=1048576)(l3:t.a.p.l.length<=1048576)(l4:t.f.p.l.length<=1048576) :
  Calls Tryz.prog 32 #[.agg #[.bool s.is,.slice s.a.p.a s.a.p.l.length s.a.p.c,.int .i64 s.a.o,.slice s.f.p.a s.f.p.l.length s.f.p.c,.int .i64 s.f.o],.agg #[.bool t.is,.slice t.a.p.a t.a.p.l.length t.a.p.c,.int .i64 t.a.o,.slice t.f.p.a t.f.p.l.length t.f.p.c,.int .i64 t.f.o]] w fun e w'=>e=.returned (.bool (zcK s.er t.er))/\Grew w w':=by
 have SA:=zQ0 (fun w1 (g:Grew w w1)=>zb9 s.a t.a w1 (hs.1.later g) l1 (ht.1.later g) l3);have SF:=zQ0 (fun w1 (g:Grew w w1)=>zb9 s.f t.f w1 (hs.2.later g) l2 (ht.2.later g) l4);have HR:Hid (zcK s.er t.er=(decide (s.is=t.is) && zcJ s.a.er t.a.er && zcJ s.f.er t.f.er)):=rfl;clear hs ht l1 l2 l3 l4;generalize zcK s.er t.er=res at *;generalize zcJ s.a.er t.a.er=r1 at *;generalize zcJ s.f.er t.f.er=r2 at *
 go_enter Tryz.func32,Tryz.ntmps32
 go_upto_region 1 with fail
 generalize hW:(w.alloc _).alloc _=w1;obtain⟨g1,rS,_,rT,_,z1⟩:=zar w [.bool s.is,.slice s.a.p.a s.a.p.l.length s.a.p.c,.int .i64 s.a.o,.slice s.f.p.a s.f.p.l.length s.f.p.c,.int .i64 s.f.o] [.bool t.is,.slice t.a.p.a t.a.p.l.length t.a.p.c,.int .i64 t.a.o,.slice t.f.p.a t.f.p.l.length t.f.p.c,.int .i64 t.f.o] _ _ w1 hW;clear hW
 have KB:=zQ0 (fun(w':World) (g:Grew w1 w')=>(have h:=zcj rS g (by omega);have k:=zcj rT g (by omega);⟨zci h (j:=0) rfl,zci h (j:=1) rfl,zci h (j:=2) rfl,zci h (j:=3) rfl,zci h (j:=4) rfl,zci k (j:=0) rfl,zci k (j:=1) rfl,zci k (j:=2) rfl,zci k (j:=3) rfl,zci k (j:=4) rfl⟩ :
  w'.cell? ⟨w.heap.size,0,none⟩=some (.bool s.is)/\w'.cell? ⟨w.heap.size,1,none⟩=some (.slice s.a.p.a s.a.p.l.length s.a.p.c)/\w'.cell? ⟨w.heap.size,2,none⟩=some (.int .i64 s.a.o)/\w'.cell? ⟨w.heap.size,3,none⟩=some (.slice s.f.p.a s.f.p.l.length s.f.p.c)/\w'.cell? ⟨w.heap.size,4,none⟩=some (.int .i64 s.f.o) /\
  w'.cell? ⟨w.heap.size+1,0,none⟩=some (.bool t.is)/\w'.cell? ⟨w.heap.size+1,1,none⟩=some (.slice t.a.p.a t.a.p.l.length t.a.p.c)/\w'.cell? ⟨w.heap.size+1,2,none⟩=some (.int .i64 t.a.o)/\w'.cell? ⟨w.heap.size+1,3,none⟩=some (.slice t.f.p.a t.f.p.l.length t.f.p.c)/\w'.cell? ⟨w.heap.size+1,4,none⟩=some (.int .i64 t.f.o)))
 have G1:=zQ0 g1;clear g1 rS rT z1;obtain⟨c0,c1,c2,c3,c4,d0,d1,d2,d3,d4⟩:=KB.out w1 (Grew.refl _)
 by_cases hi:s.is=t.is
 ·have t0:(s.is == t.is)=true:=by simpa using hi
  have HX:Hid (res=(r1 && r2)):=by show _=_;rw[HR.out];simp[hi]
  clear HR hi;go_wp2_with fail
  refine (SA.out w1 G1.out).mono ?_;rintro e w2 ⟨rfl,g2⟩;clear c0 c1 c2 c3 c4 d0 d1 d2 d3 d4;obtain⟨c0,c1,c2,c3,c4,d0,d1,d2,d3,d4⟩:=KB.out w2 g2;have G2:=zQ0 (G1.out.trans g2);clear g2
  cases r1 with
  | true =>
   go_wp2_with fail
   refine (SF.out w2 G2.out).mono ?_;rintro e w3 ⟨rfl,g3⟩;have G3:=zQ0 (G2.out.trans g3);clear g3;go_wp2_with fail
   go_ret
   exact⟨by rw[HX.out];rfl,G3.out⟩
  | false =>
   go_wp2_with fail
   go_ret
   exact⟨by rw[HX.out];rfl,G2.out⟩
 ·have t0:(s.is == t.is)=false:=by simpa using hi
  have HX:Hid (res=false):=by show _=_;rw[HR.out];simp[hi]
  clear HR hi;go_wp2_with fail
  go_ret
  exact⟨by rw[HX.out];rfl,G1.out⟩
end Go.Proofs.YtccobobnmpafbaaGreatDoor
