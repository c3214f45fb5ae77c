/- xpath.shift: the contract. -/
import Derived.Test.YtccobobnmpafbaaGreatDoorK02
import Derived.Test.YtccobobnmpafbaaGreatDoorK06
import Derived.Test.YtccobobnmpafbaaGreatDoorK03
import Derived.Lib.AppendZerosOnto
import Derived.Lib.SliceRun
import Derived.Laws.OwnMore
set_option maxRecDepth 100000
set_option maxHeartbeats 100000000
namespace Go.Proofs.YtccobobnmpafbaaGreatDoor
open Go Go.RowKit
theorem shift_any(a:Option Addr)(c:Nat)(p:List Int)(k:Nat)(n:Int)(w:World)(hr:IntsIn w 0 w.heap.size a c p)(hl:p.length<=1048576)(hk:k < p.length) :
  Calls Tryz.prog 166 #[.slice a p.length c,.int .i64 k,.int .i64 n] w (RetPath (p.set k (wrap64 (p.getD k 0+n))) w):=by
 have C:=zQ0 (cloneInts_any a c p w _ _ hr zQ1 hl);have q1:(k:Int) < p.length:=by omega
 have q2:(0:Int)<=k:=by omega
 go_enter Tryz.func166,Tryz.ntmps166
 go_wp2_with fail
 refine C.out.mono ?_;rintro e w1 ⟨v,rfl,g1,hown⟩;obtain⟨va,vc,rfl⟩:=zb2 hown;have hrow:=zbZ (f:=fun i _=>.int .i64 (p.getD i 0)) hown (ints_at p);have hin:IntsIn w1 w.heap.size w1.heap.size va vc p:=hrow.1;obtain⟨b,o,rfl,hb1,hb2,c0⟩:=hin.at hk;have f0:=hrow.2 (by omega) _ rfl (o+k);have HS:=zQ0 (hin.set hk (wrap64 (p.getD k 0+n)));have HL:Hid ((p.set k (wrap64 (p.getD k 0+n))).length=p.length):=by show _=_;simp
 have HG:=zQ0 (g1.setCell (p:=⟨b,o+k,none⟩) hb1 (.int .i64 (wrap64 (p.getD k 0+n))));clear hin hrow hown C;generalize p.set k (wrap64 (p.getD k 0+n))=r at *;generalize p.getD k 0=x at *;go_wp2_with fail
 go_ret
 refine⟨⟨some ⟨b,o,none⟩,vc,r⟩,?_,HG.out,?_,rfl⟩
 ·rw[HL.out];rfl
 ·rw[World.size_setCell];exact HS.out
/- xpath.small: the contract. -/
def badN(n:Int):Bool:=decide (n < 0) || decide (1048576 < n)
theorem small1_any(n:Int)(w:World):Calls Tryz.prog 196 #[.int .i64 n] w fun e w'=>e=.returned (.bool (badN n))/\Grew w w':=by
 by_cases h:n < 0
 ·have t:decide (n < 0)=true:=by simpa using h
  have HN:Hid (badN n=true):=by show _=_;simp[badN,h]
  clear h
  go_enter Tryz.func196,Tryz.ntmps196
  go_wp2_with fail
  go_ret
  exact⟨zcy (by rw[HN.out]),Grew.refl _⟩
 ·have t:decide (n < 0)=false:=by simpa using h
  have HN:Hid (badN n=decide (1048576 < n)):=by show _=_;simp[badN,h]
  clear h
  go_enter Tryz.func196,Tryz.ntmps196
  go_wp2_with fail
  go_ret
  exact⟨zcy (by rw[HN.out]),Grew.refl _⟩
theorem indexInts_any(L:List Int)(a:Option Addr)(c:Nat)(pf:FuncId)(caps:Array Value)(pr:Int->Bool)(w:World)(eg:∀ args w,(callFunc pf args).run Tryz.prog w=.ok (.enter pf args) w)(hcall:∀ x,∀ w1,Grew w w1->Calls Tryz.prog pf (#[.int .i64 x]++caps) w1 fun e w'=>e=.returned (.bool (pr x))/\Grew w1 w')(hL:IntsIn w 0 w.heap.size a c L)(hlen:L.length<=1048576) :
  Calls Tryz.prog 217 #[.slice a L.length c,.func (.func pf) #[] caps] w fun e w' =>
   e=.returned (.int .i64 (zbl pr L))/\Grew w w':=by
 have HC:=zQ0 hcall;clear hcall
 go_enter Tryz.func217,Tryz.ntmps217
 go_wp2_with fail
 go_loopw [8] (fun i wr=>∃(k:Nat),k<=L.length/\i=.int .i64 k/\Grew w wr/\∀ j,j < k->pr (L.getD j default)=false) (fun i _=>L.length - (intOf i).toNat)
 case atStart=>exact⟨0,by omega,rfl,Grew.refl _,fun j hj=>by omega⟩
 case round =>
  obtain⟨k,hk1,rfl,hg,hall⟩:=hrel;have HA:=zQ0 hall;clear hall
  by_cases hlt:k < L.length
  ·obtain⟨b,o,rfl,_,hbh,c0⟩:=(IntsIn.agree hL (hg.agree zQ1)).at hlt;have HC1:=zQ0 (HC.out (L.getD k 0) wr hg)
   cases hpr:pr (L.getD k 0) with
   | false =>
    have HX:Hid (∀ j,j < k+1->pr (L.getD j default)=false):=fun j hj=>by
     rcases Nat.lt_or_ge j k with h | h
     ·exact HA.out j h
     ·obtain rfl:j=k:=by omega
      exact hpr
    rw[hpr] at HC1;clear hpr;generalize L.getD k 0=x at *;go_wp2_with fail
    refine HC1.out.mono ?_;rintro e w' ⟨rfl,hg2⟩;go_wp2_with fail
    go_roundw
    case rel=>exact⟨k+1,by omega,by go_num,hg.trans hg2,HX.out⟩
    case measure=>simp[intOf];omega
   | true =>
    have HX:=zQ0 (idxOf_found hlt (pr:=pr) hpr HA.out);rw[hpr] at HC1;clear hpr;generalize L.getD k 0=x at *;go_wp2_with fail
    refine HC1.out.mono ?_;rintro e w' ⟨rfl,hg2⟩;go_wp2_with fail
    go_ret
    exact⟨zcz (by rw[HX.out]),hg.trans hg2⟩
  ·have HX:=zQ0 (idxOf_none (pr:=pr) (l:=L) (fun j hj=>HA.out j (by omega)));go_wp2_with fail
   go_ret
   exact⟨zcz (by rw[HX.out]),hg⟩
def zcS(l:List Int):Bool:=!(decide ((0:Int)<=zbl badN l))
theorem containsInts_any(L:List Int)(a:Option Addr)(c:Nat)(w:World)(hL:IntsIn w 0 w.heap.size a c L)(hlen:L.length<=1048576) :
  Calls Tryz.prog 195 #[.slice a L.length c,.func (.func 196) #[] #[]] w fun e w'=>e=.returned (.bool (decide ((0:Int)<=zbl badN L)))/\Grew w w':=by
 have C:=zQ0 (indexInts_any L a c 196 #[] badN w (fun _ _=>rfl) (fun x w1 _=>small1_any x w1) hL hlen);generalize zbl badN L=i at *;clear hL
 go_enter Tryz.func195,Tryz.ntmps195
 go_wp2_with fail
 refine C.out.mono ?_;rintro e w1 ⟨rfl,g1⟩;go_wp2_with fail
 go_ret
 exact⟨rfl,g1⟩
theorem small_any(L:List Int)(a:Option Addr)(c:Nat)(w:World)(hL:IntsIn w 0 w.heap.size a c L)(hlen:L.length<=1048576) :
  Calls Tryz.prog 163 #[.slice a L.length c] w fun e w'=>e=.returned (.bool (zcS L))/\Grew w w':=by
 have C:=zQ0 (containsInts_any L a c w hL hlen);have HS:Hid (zcS L=!(decide ((0:Int)<=zbl badN L))):=rfl;generalize zcS L=r at *;generalize decide ((0:Int)<=zbl badN L)=b at *;clear hL
 go_enter Tryz.func163,Tryz.ntmps163
 go_wp2_with fail
 refine C.out.mono ?_;rintro e w1 ⟨rfl,g1⟩;go_wp2_with fail
 go_ret
 exact⟨zcy (by rw[HS.out]),g1⟩
/- xpath.stands, xpath.inserted: of a path and itself. -/
/- hold.bare: the contract. -/
def RefL.bare(r:RefL):RefL:={ RefL.nil with id:=r.id,kind:=r.kind,aff:=r.aff }
theorem zbk(r:RefL)(w:World):Calls Tryz.prog 51 #[r.val] w fun e w'=>e=.returned r.bare.val/\Grew w w':=by
 unfold RefL.val;have g1:=(Grew.alloc1 w (.cells #[.int .i64 r.id,.int .i64 r.kind,.int .i64 r.aff,.bool r.live,.slice r.path.a r.path.l.length r.path.c,.slice r.pt.p.a r.pt.p.l.length r.pt.p.c,.int .i64 r.pt.o,.slice r.a.p.a r.a.p.l.length r.a.p.c,.int .i64 r.a.o,.slice r.f.p.a r.f.p.l.length r.f.p.c,.int .i64 r.f.o] 46)).alloc (.cells #[.int .i64 0,.int .i64 0,.int .i64 0,.bool false,.slice none 0 0,.slice none 0 0,.int .i64 0,.slice none 0 0,.int .i64 0,.slice none 0 0,.int .i64 0] 46);have gB:=Grew.alloc1 (w.alloc (.cells #[.int .i64 r.id,.int .i64 r.kind,.int .i64 r.aff,.bool r.live,.slice r.path.a r.path.l.length r.path.c,.slice r.pt.p.a r.pt.p.l.length r.pt.p.c,.int .i64 r.pt.o,.slice r.a.p.a r.a.p.l.length r.a.p.c,.int .i64 r.a.o,.slice r.f.p.a r.f.p.l.length r.f.p.c,.int .i64 r.f.o] 46)) (.cells #[.int .i64 0,.int .i64 0,.int .i64 0,.bool false,.slice none 0 0,.slice none 0 0,.int .i64 0,.slice none 0 0,.int .i64 0,.slice none 0 0,.int .i64 0] 46);have c0:=zap gB (j:=0) (v:=.int .i64 r.id) rfl;have c1:=zap gB (j:=1) (v:=.int .i64 r.kind) rfl;have c2:=zap gB (j:=2) (v:=.int .i64 r.aff) rfl;have ht:=zc5 (Grew.refl ((w.alloc (.cells #[.int .i64 r.id,.int .i64 r.kind,.int .i64 r.aff,.bool r.live,.slice r.path.a r.path.l.length r.path.c,.slice r.pt.p.a r.pt.p.l.length r.pt.p.c,.int .i64 r.pt.o,.slice r.a.p.a r.a.p.l.length r.a.p.c,.int .i64 r.a.o,.slice r.f.p.a r.f.p.l.length r.f.p.c,.int .i64 r.f.o] 46)).alloc (.cells #[.int .i64 0,.int .i64 0,.int .i64 0,.bool false,.slice none 0 0,.slice none 0 0,.int .i64 0,.slice none 0 0,.int .i64 0,.slice none 0 0,.int .i64 0] 46)));rw[World.size_alloc] at ht;clear gB
 go_enter Tryz.func51,Tryz.ntmps51
 go_upto_region 1 with fail
 generalize ((w.alloc (.cells #[.int .i64 r.id,.int .i64 r.kind,.int .i64 r.aff,.bool r.live,.slice r.path.a r.path.l.length r.path.c,.slice r.pt.p.a r.pt.p.l.length r.pt.p.c,.int .i64 r.pt.o,.slice r.a.p.a r.a.p.l.length r.a.p.c,.int .i64 r.a.o,.slice r.f.p.a r.f.p.l.length r.f.p.c,.int .i64 r.f.o] 46)).alloc (.cells #[.int .i64 0,.int .i64 0,.int .i64 0,.bool false,.slice none 0 0,.slice none 0 0,.int .i64 0,.slice none 0 0,.int .i64 0,.slice none 0 0,.int .i64 0] 46))=w1 at *;have HP:=zQ0 (zcm (cs:=r.bare.cells) ht);have HK:=zQ0 (zcM (w.heap.size+1) r.bare.cells 0 w1)
 go_wp2_with (refine wpList_store_mid rfl 46 (.tmp 2) (.tmp 9) rfl (w.heap.size+1) 0 r.bare.cells.toArray rfl rfl ht zbq r.bare.cells_all ?_;generalize hW:w1.setCells _ _ _=W;have HP2:W.rangeAt (w.heap.size+1) 0 r.bare.cells:=hW ▸ HP.out;have HK2:Keeps (·=w.heap.size+1) w1 W:=hW ▸ HK.out;clear hW HP HK)
 exact bodyPost_ret (v:=r.bare.val) (zcr Tryz.results51 _ W (w.heap.size+1) 0 r.bare.cells _ rfl HP2 Tryz.underlying46 rfl zbq) rfl ⟨rfl,g1.keep HK2 (fun j hj=>by show _<=j;rw[hj];exact Nat.le_succ _)⟩
/- xpath.Move, of an InsertNode at the path itself. -/
def RetMove(p:List Int)(ok:Bool)(w:World)(e:Ending)(w':World):Prop:=∃ q:PN,e=.returned (.tuple #[.slice q.a q.l.length q.c,.bool ok])/\Grew w w'/\IntsIn w' w.heap.size w'.heap.size q.a q.c q.l/\Hid (q.l=p)
theorem ints_one{w:World}{x:Int}{t:TypeId}:IntsIn (w.alloc (.cells #[.int .i64 x] t)) 0 (w.alloc (.cells #[.int .i64 x] t)).heap.size (some ⟨w.heap.size,0,none⟩) 1 [x] :=
 (zcC (n:=1) (cp:=1) (k:=1) (f:=fun i _=>.int .i64 ([x].getD i 0)) zQ1 (by unfold maxLen;omega) (fun i hi j hj=>by
  obtain rfl:j=0:=by omega
  obtain rfl:i=0:=by omega
  rfl)).mono (Nat.zero_le _) (by simp)
def leftG(a b:List Int):Bool:=decide ((zag a b:Int)=(a.length:Int) - 1) && (decide (zag a b < b.length) && decide (a.getD (zag a b) 0 < b.getD (zag a b) 0))
theorem left_any(a b:Option Addr)(c d:Nat)(xs ys:List Int)(w:World)(hx:IntsIn w 0 w.heap.size a c xs)(hy:IntsIn w 0 w.heap.size b d ys)(hl:xs.length<=1048576)(hl2:ys.length<=1048576) :
  Calls Tryz.prog 198 #[.slice a xs.length c,.slice b ys.length d] w fun e w'=>e=.returned (.bool (leftG xs ys))/\Grew w w':=by
 have C:=zQ0 (alike_any a b c d xs ys w _ _ _ _ hx hy hl hl2 zQ1 zQ1);have HA:Hid (leftG xs ys=(decide ((zag xs ys:Int)=(xs.length:Int) - 1) && (decide (zag xs ys < ys.length) && decide (xs.getD (zag xs ys) 0 < ys.getD (zag xs ys) 0)))):=rfl;have hqw:IntKind.i64.wrap ((xs.length:Int) - 1)=(xs.length:Int) - 1:=by rw[IntKind.wrap_i64];omega
 generalize leftG xs ys=r at *;generalize zag xs ys=k at *
 by_cases h1:(k:Int)=(xs.length:Int) - 1
 ·have t1:((k:Int) == (xs.length:Int) - 1)=true:=by simpa using h1
  by_cases h2:k < ys.length
  ·have HN:Hid (r=decide (xs.getD k 0 < ys.getD k 0)):=by show _=_;rw[HA.out];simp[h1,h2]
   have t2:decide ((k:Int) < ys.length)=true:=by simpa using h2
   have hk1:k < xs.length:=by omega
   obtain⟨b1,o1,rfl,_,hb1,c1⟩:=hx.at hk1;obtain⟨b2,o2,rfl,_,hb2,c2⟩:=hy.at h2;have KB:=fun w' (g:Grew w w')=>(⟨(g.cell (p:=⟨b1,o1+k,none⟩) hb1).trans c1,(g.cell (p:=⟨b2,o2+k,none⟩) hb2).trans c2⟩:_/\_)
   have q1:(0:Int)<=k:=by omega
   have q2:(k:Int) < xs.length:=by omega
   have q3:(k:Int) < ys.length:=by omega
   clear c1 c2 hx hy h1 h2 hk1;generalize xs.getD k 0=x at *;generalize ys.getD k 0=y at *
   go_enter Tryz.func198,Tryz.ntmps198
   go_wp2_with fail
   refine C.out.mono ?_;rintro e w1 ⟨rfl,g1⟩;obtain⟨c1,c2⟩:=KB w1 g1;clear KB;go_wp2_with fail
   go_quiet (fail)
   go_wp2_with fail
   go_ret
   exact⟨zcy (by rw[HN.out]),g1.drewN _⟩
  ·have HN:Hid (r=false):=by show _=_;rw[HA.out];simp[h2]
   have t2:decide ((k:Int) < ys.length)=false:=by simp;omega
   have t3:decide (k < ys.length)=false:=by simp;omega
   have t4:¬ k < ys.length:=h2;clear h1 h2
   go_enter Tryz.func198,Tryz.ntmps198
   go_wp2_with fail
   refine C.out.mono ?_;rintro e w1 ⟨rfl,g1⟩;go_wp2_with fail
   go_quiet (fail)
   go_wp2_with fail
   go_ret
   exact⟨zcy (by rw[HN.out]),g1.drewN _⟩
 ·have t1:((k:Int) == (xs.length:Int) - 1)=false:=by simpa using h1
  have HN:Hid (r=false):=by show _=_;rw[HA.out];simp[h1]
  clear h1
  go_enter Tryz.func198,Tryz.ntmps198
  go_wp2_with fail
  refine C.out.mono ?_;rintro e w1 ⟨rfl,g1⟩;go_wp2_with fail
  go_quiet (fail)
  go_wp2_with fail
  go_ret
  exact⟨zcy (by rw[HN.out]),g1.drewN _⟩
def zcX(q p:List Int):Int:=if q.length=0 then 0 else if q=p then 3 else if zad q p=true then 2 else if leftG q p=true then 1 else 0
theorem stands_any(a b:Option Addr)(c d:Nat)(q p:List Int)(w:World)(hx:IntsIn w 0 w.heap.size a c q)(hy:IntsIn w 0 w.heap.size b d p)(hl:q.length<=1048576)(hl2:p.length<=1048576) :
  Calls Tryz.prog 164 #[.slice a q.length c,.slice b p.length d] w fun e w'=>e=.returned (.int .i64 (zcX q p))/\Grew w w':=by
 have later:∀ {a c l w1},IntsIn w 0 w.heap.size a c l->Grew w w1->IntsIn w1 0 w1.heap.size a c l:=fun h g=>(IntsIn.agree h (g.agree zQ1)).mono zQ1 g.size;have C1:=zQ0 (fun w1 (g:Grew w w1)=>trailSame_any a b c d q p w1 _ _ _ _ (later hx g) (later hy g) hl hl2 zQ1 zQ1);have C2:=zQ0 (fun w1 (g:Grew w w1)=>above_any a b c d q p w1 _ _ _ _ (later hx g) (later hy g) hl hl2 zQ1 zQ1);have C3:=zQ0 (fun w1 (g:Grew w w1)=>left_any a b c d q p w1 (later hx g) (later hy g) hl hl2);have HS:Hid (zcX q p=if q.length=0 then 0 else if q=p then 3 else if zad q p=true then 2 else if leftG q p=true then 1 else 0):=rfl;generalize zcX q p=r at *;generalize zad q p=ba at *;generalize leftG q p=bl at *;clear hx hy later
 by_cases h0:q.length=0
 ·have HN:Hid (r=0):=by show _=_;rw[HS.out,if_pos h0]
  have t0:((q.length:Int) == 0)=true:=by simp[h0]
  clear h0
  go_enter Tryz.func164,Tryz.ntmps164
  go_wp2_with fail
  go_ret
  exact⟨zcz (by rw[HN.out]),Grew.refl _⟩
 ·have t0:((q.length:Int) == 0)=false:=beq_eq_false_iff_ne.2 (by omega);have HS1:Hid (r=if q=p then 3 else if ba=true then 2 else if bl=true then 1 else 0):=by show _=_;rw[HS.out,if_neg h0]
  clear h0 HS
  go_enter Tryz.func164,Tryz.ntmps164
  go_wp2_with fail
  refine (C1.out w (Grew.refl _)).mono ?_;rintro e w1 ⟨rfl,g1⟩
  by_cases h:q=p
  ·have t1:decide (q=p)=true:=by simpa using h
   have HN:Hid (r=3):=by show _=_;rw[HS1.out,if_pos h]
   clear h;go_wp2_with fail
   go_ret
   exact⟨zcz (by rw[HN.out]),g1⟩
  ·have t1:decide (q=p)=false:=by simpa using h
   have HS2:Hid (r=if ba=true then 2 else if bl=true then 1 else 0):=by show _=_;rw[HS1.out,if_neg h]
   clear h HS1;go_wp2_with fail
   refine (C2.out w1 g1).mono ?_;rintro e w2 ⟨rfl,g2⟩
   cases ba with
   | true =>
    have HN:Hid (r=2):=HS2.out;go_wp2_with fail
    go_ret
    exact⟨zcz (by rw[HN.out]),g1.trans g2⟩
   | false =>
    go_wp2_with fail
    refine (C3.out w2 (g1.trans g2)).mono ?_;rintro e w3 ⟨rfl,g3⟩
    cases bl with
    | true =>
     have HN:Hid (r=1):=HS2.out;go_wp2_with fail
     go_ret
     exact⟨zcz (by rw[HN.out]),g1.trans (g2.trans g3)⟩
    | false =>
     have HN:Hid (r=0):=HS2.out;go_wp2_with fail
     go_ret
     exact⟨zcz (by rw[HN.out]),g1.trans (g2.trans g3)⟩
def zcP(p:List Int)(k:Nat)(n:Int):List Int:=p.set k (wrap64 (p.getD k 0+n))
def zbs(p q:List Int):List Int:=if zcX q p=0 then p else zcP p (q.length - 1) 1
theorem stands_lt{q p:List Int}(h:zcX q p≠0):0 < q.length/\q.length - 1 < p.length:=by
 unfold zcX at h
 by_cases h0:q.length=0
 ·rw[if_pos h0] at h;exact absurd rfl h
 ·rw[if_neg h0] at h
  by_cases h1:q=p
  ·subst h1;omega
  ·rw[if_neg h1] at h
   by_cases h2:zad q p=true
   ·unfold zad at h2;rw[Bool.and_eq_true] at h2;have:=of_decide_eq_true h2.1;omega
   ·rw[if_neg h2] at h
    by_cases h3:leftG q p=true
    ·unfold leftG at h3;rw[Bool.and_eq_true,Bool.and_eq_true] at h3;have e1:=of_decide_eq_true h3.1;have e2:=of_decide_eq_true h3.2.1;omega
    ·rw[if_neg h3] at h;exact absurd rfl h
theorem stands_above{q p:List Int}(h:zcX q p=2):0 < q.length/\q.length < p.length:=by
 unfold zcX at h
 by_cases h0:q.length=0
 ·rw[if_pos h0] at h;cases h
 ·rw[if_neg h0] at h
  by_cases h1:q=p
  ·rw[if_pos h1] at h;cases h
  ·rw[if_neg h1] at h
   by_cases h2:zad q p=true
   ·unfold zad at h2;rw[Bool.and_eq_true] at h2;have:=of_decide_eq_true h2.1;omega
   ·rw[if_neg h2] at h
    by_cases h3:leftG q p=true
    ·rw[if_pos h3] at h;cases h
    ·rw[if_neg h3] at h;cases h
theorem stands_or(q p:List Int):zcX q p=0\/zcX q p=1\/zcX q p=2\/zcX q p=3:=by
 unfold zcX
 split
 ·exact .inl rfl
 ·split
  ·exact .inr (.inr (.inr rfl))
  ·split
   ·exact .inr (.inr (.inl rfl))
   ·split
    ·exact .inr (.inl rfl)
    ·exact .inl rfl
theorem inserted_any(a b:Option Addr)(c d:Nat)(p q:List Int)(w:World)(hx:IntsIn w 0 w.heap.size a c p)(hy:IntsIn w 0 w.heap.size b d q)(hl:p.length<=1048576)(hl2:q.length<=1048576) :
  Calls Tryz.prog 165 #[.slice a p.length c,.slice b q.length d] w (RetPath (zbs p q) w):=by
 have later:∀ {a c l w1},IntsIn w 0 w.heap.size a c l->Grew w w1->IntsIn w1 0 w1.heap.size a c l:=fun h g=>(IntsIn.agree h (g.agree zQ1)).mono zQ1 g.size;have C1:=zQ0 (stands_any b a d c q p w hy hx hl2 hl);have HI:Hid (zbs p q=if zcX q p=0 then p else zcP p (q.length - 1) 1):=rfl
 by_cases h:zcX q p=0
 ·have t:(zcX q p == 0)=true:=by simpa using h
  have CL:=zQ0 (fun w1 (g:Grew w w1)=>zaU a c p w1 (later hx g) hl);have HN:Hid (zbs p q=p):=by show _=_;rw[HI.out,if_pos h]
  rw[HN.out];generalize zcX q p=s at *;clear h hx hy later HI HN
  go_enter Tryz.func165,Tryz.ntmps165
  go_wp2_with fail
  refine C1.out.mono ?_;rintro e w1 ⟨rfl,g1⟩;go_wp2_with fail
  refine (CL.out w1 g1).mono ?_;rintro e w2 ⟨v,rfl,g2,hv,he⟩;go_wp2_with fail
  go_ret
  exact⟨v,rfl,g1.trans g2,hv.mono g1.size zQ1,he⟩
 ·have t:(zcX q p == 0)=false:=by simpa using h
  have hs:=stands_lt h;have SH:=zQ0 (fun w1 (g:Grew w w1)=>shift_any a c p (q.length - 1) 1 w1 (later hx g) hl hs.2);have e1:((q.length - 1:Nat):Int)=(q.length:Int) - 1:=by omega
  rw[e1] at SH;have HN:Hid (zbs p q=p.set (q.length - 1) (wrap64 (p.getD (q.length - 1) 0+1))):=by show _=_;rw[HI.out,if_neg h];rfl
  rw[HN.out];have hqw:IntKind.i64.wrap ((q.length:Int) - 1)=(q.length:Int) - 1:=by rw[IntKind.wrap_i64];omega
  generalize p.set (q.length - 1) (wrap64 (p.getD (q.length - 1) 0+1))=m at *;generalize zcX q p=s at *;clear h hx hy later HI HN hs e1
  go_enter Tryz.func165,Tryz.ntmps165
  go_wp2_with fail
  refine C1.out.mono ?_;rintro e w1 ⟨rfl,g1⟩;go_wp2_with fail
  refine (SH.out w1 g1).mono ?_;rintro e w2 ⟨v,rfl,g2,hv,he⟩;go_wp2_with fail
  go_ret
  exact⟨v,rfl,g1.trans g2,hv.mono g1.size zQ1,he⟩
theorem madeZ_size{z:Value}(hz:z.cells.size=1)(n G:Nat)(h:n<=G):(([]:List Value).toArray++Builtin.zeroCells z.cells n++Builtin.zeroCells z.cells (G - n)).size=G * 1:=by
 simp only[Array.size_append,size_zeroCells,hz]
 simp
 omega
theorem ownsRow_lower{w:World}{B B':Nat}{e:TypeId}{size n:Nat}{v:Value}{xs:List Value}(h:w.ownsRow B e size v n xs)(hb:B'<=B):w.ownsRow B' e size v n xs:=by
 refine⟨h.1,?_⟩
 rcases h.2 with h | ⟨g,cap,cur,h1,h2,h3⟩
 ·exact .inl h
 ·exact .inr ⟨g,cap,cur,h1,Nat.le_trans hb h2,h3⟩
theorem growI_any(n:Nat)(w:World)(hn:n<=4194304):Calls Tryz.prog 199 #[.slice none 0 0,.int .i64 n] w fun e w'=>∃ v,e=.returned v/\Grew w w'/\w'.ownsRow w.heap.size 3 1 v 0 []:=by
 obtain⟨i0,hi,hz0,hz1,hz2⟩:=info_parts infoInt;have h1:¬ ((n:Int) < 0):=by omega
 by_cases h0:n=0
 ·subst h0
  go_enter Tryz.func199,Tryz.ntmps199
  go_wp2_with fail
  go_ret
  exact⟨_,rfl,Grew.refl _,World.ownsRow_nil _ _ _ _⟩
 ·have hold:(Builtin.firstCells i0.size 0 (.slice none 0 0)).run Tryz.prog w.drew=.ok ([]:List Value).toArray w.drew:=run_firstCells_none w.drew i0.size 0 0 0;have hGn:n<=grownCap w n 0 3:=grownCap_ge w _ _ _;have hGm:=grownCap_le_maxLen w n 0 3 (by unfold maxLen;omega)
  have hrz:∀ ty,(Builtin.append_ #[27,3] ty #[.slice none 0 0,.int .i64 (n:Int)]).run Tryz.prog w=.ok (.slice (some ⟨w.heap.size,0,none⟩) n (grownCap w n 0 3)) (w.drew.alloc (.cells (([]:List Value).toArray++Builtin.zeroCells ((Value.int .i64 0).cells) n++Builtin.zeroCells ((Value.int .i64 0).cells) (grownCap w n 0 3 - n)) 3)):=fun ty=>by
   have h:=Lib.run_append_grow_zeros w 27 3 ty 3 i0 _ .i64 .i64 Tryz.underlying27 Tryz.underlying3 hi hz0 none 0 0 [] hold n (by omega) (by rw[hz1];omega) (by omega) (by omega) (by rw[hz2];omega) (growslice_fits (by omega) (by rw[hz2];omega));rw[Nat.zero_add] at h;exact h
  have hown:=World.ownsRow_made (base:=w.heap.size) (e:=3) (size:=1) w.drew (([]:List Value).toArray++Builtin.zeroCells ((Value.int .i64 0).cells) n++Builtin.zeroCells ((Value.int .i64 0).cells) (grownCap w n 0 3 - n)) (grownCap w n 0 3) zQ1 hGm (madeZ_size rfl _ _ hGn);have hG:Grew w (w.drew.alloc (.cells (([]:List Value).toArray++Builtin.zeroCells ((Value.int .i64 0).cells) n++Builtin.zeroCells ((Value.int .i64 0).cells) (grownCap w n 0 3 - n)) 3)):=(Grew.refl w).drew.alloc _;have h2:((n:Int) - 0)=n:=by omega
  have h3:(0:Int) < n:=by omega
  have h5:decide ((0:Int) < n)=true:=by simpa using h3
  have h4:wrap64 (n:Int)=n:=by unfold wrap64;omega
  unfold maxLen at hGm;have hGi:((grownCap w n 0 3:Nat):Int)<=9223372036854775807:=by omega
  generalize grownCap w n 0 3=G at *;generalize w.drew.alloc _=w1 at *
  go_enter Tryz.func199,Tryz.ntmps199
  go_wp2_with (at_builtin;refine Lib.wpList_append_run _ rfl _ _ _ _ rfl _ _ rfl rfl _ _ (hrz _) ?_)
  go_ret
  exact⟨_,rfl,hG,hown⟩
def RowsI(w:World)(lo hi:Nat)(a:Option Addr)(c:Nat)(ls:List PN):Prop:=RowIn w lo hi a ls.length c 1 (fun i _=>.slice (ls.getD i default).a (ls.getD i default).l.length (ls.getD i default).c)
theorem RowsI.at{w:World}{lo hi:Nat}{a:Option Addr}{c:Nat}{ls:List PN}(h:RowsI w lo hi a c ls){k:Nat}(hk:k < ls.length):∃ b o,a=some ⟨b,o,none⟩/\lo<=b/\b < hi/\w.cell? ⟨b,o+k,none⟩=some (.slice (ls.getD k default).a (ls.getD k default).l.length (ls.getD k default).c):=by
 obtain⟨b,o,h1,h2,h3,hc⟩:=h.2 (by omega);exact⟨b,o,h1,h2,h3,by simpa using hc k hk 0 (by omega)⟩
def sumI(ls:List PN):Nat:=(ls.map fun p=>p.l.length).sum
theorem sumI_next(ls:List PN){k:Nat}(hk:k < ls.length):sumI (ls.take (k+1))=sumI (ls.take k)+(ls.getD k default).l.length:=by
 unfold sumI;rw[List.take_succ_eq_append_getElem hk,List.map_append,List.sum_append]
 simp[List.getD,List.getElem?_eq_getElem hk]
theorem sumI_le(ls:List PN)(k:Nat):sumI (ls.take k)<=sumI ls:=by
 unfold sumI
 conv=>rhs;rw[<- List.take_append_drop k ls,List.map_append,List.sum_append]
 omega
def flatI(ls:List PN):List Int:=ls.flatMap PN.l
theorem flatI_len(ls:List PN):(flatI ls).length=sumI ls:=by unfold flatI sumI;rw[List.length_flatMap]
theorem flatI_next(ls:List PN){k:Nat}(hk:k < ls.length):flatI (ls.take (k+1))=flatI (ls.take k)++(ls.getD k default).l:=by
 unfold flatI;rw[List.take_succ_eq_append_getElem hk,List.flatMap_append]
 simp[List.getD,List.getElem?_eq_getElem hk]
theorem concatI_any(a:Option Addr)(c:Nat)(ls:List PN)(w:World)(hr:RowsI w 0 w.heap.size a c ls)(hin:∀ p∈ls,IntsIn w 0 w.heap.size p.a p.c p.l)(hl:ls.length<=1048576)(hs:sumI ls<=4194304) :
  Calls Tryz.prog 167 #[.slice a ls.length c] w fun e w'=>∃ v,e=.returned v/\Grew w w'/\w'.ownsRow w.heap.size 3 1 v (flatI ls).length ((flatI ls).map (Value.int .i64)):=by
 have HI:=zQ0 hin;have HS:=zQ0 hs;clear hin hs
 go_enter Tryz.func167,Tryz.ntmps167
 go_wp2_with fail
 go_loopw [3,11] (fun s i wr=>∃(k m:Nat),k<=ls.length/\s=.int .i64 m/\i=.int .i64 k/\Grew w wr/\Hid (m=sumI (ls.take k))) (fun _ i _=>ls.length - (intOf i).toNat)
 case atStart=>exact⟨0,0,by omega,rfl,rfl,Grew.refl _,by show _=_;simp[sumI]⟩
 case round =>
  obtain⟨k,m,hk,rfl,rfl,hg,hm⟩:=hrel
  by_cases hlt:k < ls.length
  ·obtain⟨b,o,rfl,_,hb,c0⟩:=RowsI.at (RowIn.agree hr (hg.agree zQ1)) hlt;have HM:Hid (m+(ls.getD k default).l.length=sumI (ls.take (k+1))):=by show _=_;rw[sumI_next ls hlt,hm.out]
   have hle:m+(ls.getD k default).l.length<=4194304:=by rw[HM.out];exact Nat.le_trans (sumI_le ls _) HS.out
   generalize ls.getD k default=x at *;have hw:IntKind.i64.wrap ((m:Int)+x.l.length)=((m+x.l.length:Nat):Int):=by rw[IntKind.wrap_i64];omega
   have hnn:¬ (((m+x.l.length:Nat):Int) < 0):=by omega
   go_wp2_with fail
   go_roundw
   case rel=>exact⟨k+1,m+x.l.length,by omega,rfl,by go_num,hg,HM⟩
   case measure=>simp[intOf];omega
  ·obtain rfl:k=ls.length:=by omega
   have HM:Hid (m=sumI ls):=by show _=_;rw[hm.out,List.take_length]
   have hmle:m<=4194304:=by rw[HM.out];exact HS.out
   have GR:=zQ0 (growI_any m wr hmle);clear hm;go_wp2_with fail
   refine GR.out.mono ?_;rintro e w2 ⟨v,rfl,g2,hown⟩;have hown':w2.ownsRow w.heap.size 3 1 v 0 []:=ownsRow_lower hown hg.size;obtain⟨va,vc,rfl⟩:=zb2 hown';have G2:=zQ0 (hg.trans g2);have HO:=zQ0 hown';clear hown hown' GR HM hmle;go_wp2_with fail
   go_loopw [6,27] (fun s i wr2=>∃(k:Nat) (va:Option Addr) (vc:Nat),k<=ls.length/\s=.slice va (flatI (ls.take k)).length vc/\i=.int .i64 k/\Grew w wr2/\wr2.ownsRow w.heap.size 3 1 (.slice va (flatI (ls.take k)).length vc) (flatI (ls.take k)).length ((flatI (ls.take k)).map (Value.int .i64))) (fun _ i _=>ls.length - (intOf i).toNat)
   case atStart=>exact⟨0,va,vc,by omega,by simp[flatI],rfl,G2.out,by simpa [flatI] using HO.out⟩
   case round =>
    obtain⟨k,xa,xc,hk,rfl,rfl,hg2,hown2⟩:=hrel
    by_cases hlt:k < ls.length
    ·obtain⟨b,o,rfl,_,hb,c0⟩:=RowsI.at (RowIn.agree hr (hg2.agree zQ1)) hlt;have hxin:=(HI.out _ (zbd ls k hlt)).grew hg2 zQ1;have HF:=zQ0 (flatI_next ls hlt)
     have hbound:(flatI (ls.take k)).length+(ls.getD k default).l.length<=4194304:=by
      rw[flatI_len,<- sumI_next ls hlt];exact Nat.le_trans (sumI_le ls _) HS.out
     generalize ls.getD k default=x at *;have hsz:=hg2.size;generalize flatI (ls.take k)=cur at *
     go_wp2_with (at_builtin;refine zdi rfl (.tmp 31) (.tmp 32) 27 rfl w.heap.size 3 Tryz.underlying27 infoInt rfl (by decide) (.slice xa cur.length xc) cur.length (cur.map (Value.int .i64)) rfl hown2 x.a x.l.length x.c _ _ _ rfl hxin (x.l.map (Value.int .i64)) (by simp) (ints_at x.l) (ints_oneCell _ _) (by unfold maxLen;omega) (by omega) hsz ?_;intro v' w4 hown' hgrow _;obtain⟨va',vc',rfl⟩:=zb2 hown')
     have G4:=zQ0 (hg2.grown hgrow (fun k hk=>(hown2.lt k hk).1));have HO4:=zQ0 hown';clear hown2 hown' hgrow
     go_roundw
     case rel =>
      refine⟨k+1,va',vc',by omega,?_,by go_num,G4.out,?_⟩
      ·rw[HF.out,List.length_append]
      ·rw[HF.out,List.length_append,List.map_append];exact HO4.out
     case measure=>simp[intOf];omega
    ·obtain rfl:k=ls.length:=by omega
     rw[List.take_length] at hown2;rw[List.take_length];go_wp2_with fail
     go_ret
     exact⟨_,rfl,hg2,hown2⟩
end Go.Proofs.YtccobobnmpafbaaGreatDoor
