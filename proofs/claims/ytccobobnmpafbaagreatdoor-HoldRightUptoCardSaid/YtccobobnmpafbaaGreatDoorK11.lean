/- glyph.asked, glyph.Insert, glyph.Remove: the contracts. -/
import Derived.Test.YtccobobnmpafbaaGreatDoorK10
import Derived.Test.YtccobobnmpafbaaGreatDoorK09
import Derived.Test.YtccobobnmpafbaaGreatDoorK05
import Derived.Test.YtccobobnmpafbaaGreatDoorK03
import Derived.Deep.RegionHeld3
import Derived.Deep.DeepCutAuto
import Derived.Test.YtccobobnmpafbaaGreatDoorK08
import Derived.Test.YtccobobnmpafbaaGreatDoorK01
import Derived.MapKept
set_option maxRecDepth 100000
set_option maxHeartbeats 100000000
namespace Go.Proofs.YtccobobnmpafbaaGreatDoor
open Go Go.RowKit
def zak(ts:List Int)(i:Int)(ss:List Int):Int:=if zaS ts≠0\/zaS ss≠0 then 4 else if i < 0\/(ts.length:Int) < i then 8 else 0
theorem checkRs_or(ts:List Int):zaS ts=0\/zaS ts=4:=by
 unfold zaS
 split
 ·exact .inl rfl
 ·exact .inr rfl
theorem asked_any(ta sa:Option Addr)(tc sc:Nat)(ts ss:List Int)(i:Int)(w:World)(ht:RunesIn w 0 w.heap.size ta tc ts)(hs:RunesIn w 0 w.heap.size sa sc ss)(hl:ts.length<=1048576)(hl2:ss.length<=1048576) :
  Calls Tryz.prog 161 #[.slice ta ts.length tc,.int .i64 i,.slice sa ss.length sc] w fun e w'=>e=.returned (.int .i64 (zak ts i ss))/\Grew w w':=by
 have C1:=zQ0 (check03_any ts ta tc w 0 w.heap.size ht zQ1 hl);have C2:=zQ0 (fun w1 (g:Grew w w1)=>check03_any ss sa sc w1 0 w.heap.size (hs.grew g zQ1) g.size hl2);have HA:Hid (zak ts i ss=if zaS ts≠0\/zaS ss≠0 then 4 else if i < 0\/(ts.length:Int) < i then 8 else 0):=rfl;have H1:=zQ0 (checkRs_or ts);have H2:=zQ0 (checkRs_or ss);generalize zak ts i ss=r at *;generalize zaS ts=c1 at *;generalize zaS ss=c2 at *;clear ht hs
 go_enter Tryz.func161,Tryz.ntmps161
 go_wp2_with fail
 refine C1.out.mono ?_;rintro e w1 ⟨rfl,g1⟩
 rcases H1.out with h1 | h1
 ·subst h1;go_wp2_with fail
  refine (C2.out w1 g1).mono ?_;rintro e w2 ⟨rfl,g2⟩;have G2:=zQ0 (g1.trans g2)
  rcases H2.out with h2 | h2
  ·subst h2
   by_cases q1:i < 0
   ·have HN:Hid (r=8):=by show _=_;rw[HA.out];simp[q1]
    have t1:decide (i < 0)=true:=by simpa using q1
    go_wp2_with fail
    go_ret
    exact⟨zcz (by rw[HN.out]),G2.out⟩
   ·have t1:decide (i < 0)=false:=by simpa using q1
    by_cases q2:(ts.length:Int) < i
    ·have HN:Hid (r=8):=by show _=_;rw[HA.out];simp[q2]
     have t2:decide ((ts.length:Int) < i)=true:=by simpa using q2
     go_wp2_with fail
     go_ret
     exact⟨zcz (by rw[HN.out]),G2.out⟩
    ·have HN:Hid (r=0):=by show _=_;rw[HA.out];simp[q1,q2]
     have t2:decide ((ts.length:Int) < i)=false:=by simpa using q2
     go_wp2_with fail
     go_ret
     exact⟨zcz (by rw[HN.out]),G2.out⟩
  ·subst h2;have HN:Hid (r=4):=by show _=_;rw[HA.out];simp
   go_wp2_with fail
   go_ret
   exact⟨zcz (by rw[HN.out]),G2.out⟩
 ·subst h1;have HN:Hid (r=4):=by show _=_;rw[HA.out];simp
  go_wp2_with fail
  go_ret
  exact⟨zcz (by rw[HN.out]),g1⟩
def RetTx(r:List Int × Int)(w:World)(e:Ending)(w':World):Prop:=∃ q:PN,e=.returned (.tuple #[.slice q.a q.l.length q.c,.int .i64 r.2])/\Grew w w'/\RunesIn w' w.heap.size w'.heap.size q.a q.c q.l/\Hid (q.l=r.1)
theorem retTx_no{r:List Int × Int}{k:Int}{w w':World}(hg:Grew w w')(h:Hid (r=([],k))):RetTx r w (.returned (.tuple #[.slice none 0 0,.int .i64 k])) w':=by
 rw[h.out];exact⟨PN.nil,rfl,hg,zcI,rfl⟩
def RetRs(l:List Int)(w:World)(e:Ending)(w':World):Prop:=∃ q:PN,e=.returned (.slice q.a q.l.length q.c)/\Grew w w'/\RunesIn w' w.heap.size w'.heap.size q.a q.c q.l/\Hid (q.l=l)
theorem zcx{r:List Int × Int}{l:List Int}{q:PN}{w w1 w':World}(g1:Grew w w1)(g2:Grew w1 w')(hq:RunesIn w' w1.heap.size w'.heap.size q.a q.c q.l)(he:Hid (q.l=l))(h:Hid (r=(l,0))):RetTx r w (.returned (.tuple #[.slice q.a q.l.length q.c,.int .i64 0])) w':=by
 rw[h.out];exact⟨q,rfl,g1.trans g2,hq.mono g1.size zQ1,he⟩
theorem zaW(ls:List PN)(n:Nat)(cs:Array Value)(w:World)(t:TypeId)(hnn:n=ls.length)(hcs:cs=(ls.map PN.val).toArray)(hn:ls.length<=4)(h:∀ p∈ls,RunesIn w 0 w.heap.size p.a p.c p.l/\p.l.length<=1048576) :
  Calls Tryz.prog 162 #[.slice (some ⟨w.heap.size,0,none⟩) n n] (w.alloc (.cells cs t)).drew (RetRs (za9 ls) w):=by
 subst hcs hnn;have g:Grew w (w.alloc (.cells (ls.map PN.val).toArray t)).drew:=(Grew.alloc1 _ _).drew
 have hr:RowsR (w.alloc (.cells (ls.map PN.val).toArray t)) w.heap.size (w.heap.size+1) (some ⟨w.heap.size,0,none⟩) ls.length ls :=
  zcC (n:=ls.length) (cp:=ls.length) (k:=1) zQ1 (by unfold maxLen;omega) (fun i hi j hj=>by
   obtain rfl:j=0:=by omega
   simp[List.getD,List.getElem?_eq_getElem hi,PN.val])
 have hr2:RowsR (w.alloc (.cells (ls.map PN.val).toArray t)).drew 0 (w.alloc (.cells (ls.map PN.val).toArray t)).drew.heap.size (some ⟨w.heap.size,0,none⟩) ls.length ls :=
  (RowIn.agree hr ((Grew.refl _).drew.agree (by simp))).mono (Nat.zero_le _) (by simp)
 have hsum:∀(l:List PN),(∀ p∈l,p.l.length<=1048576)->sumR l<=l.length * 1048576:=by
  intro l
  induction l with
  | nil=>intro _;simp[sumR]
  | cons x r ih =>
   intro hx;have h1:=ih (fun p hp=>hx p (List.mem_cons_of_mem _ hp));have h2:=hx x (List.mem_cons_self ..);have h3:sumR (x::r)=x.l.length+sumR r:=by simp[sumR]
   have h4:(x::r).length=r.length+1:=rfl;omega
 have C:=concatR_any (some ⟨w.heap.size,0,none⟩) ls.length ls _ hr2 (fun p hp=>((h p hp).1.agree (g.agree zQ1)).mono zQ1 g.size) (by omega) (by have:=hsum ls (fun p hp=>(h p hp).2);omega);refine C.mono ?_;rintro e w' ⟨v,rfl,g2,hv⟩
 have hb:∀ x∈za9 ls,-2147483648<=x/\x<=2147483647:=fun x hx=>by
  obtain⟨p,hp,hx⟩:=List.mem_flatMap.1 hx;exact (h p hp).1.2 x hx
 obtain⟨a,c,rfl,hi⟩:=runesIn_owned hv hb;exact⟨⟨a,c,za9 ls⟩,rfl,g.trans g2,hi.mono g.size zQ1,rfl⟩
theorem RunesIn.take{w:World}{lo hi:Nat}{a:Option Addr}{c:Nat}{ts:List Int}(h:RunesIn w lo hi a c ts){k:Nat}(hk:k<=ts.length):RunesIn w lo hi a c (ts.take k):=by
 have hl:(ts.take k).length=k:=List.length_take_of_le hk;have h2:=h.1.1.2.1;refine⟨⟨⟨fun e=>?_,?_,h.1.1.2.2⟩,fun hn=>?_⟩,fun r hr=>h.2 r (List.mem_of_mem_take hr)⟩
 ·have:=h.1.1.1 e;omega
 ·omega
 ·obtain⟨b,o,e,h1,h2,hc⟩:=h.1.2 (by omega);refine⟨b,o,e,h1,h2,fun i hi j hj=>?_⟩;have:=hc i (by omega) j hj;rw[this]
  simp[List.getD,show i < k by omega]
theorem RunesIn.drop{w:World}{lo hi b o c:Nat}{x}{l:List Int}(h:RunesIn w lo hi (some ⟨b,o,x⟩) c l)(k:Nat)(hk:k<=c):RunesIn w lo hi (some (Addr.add ⟨b,o,x⟩ k)) (c - k) (l.drop k):=by
 have h1:=h.1.1.2.1;have h2:=h.1.1.2.2;refine⟨⟨⟨fun e=>by simp at e,by simp;omega,by omega⟩,fun hn=>?_⟩,fun r hr=>h.2 r (List.mem_of_mem_drop hr)⟩;have hn2:0 < l.length:=by simp at hn;omega
 obtain⟨b2,o2,e,h1,h2,hc⟩:=h.1.2 hn2;injection e with e
 injection e with e1 e2 e3
 subst e3;refine⟨b,o+k,by simp[Addr.add],by omega,by omega,fun i hi j hj=>?_⟩;obtain rfl:j=0:=by omega
 have hi2:k+i < l.length:=by simp at hi;omega
 have:=hc (k+i) hi2 0 (by omega);rw[<- e1,<- e2] at this;rw[show o+k+i * 1+0=o+(k+i) * 1+0 by omega,this]
 simp[List.getD,List.getElem?_drop]
theorem zcH{w:World}{lo hi b o:Nat}{x}:RunesIn w lo hi (some ⟨b,o,x⟩) 0 []:=⟨⟨⟨(fun e=>by cases e),Nat.le_refl _,Nat.zero_le _⟩,fun h=>absurd h (Nat.lt_irrefl _)⟩,by simp⟩
def zbt(ts:List Int)(i:Int)(ss:List Int):List Int × Int:=if zak ts i ss=0 then (ts.take i.toNat++ss++ts.drop i.toNat,0) else ([],zak ts i ss)
theorem zal{ts ss:List Int}{i:Int}(h:zak ts i ss=0):0<=i/\i<=ts.length:=by
 unfold zak at h
 split at h
 ·cases h
 ·split at h
  ·cases h
  ·omega
theorem glyphInsert_any(ta sa:Option Addr)(tc sc:Nat)(ts ss:List Int)(i:Int)(w:World)(ht:RunesIn w 0 w.heap.size ta tc ts)(hs:RunesIn w 0 w.heap.size sa sc ss)(hl:ts.length<=1048576)(hl2:ss.length<=1048576) :
  Calls Tryz.prog 125 #[.slice ta ts.length tc,.int .i64 i,.slice sa ss.length sc] w (RetTx (zbt ts i ss) w):=by
 have CA:=zQ0 (asked_any ta sa tc sc ts ss i w ht hs hl hl2);have HR:Hid (zbt ts i ss=if zak ts i ss=0 then (ts.take i.toNat++ss++ts.drop i.toNat,0) else ([],zak ts i ss)):=rfl;have HZ:=zQ0 (fun h=>zal (ts:=ts) (ss:=ss) (i:=i) h);generalize zbt ts i ss=res at *;generalize zak ts i ss=k at *;have HT:=zQ0 ht;have HS:=zQ0 hs;clear ht hs
 by_cases hk:k=0
 ·subst hk;obtain⟨h0,h1⟩:=HZ.out rfl;obtain⟨m,rfl⟩:∃ m:Nat,i=m:=⟨i.toNat,by omega⟩
  have hm:m<=ts.length:=by omega
  have HN:Hid (res=(ts.take m++ss++ts.drop m,0)):=by show _=_;rw[HR.out,if_pos rfl];rfl
  clear HZ HR h0
  go_enter Tryz.func125,Tryz.ntmps125
  go_wp2_with fail
  refine CA.out.mono ?_;rintro e w1 ⟨rfl,g1⟩;have G1:=zQ0 g1;clear CA;have T1:=zQ0 ((HT.out.grew g1 zQ1).mono zQ1 g1.size);have S1:=zQ0 ((HS.out.grew g1 zQ1).mono zQ1 g1.size);clear HT HS g1;have hcap:=T1.out.1.1.2.1;have q0:(0:Int)<=(m:Int):=by omega
  have q2:(ts.length:Int)<=tc:=by omega
  have q3:(m:Int)<=tc:=by omega
  have g20:Grew w1 w1.drew:=(Grew.refl _).drew
  cases ta with
  | none =>
   obtain⟨hz1,hz2⟩:=T1.out.1.1.1 rfl;have e1:m=0:=by omega
   have hts:ts=[]:=List.length_eq_zero_iff.1 hz1;subst hts e1 hz2
   have CC:=zQ0 (zaW [⟨none,0,[]⟩,⟨sa,sc,ss⟩,⟨none,0,[]⟩] 3 #[.slice none 0 0,.slice sa ss.length sc,.slice none 0 0] w1 23 rfl rfl (by simp) (fun p hp=>by
    rcases List.mem_cons.1 hp with rfl | hp
    ·exact⟨zcI,by simp⟩
    ·rcases List.mem_cons.1 hp with rfl | hp
     ·exact⟨S1.out,hl2⟩
     ·obtain rfl:=List.mem_singleton.1 hp
      exact⟨zcI,by simp⟩))
   clear hcap q0 q2 q3 h1 hm hl;go_upto_region 4 with fail
   go_region_held3 (fun w'=>Grew w1 w') ((first | assumption | exact g20 | exact Grew.trans (by assumption) (by assumption) | exact Grew.trans (by assumption) (Grew.alloc1 _ _))) ((first | (go_loud (go_at_call 162;refine CC.out.mono ?_;rintro e w7 ⟨q,rfl,g7,hq,he⟩))))
   go_wp2_with fail
   go_ret2
   have HE:Hid (q.l=([]:List Int).take 0++ss++([]:List Int).drop 0):=by show _=_;rw[he.out];simp[za9]
   exact zcx G1.out g7 hq HE HN
  | some ad =>
   obtain⟨ab,ao,ax⟩:=ad;have hmc:m<=tc:=by omega
   have TT:=zQ0 (RunesIn.take T1.out hm);have HL1:Hid (m=(ts.take m).length):=by show _=_;rw[List.length_take_of_le hm]
   have HL2:Hid (ts.length - m=(ts.drop m).length):=by show _=_;rw[List.length_drop]
   by_cases hc:tc=m
   ·have hd:ts.drop m=[]:=by rw[List.drop_eq_nil_iff];omega
    have CC:=zQ0 (zaW [⟨some ⟨ab,ao,ax⟩,tc,ts.take m⟩,⟨sa,sc,ss⟩,⟨some ⟨ab,ao,ax⟩,0,[]⟩] 3 #[.slice (some ⟨ab,ao,ax⟩) m tc,.slice sa ss.length sc,.slice (some ⟨ab,ao,ax⟩) (ts.length - m) 0] w1 23 rfl (by simp[PN.val];omega) (by simp) (fun p hp=>by
     rcases List.mem_cons.1 hp with rfl | hp
     ·exact⟨TT.out,by have:=HL1.out;show (ts.take m).length<=_;omega⟩
     ·rcases List.mem_cons.1 hp with rfl | hp
      ·exact⟨S1.out,hl2⟩
      ·obtain rfl:=List.mem_singleton.1 hp
       exact⟨zcH,by simp⟩))
    have HD:=zQ0 hd;subst hc;clear hcap q3 hm hd;have q7:(tc:Int)<=tc:=Int.le_refl _;go_upto_region 4 with fail
    go_region_held3 (fun w'=>Grew w1 w') ((first | assumption | exact g20 | exact Grew.trans (by assumption) (by assumption) | exact Grew.trans (by assumption) (Grew.alloc1 _ _))) ((first | (go_loud (go_at_call 162;refine CC.out.mono ?_;rintro e w7 ⟨q,rfl,g7,hq,he⟩))))
    go_wp2_with fail
    go_ret2
    have HE:Hid (q.l=ts.take tc++ss++ts.drop tc):=by show _=_;rw[he.out,HD.out];simp[za9]
    exact zcx G1.out g7 hq HE HN
   ·have q4:¬ tc=m:=hc;have q5:(m:Int) < tc:=by omega
    have CC:=zQ0 (zaW [⟨some ⟨ab,ao,ax⟩,tc,ts.take m⟩,⟨sa,sc,ss⟩,⟨some (Addr.add ⟨ab,ao,ax⟩ m),tc - m,ts.drop m⟩] 3 #[.slice (some ⟨ab,ao,ax⟩) m tc,.slice sa ss.length sc,.slice (some (Addr.add ⟨ab,ao,ax⟩ m)) (ts.length - m) (tc - m)] w1 23 rfl (by simp[PN.val];omega) (by simp) (fun p hp=>by
     rcases List.mem_cons.1 hp with rfl | hp
     ·exact⟨TT.out,by have:=HL1.out;show (ts.take m).length<=_;omega⟩
     ·rcases List.mem_cons.1 hp with rfl | hp
      ·exact⟨S1.out,hl2⟩
      ·obtain rfl:=List.mem_singleton.1 hp
       exact⟨RunesIn.drop T1.out m hmc,by have:=HL2.out;show (ts.drop m).length<=_;omega⟩))
    clear hcap hc hm;go_upto_region 4 with fail
    go_region_held3 (fun w'=>Grew w1 w') ((first | assumption | exact g20 | exact Grew.trans (by assumption) (by assumption) | exact Grew.trans (by assumption) (Grew.alloc1 _ _))) ((first | (go_loud (go_at_call 162;refine CC.out.mono ?_;rintro e w7 ⟨q,rfl,g7,hq,he⟩))))
    go_wp2_with fail
    go_ret2
    have HE:Hid (q.l=ts.take m++ss++ts.drop m):=by show _=_;rw[he.out];simp[za9]
    exact zcx G1.out g7 hq HE HN
 ·have HN:Hid (res=([],k)):=by show _=_;rw[HR.out,if_neg hk]
  have t1:(k == 0)=false:=by simpa using hk
  have t2:(k != 0)=true:=by simpa using hk
  clear HR HZ hk
  go_enter Tryz.func125,Tryz.ntmps125
  go_wp2_with fail
  refine CA.out.mono ?_;rintro e w1 ⟨rfl,g1⟩;go_wp2_with fail
  go_ret2
  exact retTx_no g1 HN
def zcp(ts:List Int)(i:Int)(ss:List Int):List Int × Int:=if zak ts i ss=0 then (if (ts.drop i.toNat).take (min (i.toNat+ss.length) ts.length - i.toNat)=ss then (ts.take i.toNat++ts.drop (min (i.toNat+ss.length) ts.length),0) else ([],9)) else ([],zak ts i ss)
theorem glyphRemove_any(ta sa:Option Addr)(tc sc:Nat)(ts ss:List Int)(i:Int)(w:World)(ht:RunesIn w 0 w.heap.size ta tc ts)(hs:RunesIn w 0 w.heap.size sa sc ss)(hl:ts.length<=1048576)(hl2:ss.length<=1048576) :
  Calls Tryz.prog 126 #[.slice ta ts.length tc,.int .i64 i,.slice sa ss.length sc] w (RetTx (zcp ts i ss) w):=by
 have CA:=zQ0 (asked_any ta sa tc sc ts ss i w ht hs hl hl2);have HR:Hid (zcp ts i ss=if zak ts i ss=0 then (if (ts.drop i.toNat).take (min (i.toNat+ss.length) ts.length - i.toNat)=ss then (ts.take i.toNat++ts.drop (min (i.toNat+ss.length) ts.length),0) else ([],9)) else ([],zak ts i ss)):=rfl;have HZ:=zQ0 (fun h=>zal (ts:=ts) (ss:=ss) (i:=i) h);generalize zcp ts i ss=res at *;generalize zak ts i ss=k at *;have HT:=zQ0 ht;have HS:=zQ0 hs;clear ht hs
 by_cases hk:k=0
 ·subst hk;obtain⟨h0,h1⟩:=HZ.out rfl;obtain⟨m,rfl⟩:∃ m:Nat,i=m:=⟨i.toNat,by omega⟩
  have hm:m<=ts.length:=by omega
  obtain⟨e,he⟩:∃ e,min (m+ss.length) ts.length=e:=⟨_,rfl⟩
  have HX:Hid (res=if (ts.drop m).take (e - m)=ss then (ts.take m++ts.drop e,0) else ([],9)):=by show _=_;rw[HR.out,if_pos rfl,<- he];rfl
  have he1:m<=e:=by omega
  have he2:e<=ts.length:=by omega
  have hmin:min ((m:Int)+ss.length) ts.length=(e:Int):=by omega
  have hw:IntKind.i64.wrap ((m:Int)+ss.length)=(m:Int)+ss.length:=by rw[IntKind.wrap_i64];omega
  clear HZ HR h0 he
  go_enter Tryz.func126,Tryz.ntmps126
  go_wp2_with fail
  refine CA.out.mono ?_;rintro e w1 ⟨rfl,g1⟩;have G1:=zQ0 g1;clear CA;have T1:=zQ0 ((HT.out.grew g1 zQ1).mono zQ1 g1.size);have S1:=zQ0 ((HS.out.grew g1 zQ1).mono zQ1 g1.size);clear HT HS g1;have hcap:=T1.out.1.1.2.1;go_upto_region 5 with fail
  clear hmin hw
  cases ta with
  | none =>
   obtain⟨hz1,hz2⟩:=T1.out.1.1.1 rfl;have e1:m=0:=by omega
   have e2:e=0:=by omega
   have hts:ts=[]:=List.length_eq_zero_iff.1 hz1;subst hts e1 e2 hz2;have HLE:Hid (([]:List Int).length=0):=rfl;have HLD:Hid ((([]:List Int).drop 0).take (0 - 0)=[]):=rfl;clear hcap h1 hm he1 he2;have EQ:=zQ0 (za0 none sa 0 sc [] ss w1 0 w1.heap.size 0 w1.heap.size zcI S1.out (by have:=HLE.out;omega) hl2 zQ1 zQ1);rw[HLE.out] at EQ
   by_cases hd:[]=ss
   ·have HN:Hid (res=(([]:List Int).take 0++([]:List Int).drop 0,0)):=by show _=_;rw[HX.out,if_pos (HLD.out.trans hd)]
    rw[decide_eq_true hd] at EQ;clear HX hd;go_wp2_with fail
    refine EQ.out.mono ?_;rintro e9 w2 ⟨rfl,g2⟩;have G2:=zQ0 (G1.out.trans g2);have T2:=zQ0 ((T1.out.grew g2 zQ1).mono zQ1 g2.size);clear T1 S1 EQ g2;have g20:Grew w2 w2.drew:=(Grew.refl _).drew
    have CC:=zQ0 (zaW [⟨none,0,[]⟩,⟨none,0,[]⟩] 2 #[.slice none 0 0,.slice none 0 0] w2 23 rfl rfl (by simp) (fun p hp=>by
     rcases List.mem_cons.1 hp with rfl | hp
     ·exact⟨zcI,by simp⟩
     ·obtain rfl:=List.mem_singleton.1 hp
      exact⟨zcI,by simp⟩))
    clear hl;go_upto_region 7 with fail
    go_region_held3 (fun w'=>Grew w2 w') ((first | assumption | exact g20 | exact Grew.trans (by assumption) (by assumption) | exact Grew.trans (by assumption) (Grew.alloc1 _ _))) ((first | (go_loud (go_at_call 162;refine CC.out.mono ?_;rintro e9 w7 ⟨q,rfl,g7,hq,hqe⟩))))
    go_wp2_with fail
    go_ret2
    have HE:Hid (q.l=([]:List Int).take 0++([]:List Int).drop 0):=by show _=_;rw[hqe.out];simp[za9]
    exact zcx G2.out g7 hq HE HN
   ·have HN:Hid (res=([],9)):=by show _=_;rw[HX.out,if_neg (fun h=>hd (HLD.out.symm.trans h))]
    rw[decide_eq_false hd] at EQ;clear HX hd;go_wp2_with fail
    refine EQ.out.mono ?_;rintro e9 w2 ⟨rfl,g2⟩;have G2:=zQ0 (G1.out.trans g2);clear EQ g2;go_wp2_with fail
    go_ret2
    exact retTx_no G2.out HN
  | some ad =>
   obtain⟨ab,ao,ax⟩:=ad;have q0:(0:Int)<=(m:Int):=by omega
   have q1:(m:Int)<=(e:Int):=by omega
   have q2:(e:Int)<=ts.length:=by omega
   have q3:(ts.length:Int)<=tc:=by omega
   have q4:(m:Int)<=tc:=by omega
   have q5:(e:Int)<=tc:=by omega
   have q6:(0:Int)<=(e:Int):=by omega
   by_cases hc:tc=m
   ·obtain rfl:e=m:=by omega
    subst hc;have HLE:Hid (([]:List Int).length=0):=rfl;have HLD:Hid ((ts.drop tc).take (tc - tc)=[]):=by show _=_;simp
    have q7:(tc:Int)<=tc:=Int.le_refl _;have EQ:=zQ0 (za0 (some ⟨ab,ao,ax⟩) sa 0 sc [] ss w1 0 w1.heap.size 0 w1.heap.size zcH S1.out (by have:=HLE.out;omega) hl2 zQ1 zQ1);rw[HLE.out] at EQ
    by_cases hd:[]=ss
    ·have HN:Hid (res=(ts.take tc++ts.drop tc,0)):=by show _=_;rw[HX.out,if_pos (HLD.out.trans hd)]
     rw[decide_eq_true hd] at EQ;clear HX hd;go_wp2_with fail
     refine EQ.out.mono ?_;rintro e9 w2 ⟨rfl,g2⟩;have G2:=zQ0 (G1.out.trans g2);have T2:=zQ0 ((T1.out.grew g2 zQ1).mono zQ1 g2.size);clear T1 S1 EQ g2;have g20:Grew w2 w2.drew:=(Grew.refl _).drew;have TT:=zQ0 (RunesIn.take T2.out hm);have HL1:Hid (tc=(ts.take tc).length):=by show _=_;rw[List.length_take_of_le hm]
     have HL2:Hid (ts.length - tc=(ts.drop tc).length):=by show _=_;rw[List.length_drop]
     have HD:Hid (ts.drop tc=[]):=by show _=_;rw[List.drop_eq_nil_iff];omega
     have CC:=zQ0 (zaW [⟨some ⟨ab,ao,ax⟩,tc,ts.take tc⟩,⟨some ⟨ab,ao,ax⟩,0,[]⟩] 2 #[.slice (some ⟨ab,ao,ax⟩) tc tc,.slice (some ⟨ab,ao,ax⟩) (ts.length - tc) 0] w2 23 rfl (by simp[PN.val];omega) (by simp) (fun p hp=>by
      rcases List.mem_cons.1 hp with rfl | hp
      ·exact⟨TT.out,by have:=HL1.out;show (ts.take tc).length<=_;omega⟩
      ·obtain rfl:=List.mem_singleton.1 hp
       exact⟨zcH,by simp⟩))
     clear hcap hm he1 he2;go_upto_region 7 with fail
     go_region_held3 (fun w'=>Grew w2 w') ((first | assumption | exact g20 | exact Grew.trans (by assumption) (by assumption) | exact Grew.trans (by assumption) (Grew.alloc1 _ _))) ((first | (go_loud (go_at_call 162;refine CC.out.mono ?_;rintro e9 w7 ⟨q,rfl,g7,hq,hqe⟩))))
     go_wp2_with fail
     go_ret2
     have HE:Hid (q.l=ts.take tc++ts.drop tc):=by show _=_;rw[hqe.out,HD.out];simp[za9]
     exact zcx G2.out g7 hq HE HN
    ·have HN:Hid (res=([],9)):=by show _=_;rw[HX.out,if_neg (fun h=>hd (HLD.out.symm.trans h))]
     rw[decide_eq_false hd] at EQ;clear HX hd;go_wp2_with fail
     refine EQ.out.mono ?_;rintro e9 w2 ⟨rfl,g2⟩;have G2:=zQ0 (G1.out.trans g2);clear EQ g2;go_wp2_with fail
     go_ret2
     exact retTx_no G2.out HN
   ·have q7:¬ tc=m:=hc;have q8:(m:Int) < tc:=by omega
    have HLE:Hid (((ts.drop m).take (e - m)).length=e - m):=by show _=_;rw[List.length_take,List.length_drop];omega
    have HLD:Hid ((ts.drop m).take (e - m)=(ts.drop m).take (e - m)):=rfl;have EQ:=zQ0 (za0 (some (Addr.add ⟨ab,ao,ax⟩ m)) sa (tc - m) sc ((ts.drop m).take (e - m)) ss w1 0 w1.heap.size 0 w1.heap.size (RunesIn.take (RunesIn.drop T1.out m (by omega)) (by rw[List.length_drop];omega)) S1.out (by have:=HLE.out;omega) hl2 zQ1 zQ1);rw[HLE.out] at EQ
    by_cases hd:((ts.drop m).take (e - m))=ss
    ·have HN:Hid (res=(ts.take m++ts.drop e,0)):=by show _=_;rw[HX.out,if_pos (HLD.out.trans hd)]
     rw[decide_eq_true hd] at EQ;clear HX hd;go_wp2_with fail
     refine EQ.out.mono ?_;rintro e9 w2 ⟨rfl,g2⟩;have G2:=zQ0 (G1.out.trans g2);have T2:=zQ0 ((T1.out.grew g2 zQ1).mono zQ1 g2.size);clear T1 S1 EQ g2;have g20:Grew w2 w2.drew:=(Grew.refl _).drew
     by_cases hce:tc=e
     ·subst hce;have q9:(tc:Int)<=tc:=Int.le_refl _;have TT:=zQ0 (RunesIn.take T2.out hm);have HL1:Hid (m=(ts.take m).length):=by show _=_;rw[List.length_take_of_le hm]
      have HL2:Hid (ts.length - tc=(ts.drop tc).length):=by show _=_;rw[List.length_drop]
      have HD:Hid (ts.drop tc=[]):=by show _=_;rw[List.drop_eq_nil_iff];omega
      have CC:=zQ0 (zaW [⟨some ⟨ab,ao,ax⟩,tc,ts.take m⟩,⟨some ⟨ab,ao,ax⟩,0,[]⟩] 2 #[.slice (some ⟨ab,ao,ax⟩) m tc,.slice (some ⟨ab,ao,ax⟩) (ts.length - tc) 0] w2 23 rfl (by simp[PN.val];omega) (by simp) (fun p hp=>by
       rcases List.mem_cons.1 hp with rfl | hp
       ·exact⟨TT.out,by have:=HL1.out;show (ts.take m).length<=_;omega⟩
       ·obtain rfl:=List.mem_singleton.1 hp
        exact⟨zcH,by simp⟩))
      clear hcap hm he1 he2 q7 hc;go_upto_region 7 with fail
      go_region_held3 (fun w'=>Grew w2 w') ((first | assumption | exact g20 | exact Grew.trans (by assumption) (by assumption) | exact Grew.trans (by assumption) (Grew.alloc1 _ _))) ((first | (go_loud (go_at_call 162;refine CC.out.mono ?_;rintro e9 w7 ⟨q,rfl,g7,hq,hqe⟩))))
      go_wp2_with fail
      go_ret2
      have HE:Hid (q.l=ts.take m++ts.drop tc):=by show _=_;rw[hqe.out,HD.out];simp[za9]
      exact zcx G2.out g7 hq HE HN
     ·have q9:¬ tc=e:=hce;have q10:(e:Int) < tc:=by omega
      have TT:=zQ0 (RunesIn.take T2.out hm);have HL1:Hid (m=(ts.take m).length):=by show _=_;rw[List.length_take_of_le hm]
      have HL2:Hid (ts.length - e=(ts.drop e).length):=by show _=_;rw[List.length_drop]
      have CC:=zQ0 (zaW [⟨some ⟨ab,ao,ax⟩,tc,ts.take m⟩,⟨some (Addr.add ⟨ab,ao,ax⟩ e),tc - e,ts.drop e⟩] 2 #[.slice (some ⟨ab,ao,ax⟩) m tc,.slice (some (Addr.add ⟨ab,ao,ax⟩ e)) (ts.length - e) (tc - e)] w2 23 rfl (by simp[PN.val];omega) (by simp) (fun p hp=>by
       rcases List.mem_cons.1 hp with rfl | hp
       ·exact⟨TT.out,by have:=HL1.out;show (ts.take m).length<=_;omega⟩
       ·obtain rfl:=List.mem_singleton.1 hp
        exact⟨RunesIn.drop T2.out e (by omega),by have:=HL2.out;show (ts.drop e).length<=_;omega⟩))
      clear hcap hm he1 he2;go_upto_region 7 with fail
      go_region_held3 (fun w'=>Grew w2 w') ((first | assumption | exact g20 | exact Grew.trans (by assumption) (by assumption) | exact Grew.trans (by assumption) (Grew.alloc1 _ _))) ((first | (go_loud (go_at_call 162;refine CC.out.mono ?_;rintro e9 w7 ⟨q,rfl,g7,hq,hqe⟩))))
      go_wp2_with fail
      go_ret2
      have HE:Hid (q.l=ts.take m++ts.drop e):=by show _=_;rw[hqe.out];simp[za9]
      exact zcx G2.out g7 hq HE HN
    ·have HN:Hid (res=([],9)):=by show _=_;rw[HX.out,if_neg (fun h=>hd (HLD.out.symm.trans h))]
     rw[decide_eq_false hd] at EQ;clear HX hd;go_wp2_with fail
     refine EQ.out.mono ?_;rintro e9 w2 ⟨rfl,g2⟩;have G2:=zQ0 (G1.out.trans g2);clear EQ g2;go_wp2_with fail
     go_ret2
     exact retTx_no G2.out HN
 ·have HN:Hid (res=([],k)):=by show _=_;rw[HR.out,if_neg hk]
  have t1:(k == 0)=false:=by simpa using hk
  have t2:(k != 0)=true:=by simpa using hk
  clear HR HZ hk
  go_enter Tryz.func126,Tryz.ntmps126
  go_wp2_with fail
  refine CA.out.mono ?_;rintro e w1 ⟨rfl,g1⟩;go_wp2_with fail
  go_ret2
  exact retTx_no g1 HN
theorem infoByte:(Tryz.prog.info? 5).map (fun i=>(i.zero,i.size,i.bytes))=some (some (.int .u8 0),1,1):=by kernel_rfl
theorem bytes_at(l:List Int):∀ i,i < l.length->∀ j,j < 1->(l.map (Value.int .u8))[i * 1+j]? = some (.int .u8 (l.getD i 0)):=fun i hi j hj=>by
 obtain rfl:j=0:=by omega
 simp[List.getElem?_map,List.getElem?_eq_getElem hi,List.getD]
theorem bytes_one(l:List Int):∀ u∈l.map (Value.int .u8),u.oneCell'=true:=by
 intro u hu;obtain⟨x,_,rfl⟩:=List.mem_map.1 hu
 rfl
def fsCell(fs:List (Int × Bool))(i j:Nat):Value:=if j=0 then .int .u8 (fs.getD i (0,false)).1 else .bool (fs.getD i (0,false)).2
theorem fsRow_new{w:World}{t:TypeId}{fs:List (Int × Bool)}{b1 b2 b3 b4 b5 b6 b7 b8 b9:Bool}(h:fs=[(112,b1),(116,b2),(97,b3),(110,b4),(111,b5),(119,b6),(120,b7),(115,b8),(115,b9)]) :
  RowIn (w.alloc (.cells #[.int .u8 112,.bool b1,.int .u8 116,.bool b2,.int .u8 97,.bool b3,.int .u8 110,.bool b4,.int .u8 111,.bool b5,.int .u8 119,.bool b6,.int .u8 120,.bool b7,.int .u8 115,.bool b8,.int .u8 115,.bool b9] t)) w.heap.size (w.heap.size+1) (some ⟨w.heap.size,0,none⟩) 9 9 2 (fsCell fs) :=
 zcC zQ1 (by unfold maxLen;omega) (fun i hi j hj=>by
  subst h;have hi':i=0\/i=1\/i=2\/i=3\/i=4\/i=5\/i=6\/i=7\/i=8:=by omega
  have hj':j=0\/j=1:=by omega
  rcases hj' with rfl | rfl <;> rcases hi' with rfl | rfl | rfl | rfl | rfl | rfl | rfl | rfl | rfl <;> rfl)
theorem setOf_snoc{fs:List (Int × Bool)}{k:Nat}(h:k < fs.length):setOf (fs.take (k+1))=setOf (fs.take k)++(if (fs.getD k (0,false)).2=true then [(fs.getD k (0,false)).1] else []):=by
 unfold setOf;rw[List.take_succ_eq_append_getElem h,List.filter_append,List.map_append]
 congr 1
 have e:fs.getD k (0,false)=fs[k]:=by simp[List.getD,List.getElem?_eq_getElem h]
 rw[e]
 cases hb:fs[k].2 <;> simp[hb]
theorem setOf_len(fs:List (Int × Bool))(k:Nat):(setOf (fs.take k)).length<=k:=by
 unfold setOf;have h1:=List.length_filter_le (·.2) (fs.take k);have h2:=List.length_take_le k fs;simp only[List.length_map];omega
theorem pn_nil:PN.nil.l.length<=1048576:=Nat.zero_le _
theorem zcL{w:World}{lo hi:Nat}:SelL.nil.In w lo hi:=⟨zbu,zbu⟩
theorem set_any(o:OpL)(w:World)(ho:o.In w 0 w.heap.size)(hb:o.er.Small) :
  Calls Tryz.prog 109 #[o.val] w fun e w'=>e=.returned (.string (strOfNums (setE o.er)))/\Grew w w':=by
 have later:∀ {w1},Grew w w1->o.In w1 0 w1.heap.size:=fun g=>(ho.grew g zQ1).mono zQ1 g.size;have NS:=zQ0 (fun w1 (g:Grew w w1)=>zbT o.node NT.zero w1 (NT.In.ok (later g).2.1 zQ1) (NT.In.ok (NT.zero_in (lo:=0) (hi:=0)) (Nat.zero_le _)) hb.2.1 (by rw[NT.zero_er];decide));have S1:=zQ0 (fun w1 (g:Grew w w1)=>sameSel_any o.src SelL.nil w1 (later g).2.2.2.2.2.1 zcL hb.2.2.2.2.2.1.1 hb.2.2.2.2.2.1.2 pn_nil pn_nil);have S2:=zQ0 (fun w1 (g:Grew w w1)=>sameSel_any o.dst SelL.nil w1 (later g).2.2.2.2.2.2 zcL hb.2.2.2.2.2.2.1 hb.2.2.2.2.2.2.2 pn_nil pn_nil);have HF:Hid (za6 o.er=[(112,decide (0 < o.path.l.length)),(116,decide (0 < o.dest.l.length)),(97,decide (o.pos≠0)),(110,decide (o.node.er≠T.zero)),(111,decide (0 < o.old.length)),(119,decide (0 < o.new.length)),(120,decide (0 < o.text.length)),(115,!zcK o.src.er SelE.nil),(115,!zcK o.dst.er SelE.nil)]):=rfl;have HE:Hid (setE o.er=setOf (za6 o.er)):=rfl;generalize setE o.er=res at *;generalize za6 o.er=fs at *;clear later ho hb;unfold OpL.val
 go_enter Tryz.func109,Tryz.ntmps109
 go_upto_region 2 with fail
 generalize hW:w.alloc _=w1;obtain⟨g1,rO,_,z1⟩:=zaq w o.cells _ w1 hW;clear hW
 have KB:=fun(w':World) (g:Grew w1 w')=>(have h:=zcj rO g (by omega);⟨zci h (j:=1) rfl,zci h (j:=2) rfl,zci h (j:=3) rfl,zci h (j:=4) rfl,zci h (j:=5) rfl,zci h (j:=6) rfl,zci h (j:=7) rfl,zci h (j:=8) rfl,zci h (j:=9) rfl,zci h (j:=10) rfl,zci h (j:=11) rfl,zci h (j:=12) rfl,zci h (j:=13) rfl,zci h (j:=14) rfl,zci h (j:=15) rfl,zci h (j:=16) rfl,zci h (j:=17) rfl,zci h (j:=18) rfl,zci h (j:=19) rfl,zci h (j:=20) rfl⟩ :
  w'.cell? ⟨w.heap.size,1,none⟩=some (.slice o.path.a o.path.l.length o.path.c)/\w'.cell? ⟨w.heap.size,2,none⟩=some (.slice o.dest.a o.dest.l.length o.dest.c)/\w'.cell? ⟨w.heap.size,3,none⟩=some (.int .i64 o.pos)/\w'.cell? ⟨w.heap.size,4,none⟩=some (.bool o.node.lf)/\w'.cell? ⟨w.heap.size,5,none⟩=some (.slice o.node.pa o.node.ps.length o.node.pc)/\w'.cell? ⟨w.heap.size,6,none⟩=some (.slice o.node.ta o.node.ts.length o.node.tc)/\w'.cell? ⟨w.heap.size,7,none⟩=some (.slice o.node.ka o.node.ks.length o.node.kc) /\
  w'.cell? ⟨w.heap.size,8,none⟩=some (.slice o.oa o.old.length o.oc)/\w'.cell? ⟨w.heap.size,9,none⟩=some (.slice o.na o.new.length o.nc)/\w'.cell? ⟨w.heap.size,10,none⟩=some (.slice o.xa o.text.length o.xc) /\
  w'.cell? ⟨w.heap.size,11,none⟩=some (.bool o.src.is)/\w'.cell? ⟨w.heap.size,12,none⟩=some (.slice o.src.a.p.a o.src.a.p.l.length o.src.a.p.c)/\w'.cell? ⟨w.heap.size,13,none⟩=some (.int .i64 o.src.a.o)/\w'.cell? ⟨w.heap.size,14,none⟩=some (.slice o.src.f.p.a o.src.f.p.l.length o.src.f.p.c)/\w'.cell? ⟨w.heap.size,15,none⟩=some (.int .i64 o.src.f.o) /\
  w'.cell? ⟨w.heap.size,16,none⟩=some (.bool o.dst.is)/\w'.cell? ⟨w.heap.size,17,none⟩=some (.slice o.dst.a.p.a o.dst.a.p.l.length o.dst.a.p.c)/\w'.cell? ⟨w.heap.size,18,none⟩=some (.int .i64 o.dst.a.o)/\w'.cell? ⟨w.heap.size,19,none⟩=some (.slice o.dst.f.p.a o.dst.f.p.l.length o.dst.f.p.c)/\w'.cell? ⟨w.heap.size,20,none⟩=some (.int .i64 o.dst.f.o))
 have G1:=zQ0 g1;clear rO z1 g1
 go_cut [53,54,55] (fun s53 s54 s55 wx=>∃ B,s53=.slice (some ⟨B,0,none⟩) 9 9/\s54=.int .i64 9/\s55=.int .i64 0/\Grew w wx/\RowIn wx B (B+1) (some ⟨B,0,none⟩) 9 9 2 (fsCell fs)/\B < wx.heap.size)
 case first =>
  have g10:Grew w1 w1.drew:=(Grew.refl _).drew;unfold NT.val at NS
  go_region_held3 (fun w'=>Grew w1 w') ((first | assumption | exact Grew.trans (by assumption) (by assumption) | exact Grew.trans (by assumption) (Grew.alloc1 _ _)))
   ((first | (go_at_call 71;refine (NS.out _ (G1.out.trans (by assumption))).mono ?_;rintro e w7 ⟨rfl,g7⟩) | (go_at_call 32;refine (S1.out _ (G1.out.trans (by assumption))).mono ?_;rintro e w8 ⟨rfl,g8⟩;clear S1) | (go_at_call 32;refine (S2.out _ (G1.out.trans (by assumption))).mono ?_;rintro e w9 ⟨rfl,g9⟩)))
  have GZ:=G1.out.trans (g10.trans (g7.trans (g8.trans g9)))
  have HR:=fsRow_new (w:=w9) (t:=161) (fs:=fs) (b1:=decide (0 < o.path.l.length)) (b2:=decide (0 < o.dest.l.length)) (b3:=(o.pos != 0)) (b4:=!decide (o.node.er=NT.zero.er)) (b5:=decide (0 < o.old.length)) (b6:=decide (0 < o.new.length)) (b7:=decide (0 < o.text.length)) (b8:=!zcK o.src.er SelL.nil.er) (b9:=!zcK o.dst.er SelL.nil.er) (by
   rw[HF.out,NT.zero_er];have e1:decide (o.pos≠0)=(o.pos != 0):=by by_cases h:o.pos=0 <;> simp[h]
   have e2:decide (o.node.er≠T.zero)=!decide (o.node.er=T.zero):=by by_cases h:o.node.er=T.zero <;> simp[h]
   rw[e1,e2];rfl)
  clear KB NS S2 HF;go_wp2_with fail
  go_meet
  exact⟨w9.heap.size,rfl,rfl,rfl,GZ.alloc _,HR,by simp⟩
 case rest =>
  obtain⟨B,rfl,rfl,rfl,gx,hrow,hB⟩:=hcut;have GX:=zQ0 gx;have HL:Hid (fs.length=9):=by show _=_;rw[HF.out];rfl
  clear KB NS S1 S2 G1 HF gx;go_wp2_with fail
  go_loopw [3,55] (fun s3 i wr=>∃(k:Nat) (l:List Int),k<=9/\i=.int .i64 k/\Grew wc wr/\wr.ownsRow wc.heap.size 5 1 s3 l.length (l.map (Value.int .u8))/\Hid (l=setOf (fs.take k))) (fun _ i _=>9 - (intOf i).toNat)
  case atStart=>exact⟨0,[],by omega,rfl,Grew.refl _,World.ownsRow_nil _ _ _ _,by show _=_;rfl⟩
  case round =>
   obtain⟨k,l,hk,rfl,g,hown,HLL⟩:=hrel;have hll:l.length<=9:=by rw[HLL.out];exact Nat.le_trans (setOf_len _ _) hk
   by_cases hlt:k < 9
   ·obtain⟨b0,o0,hab,_,hb0,hc⟩:=(RowIn.agree hrow (g.agree (show B+1<=wc.heap.size by omega))).2 (show 0 < 9 by decide);injection hab with hab
    injection hab with e1 e2
    subst e1;subst e2;have c0:=hc k hlt 0 (by decide);have c1:=hc k hlt 1 (by decide);simp only[Nat.zero_add,Nat.add_zero] at c0 c1;have HS:=zQ0 (setOf_snoc (fs:=fs) (k:=k) (by rw[HL.out];exact hlt));unfold fsCell at c0 c1;rw[if_pos rfl] at c0;rw[if_neg (by decide)] at c1;generalize fs.getD k (0,false)=f at *;obtain⟨fc,fb⟩:=f;simp only at c0 c1;obtain⟨va,vc,rfl⟩:=zb2 hown
    cases fb with
    | true =>
     have HN:Hid (l++[fc]=setOf (fs.take (k+1))):=by show _=_;rw[HS.out,HLL.out];simp
     clear HS HLL hc
     have hone:RowIn ((wr.alloc (.cells #[.int .u8 fc,.bool true] 161)).alloc (.cells #[.int .u8 fc] 5)) (wr.alloc (.cells #[.int .u8 fc,.bool true] 161)).heap.size ((wr.alloc (.cells #[.int .u8 fc,.bool true] 161)).heap.size+1) (some ⟨(wr.alloc (.cells #[.int .u8 fc,.bool true] 161)).heap.size,0,none⟩) 1 1 1 (fun i _=>.int .u8 ([fc].getD i 0)) :=
      zcC zQ1 (by unfold maxLen;omega) (fun i hi j hj=>by
       obtain rfl:i=0:=by omega
       obtain rfl:j=0:=by omega
       rfl)
     simp only[World.size_alloc] at hone;have gA:Grew wr ((wr.alloc (.cells #[.int .u8 fc,.bool true] 161)).alloc (.cells #[.int .u8 fc] 5)):=(Grew.alloc1 _ _).alloc _;have zg:=g.size
     go_wp2_with (at_builtin;refine zdi rfl (.tmp 61) (.tmp 64) 133 rfl wc.heap.size 5 Tryz.underlying133 infoByte rfl (by decide) (.slice va l.length vc) l.length (l.map (Value.int .u8)) rfl (zb4 hown gA) (some ⟨wr.heap.size+1,0,none⟩) 1 1 (wr.heap.size+1) (wr.heap.size+1+1) _ rfl hone ([fc].map (Value.int .u8)) (by simp) (bytes_at [fc]) (bytes_one [fc]) (by unfold maxLen;omega) (by omega) (by simp;omega) ?_;intro v' w' hown' hgrow hblk)
     go_roundw
     case rel=>exact⟨k+1,l++[fc],by omega,by go_num,(g.trans gA).grown hgrow (fun k hk=>(hown.lt k hk).1),by rw[List.length_append,List.map_append];exact hown',HN⟩
     case measure=>simp[intOf];omega
    | false =>
     have HN:Hid (l=setOf (fs.take (k+1))):=by show _=_;rw[HS.out,HLL.out];simp
     clear HS HLL hc;go_wp2_with fail
     go_roundw
     case rel=>exact⟨k+1,l,by omega,by go_num,g.trans (Grew.alloc1 _ _),zb4 hown (Grew.alloc1 _ _),HN⟩
     case measure=>simp[intOf];omega
   ·obtain rfl:k=9:=by omega
    have HN:Hid (res=l):=by show _=_;rw[HE.out,HLL.out,List.take_of_length_le (by rw[HL.out];exact Nat.le_refl _)]
    clear HLL HE;obtain⟨va,vc,rfl⟩:=zb2 hown;have hB2:BytesIn wr wc.heap.size wr.heap.size va vc l:=(zbZ hown (bytes_at l)).1;have hcv:=bytes_conv (P:=Tryz.prog) wr hB2 Tryz.underlying133 Tryz.underlying5 Tryz.underlying9;have G:=zQ0 (GX.out.trans g);clear hB2 hown g;go_wp2_with fail
    go_ret
    exact⟨by rw[HN.out];rfl,G.out⟩
theorem zcF{P:Program}(w:World)(mty kt et:TypeId)(r clock:Nat)(es:Array MapEntry)(k:Int)(val:Value)(hm:P.underlying mty=some (.map kt et))(hk:P.underlying kt=some (.int .i64))(hb:w.heap[r]? = some (.map es clock))(hf:Instr.findNow (.int .i64) (.int .i64 k) es.toList 0=some none):(Instr.mapUpdate mty (.map (some r)) (.int .i64 k) val).run P w=.ok () { w with heap:=w.heap.setIfInBounds r (.map (es.push { key:=.int .i64 k,val:=val,born:=clock }) (clock+1)) }:=by
 have hc:(Instr.checkKey false 10000 kt (.int .i64 k)).run P w=.ok () w:=MapKept.run_checkKey (k:=.int .i64 k) hk (by simp[MapKept.IsKey]) false 9999
 simp[Instr.mapUpdate,run_underlying hm,MapKept.run_getObj_map hb,hc,MapKept.run_findKey hk hf,MapKept.run_setObj_map _ hb,Result.andThen]
theorem zah(w:World)(o o':Obj):({ (w.alloc o) with heap:=(w.alloc o).heap.setIfInBounds w.heap.size o' }:World)=w.alloc o':=by
 unfold World.alloc
 have e:(w.heap.push o).setIfInBounds w.heap.size o'=w.heap.push o':=by
  refine Array.ext (by simp) (fun i h1 h2=>?_);rw[Array.getElem_setIfInBounds (by simpa using h1),Array.getElem_push,Array.getElem_push]
  by_cases h:i < w.heap.size
  ·rw[if_neg (by omega),dif_pos h,dif_pos h]
  ·have:i=w.heap.size:=by simp at h1;omega
   subst this
   simp
 simp[-World.alloc_eq,e]
end Go.Proofs.YtccobobnmpafbaaGreatDoor
