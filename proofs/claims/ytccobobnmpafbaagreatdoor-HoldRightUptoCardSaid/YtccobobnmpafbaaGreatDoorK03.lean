/- trail.Compare, Same, Above, redlineref02.Compare, Above, cmp.Compare[int]: the contracts; how paths are compared. -/
import Derived.Test.YtccobobnmpafbaaGreatDoorK02
import Derived.IntWalk
import Derived.Deep.MidRow
import Derived.Deep.DeepCutAuto
import Derived.Laws.OwnMore
import Derived.Laws.EntriesVeiled
import Derived.Test.YtccobobnmpafbaaGreatDoorK01
set_option maxRecDepth 100000
set_option maxHeartbeats 100000000
namespace Go.Proofs.YtccobobnmpafbaaGreatDoor
open Go Go.RowKit
def cmpI(x y:Int):Int:=if x < y then -1 else if y < x then 1 else 0
def cmpP:List Int->List Int->Int
 | [],[]=>0
 | [],_::_=>-1
 | _::_,[]=>1
 | a::x,b::y=>if a < b then -1 else if b < a then 1 else cmpP x y
theorem cmpI_zero{x y:Int}:cmpI x y=0 ↔ x=y:=by
 unfold cmpI
 split
 ·constructor
  ·intro h;cases h
  ·intro h;omega
 ·split
  ·constructor
   ·intro h;cases h
   ·intro h;omega
  ·constructor
   ·intro _;omega
   ·intro _;rfl
theorem cmpP_zero{x y:List Int}:cmpP x y=0 ↔ x=y:=by
 induction x generalizing y with
 | nil=>cases y <;> simp[cmpP]
 | cons a x ih =>
  cases y with
  | nil=>simp[cmpP]
  | cons b y =>
   unfold cmpP
   split
   ·simp;omega
   ·split
    ·simp;omega
    ·rw[ih,List.cons.injEq];exact⟨fun h=>⟨by omega,h⟩,fun h=>h.2⟩
theorem cmpP_drop{xs ys:List Int}{k:Nat}(h1:k < xs.length)(h2:k < ys.length):cmpP (xs.drop k) (ys.drop k)=if xs.getD k 0 < ys.getD k 0 then -1 else if ys.getD k 0 < xs.getD k 0 then 1 else cmpP (xs.drop (k+1)) (ys.drop (k+1)):=by
 rw[List.drop_eq_getElem_cons h1,List.drop_eq_getElem_cons h2,cmpP]
 simp[List.getD,h1,h2]
theorem cmpP_end{xs ys:List Int}{k:Nat}(h1:xs.length<=k):cmpP (xs.drop k) (ys.drop k)=if k < ys.length then -1 else 0:=by
 rw[List.drop_of_length_le h1]
 split
 ·rename_i h
  rw[List.drop_eq_getElem_cons h];rfl
 ·rw[List.drop_of_length_le (by omega)];rfl
theorem cmpP_more{xs ys:List Int}{k:Nat}(h1:k < xs.length)(h2:ys.length<=k):cmpP (xs.drop k) (ys.drop k)=1:=by
 rw[List.drop_eq_getElem_cons h1,List.drop_of_length_le h2];rfl
theorem isNaN_any(x:Int)(w:World):Calls Tryz.prog 178 #[.int .i64 x] w fun e w'=>e=.returned (.bool false)/\w=w':=by
 go_enter Tryz.func178,Tryz.ntmps178
 go_wp2_with fail
 go_ret
 exact⟨by simp,rfl⟩
theorem cmpInt_any(x y:Int)(w:World):Calls Tryz.prog 143 #[.int .i64 x,.int .i64 y] w fun e w'=>e=.returned (.int .i64 (cmpI x y))/\w=w':=by
 have HC:Hid (cmpI x y=if x < y then -1 else if y < x then 1 else 0):=rfl;generalize cmpI x y=c at *
 go_enter Tryz.func143,Tryz.ntmps143
 go_wp2_with fail
 refine (isNaN_any x w).mono ?_;rintro e w' ⟨rfl,rfl⟩;go_wp2_with fail
 refine (isNaN_any y w).mono ?_;rintro e w' ⟨rfl,rfl⟩
 by_cases h1:x < y
 ·have HX:Hid (c=-1):=by show _=_;rw[HC.out,if_pos h1]
  go_wp2_with fail
  go_ret
  exact⟨zcz (by rw[HX.out]),rfl⟩
 ·by_cases h2:y < x
  ·have HX:Hid (c=1):=by show _=_;rw[HC.out,if_neg h1,if_pos h2]
   go_wp2_with fail
   go_ret
   exact⟨zcz (by rw[HX.out]),rfl⟩
  ·have HX:Hid (c=0):=by show _=_;rw[HC.out,if_neg h1,if_neg h2]
   go_wp2_with fail
   go_ret
   exact⟨zcz (by rw[HX.out]),rfl⟩
theorem cmpInts_any(a b:Option Addr)(c d:Nat)(xs ys:List Int)(w:World)(lo hi lo' hi':Nat)(hx:IntsIn w lo hi a c xs)(hy:IntsIn w lo' hi' b d ys)(hl:xs.length<=1048576)(hl2:ys.length<=1048576) :
  Calls Tryz.prog 177 #[.slice a xs.length c,.slice b ys.length d] w fun e w'=>e=.returned (.int .i64 (cmpP xs ys))/\w=w':=by
 go_enter Tryz.func177,Tryz.ntmps177
 go_wp2_with fail
 go_loop [11] (fun i=>∃(k:Nat),k<=xs.length/\k<=ys.length/\i=.int .i64 k/\cmpP xs ys=cmpP (xs.drop k) (ys.drop k)) (fun i=>xs.length - (intOf i).toNat)
 case atStart=>exact⟨0,by omega,by omega,rfl,by simp⟩
 case round =>
  obtain⟨k,hk,hk2,rfl,he⟩:=hrel;have HE:=zQ0 he;clear he
  by_cases hlt:k < xs.length
  ·obtain⟨b1,o1,rfl,_,_,hc1⟩:=hx.at hlt
   by_cases hlt2:k < ys.length
   ·obtain⟨b2,o2,rfl,_,_,hc2⟩:=hy.at hlt2;have ht:decide ((ys.length:Int)<=(k:Int))=false:=by simp;omega
    have HS:=zQ0 (cmpP_drop hlt hlt2);have HI:Hid (cmpI (xs.getD k 0) (ys.getD k 0)=if xs.getD k 0 < ys.getD k 0 then -1 else if ys.getD k 0 < xs.getD k 0 then 1 else 0):=rfl;generalize xs.getD k 0=p at *;generalize ys.getD k 0=q at *;go_wp2_with fail
    refine (cmpInt_any p q w).mono ?_;rintro e w' ⟨rfl,rfl⟩
    by_cases h1:p < q
    ·have HX:Hid (cmpP xs ys=-1):=by show _=_;rw[HE.out,HS.out,if_pos h1]
     rw[HI.out,if_pos h1];go_wp2_with fail
     go_ret
     exact⟨zcz (by rw[HX.out]),rfl⟩
    ·by_cases h2:q < p
     ·have HX:Hid (cmpP xs ys=1):=by show _=_;rw[HE.out,HS.out,if_neg h1,if_pos h2]
      rw[HI.out,if_neg h1,if_pos h2];go_wp2_with fail
      go_ret
      exact⟨zcz (by rw[HX.out]),rfl⟩
     ·have HX:Hid (cmpP xs ys=cmpP (xs.drop (k+1)) (ys.drop (k+1))):=by show _=_;rw[HE.out,HS.out,if_neg h1,if_neg h2]
      rw[HI.out,if_neg h1,if_neg h2];go_wp2_with fail
      go_round
      case rel=>exact⟨k+1,by omega,by omega,by go_num,HX.out⟩
      case measure=>simp[intOf];omega
   ·have ht:decide ((ys.length:Int)<=(k:Int))=true:=by simp;omega
    have HX:Hid (cmpP xs ys=1):=by show _=_;rw[HE.out,cmpP_more hlt (by omega)]
    go_wp2_with fail
    go_ret
    exact⟨zcz (by rw[HX.out]),rfl⟩
  ·by_cases hlt2:xs.length < ys.length
   ·have HX:Hid (cmpP xs ys=-1):=by show _=_;rw[HE.out,cmpP_end (by omega),if_pos (by omega)]
    go_wp2_with fail
    go_ret
    exact⟨zcz (by rw[HX.out]),rfl⟩
   ·have HX:Hid (cmpP xs ys=0):=by show _=_;rw[HE.out,cmpP_end (by omega),if_neg (by omega)]
    go_wp2_with fail
    go_ret
    exact⟨zcz (by rw[HX.out]),rfl⟩
theorem trailCmp_any(a b:Option Addr)(c d:Nat)(xs ys:List Int)(w:World)(lo hi lo' hi':Nat)(hx:IntsIn w lo hi a c xs)(hy:IntsIn w lo' hi' b d ys)(hl:xs.length<=1048576)(hl2:ys.length<=1048576) :
  Calls Tryz.prog 142 #[.slice a xs.length c,.slice b ys.length d] w fun e w'=>e=.returned (.int .i64 (cmpP xs ys))/\w=w':=by
 have C:=zQ0 (cmpInts_any a b c d xs ys w lo hi lo' hi' hx hy hl hl2)
 go_enter Tryz.func142,Tryz.ntmps142
 go_wp2_with fail
 refine C.out.mono ?_;rintro e w' ⟨rfl,rfl⟩;go_wp2_with fail
 go_ret
 exact⟨rfl,rfl⟩
theorem eqInts_any(a b:Option Addr)(c d:Nat)(xs ys:List Int)(w:World)(lo hi lo' hi':Nat)(hx:IntsIn w lo hi a c xs)(hy:IntsIn w lo' hi' b d ys)(hl:xs.length<=1048576)(hl2:ys.length<=1048576)(hh:hi<=w.heap.size)(hh':hi'<=w.heap.size) :
  Calls Tryz.prog 59 #[.slice a xs.length c,.slice b ys.length d] w fun e w'=>e=.returned (.bool (decide (xs=ys)))/\Grew w w':=by
 by_cases hne:xs.length=ys.length
 ·have heq:((xs.length:Int) != ys.length)=false:=by simp[hne]
  have HL:=zQ0 hne;have hle:xs.length<=ys.length:=by omega
  clear hne
  go_enter Tryz.func59,Tryz.ntmps59
  go_wp2_with fail
  go_loopw [13] (fun i wr=>∃(k:Nat),k<=xs.length/\i=.int .i64 k/\Grew w wr/\xs.take k=ys.take k) (fun i _=>xs.length - (intOf i).toNat)
  case atStart=>exact⟨0,by omega,rfl,Grew.refl _,by simp⟩
  case round =>
   obtain⟨k,hk1,rfl,hg,he⟩:=hrel;have HE:=zQ0 he;clear he
   by_cases hlt:k < xs.length
   ·obtain⟨b1,o1,rfl,_,_,hc1⟩:=(hx.grew hg hh).at hlt;obtain⟨b2,o2,rfl,_,_,hc2⟩:=(hy.grew hg hh').at (j:=k) (by omega);have hy1:(k:Int) < (ys.length:Int):=by omega
    by_cases hxy:xs.getD k 0=ys.getD k 0
    ·have ht:(xs.getD k 0 != ys.getD k 0)=false:=by rw[hxy];simp
     have HX:Hid (xs.take (k+1)=ys.take (k+1)):=by
      show _=_
      rw[zc3 xs k hlt,zc3 ys k (by omega),HE.out,hxy]
     clear hxy;generalize xs.getD k 0=p at *;generalize ys.getD k 0=q at *;go_wp2_with fail
     go_quiet (fail)
     go_wp2_with fail
     go_roundw
     case rel=>exact⟨k+1,by omega,by go_num,hg.drewN _,HX.out⟩
     case measure=>simp[intOf];omega
    ·have ht:(xs.getD k 0 != ys.getD k 0)=true:=by simpa using hxy
     have hne:=zbQ hxy;have HN:Hid (decide (xs=ys)=false):=by show _=_;simp[hne]
     clear hxy hne;generalize xs.getD k 0=p at *;generalize ys.getD k 0=q at *;go_wp2_with fail
     go_quiet (fail)
     go_wp2_with fail
     go_ret
     exact⟨zcy (by rw[HN.out]),hg.drewN _⟩
   ·have HN:Hid (decide (xs=ys)=true):=by
     show _=_
     have:=HE.out;rw[List.take_of_length_le (by omega),List.take_of_length_le (by have:=HL.out;omega)] at this
     simp[this]
    go_wp2_with fail
    go_ret
    exact⟨zcy (by rw[HN.out]),hg⟩
 ·have heq:((xs.length:Int) != ys.length)=true:=by simp;omega
  have HN:Hid (decide (xs=ys)=false):=by
   show _=_
   simp only[decide_eq_false_iff_not];intro e;exact hne (by rw[e])
  clear hne
  go_enter Tryz.func59,Tryz.ntmps59
  go_wp2_with fail
  go_ret
  exact⟨zcy (by rw[HN.out]),Grew.refl _⟩
theorem trailSame_any(a b:Option Addr)(c d:Nat)(xs ys:List Int)(w:World)(lo hi lo' hi':Nat)(hx:IntsIn w lo hi a c xs)(hy:IntsIn w lo' hi' b d ys)(hl:xs.length<=1048576)(hl2:ys.length<=1048576)(hh:hi<=w.heap.size)(hh':hi'<=w.heap.size) :
  Calls Tryz.prog 25 #[.slice a xs.length c,.slice b ys.length d] w fun e w'=>e=.returned (.bool (decide (xs=ys)))/\Grew w w':=by
 have C:=zQ0 (eqInts_any a b c d xs ys w lo hi lo' hi' hx hy hl hl2 hh hh')
 go_enter Tryz.func25,Tryz.ntmps25
 go_wp2_with fail
 refine C.out.mono ?_;rintro e w' ⟨rfl,hg⟩;go_wp2_with fail
 go_ret
 exact⟨rfl,hg⟩
def zag:List Int->List Int->Nat
 | a::x,b::y=>if a=b then zag x y+1 else 0
 | _,_=>0
theorem alikeN_eq{xs ys:List Int}{k:Nat}(h1:k<=xs.length)(h2:k<=ys.length)(he:xs.take k=ys.take k)(hd:k=xs.length\/k=ys.length\/xs.getD k 0≠ys.getD k 0):zag xs ys=k:=by
 induction k generalizing xs ys with
 | zero =>
  cases xs with
  | nil=>rfl
  | cons a x =>
   cases ys with
   | nil=>rfl
   | cons b y =>
    rcases hd with h | h | h
    ·simp at h
    ·simp at h
    ·unfold zag;rw[if_neg (by simpa [List.getD] using h)]
 | succ k ih =>
  cases xs with
  | nil=>simp at h1
  | cons a x =>
   cases ys with
   | nil=>simp at h2
   | cons b y =>
    simp only[List.take_succ_cons,List.cons.injEq] at he;unfold zag;rw[if_pos he.1,ih (by simpa using h1) (by simpa using h2) he.2 (by simpa [List.getD] using hd)]
theorem alikeN_le(xs ys:List Int):zag xs ys<=xs.length/\zag xs ys<=ys.length:=by
 induction xs generalizing ys with
 | nil=>simp[zag]
 | cons a x ih =>
  cases ys with
  | nil=>simp[zag]
  | cons b y =>
   unfold zag;have:=ih y
   split <;> simp <;> omega
theorem alikeN_take(xs ys:List Int):xs.take (zag xs ys)=ys.take (zag xs ys):=by
 induction xs generalizing ys with
 | nil=>simp[zag]
 | cons a x ih =>
  cases ys with
  | nil=>simp[zag]
  | cons b y =>
   unfold zag
   split
   ·rename_i h
    simp[h,ih y]
   ·simp
def zad(a b:List Int):Bool:=decide (a.length < b.length) && decide (a=b.take a.length)
theorem aboveP_alike(a b:List Int):zad a b=(decide (a.length < b.length) && decide (zag a b=a.length)):=by
 unfold zad
 by_cases h:a.length < b.length
 ·simp only[h,decide_true,Bool.true_and];rw[Bool.eq_iff_iff,decide_eq_true_iff,decide_eq_true_iff]
  constructor
  ·intro e;exact alikeN_eq zQ1 (by omega) (by rw[List.take_length];exact e) (Or.inl rfl)
  ·intro e;have:=alikeN_take a b;rw[e,List.take_length] at this;exact this
 ·simp[h]
theorem alike_any(a b:Option Addr)(c d:Nat)(xs ys:List Int)(w:World)(lo hi lo' hi':Nat)(hx:IntsIn w lo hi a c xs)(hy:IntsIn w lo' hi' b d ys)(hl:xs.length<=1048576)(hl2:ys.length<=1048576)(hh:hi<=w.heap.size)(hh':hi'<=w.heap.size) :
  Calls Tryz.prog 218 #[.slice a xs.length c,.slice b ys.length d] w fun e w'=>e=.returned (.int .i64 (zag xs ys:Nat))/\Grew w w':=by
 go_enter Tryz.func218,Tryz.ntmps218
 by_cases hle:xs.length<=ys.length
 ·have hle1:(xs.length:Int)<=ys.length:=by omega
  go_wp2_with fail
  go_loopw [11] (fun i wr=>∃(k:Nat),k<=xs.length/\i=.int .i64 k/\Grew w wr/\xs.take k=ys.take k) (fun i _=>xs.length - (intOf i).toNat)
  case atStart=>exact⟨0,by omega,rfl,Grew.refl _,by simp⟩
  case round =>
   obtain⟨k,hk1,rfl,hg,he⟩:=hrel;have HE:=zQ0 he;clear he
   by_cases hlt:k < xs.length
   ·obtain⟨b1,o1,rfl,_,_,hc1⟩:=(hx.grew hg hh).at (j:=k) (by omega);obtain⟨b2,o2,rfl,_,_,hc2⟩:=(hy.grew hg hh').at (j:=k) (by omega);have hx1:(k:Int) < (xs.length:Int):=by omega
    have hy1:(k:Int) < (ys.length:Int):=by omega
    by_cases hxy:xs.getD k 0=ys.getD k 0
    ·have ht:(xs.getD k 0 != ys.getD k 0)=false:=by rw[hxy];simp
     have HX:Hid (xs.take (k+1)=ys.take (k+1)):=by
      show _=_
      rw[zc3 xs k (by omega),zc3 ys k (by omega),HE.out,hxy]
     clear hxy;generalize xs.getD k 0=p at *;generalize ys.getD k 0=q at *;go_wp2_with fail
     go_quiet (fail)
     go_wp2_with fail
     go_roundw
     case rel=>exact⟨k+1,by omega,by go_num,hg.drewN _,HX.out⟩
     case measure=>simp[intOf];omega
    ·have ht:(xs.getD k 0 != ys.getD k 0)=true:=by simpa using hxy
     have HN:Hid (zag xs ys=k):=alikeN_eq (by omega) (by omega) HE.out (Or.inr (Or.inr hxy));clear hxy;generalize xs.getD k 0=p at *;generalize ys.getD k 0=q at *;go_wp2_with fail
     go_quiet (fail)
     go_wp2_with fail
     go_ret
     exact⟨zcz (by rw[HN.out]),hg.drewN _⟩
   ·obtain rfl:k=xs.length:=by omega
    have HN:Hid (zag xs ys=xs.length):=alikeN_eq (by omega) (by omega) HE.out (Or.inl rfl);go_wp2_with fail
    go_ret
    exact⟨zcz (by rw[HN.out]),hg⟩
 ·have hle1:(ys.length:Int)<=xs.length:=by omega
  go_wp2_with fail
  go_loopw [11] (fun i wr=>∃(k:Nat),k<=ys.length/\i=.int .i64 k/\Grew w wr/\xs.take k=ys.take k) (fun i _=>ys.length - (intOf i).toNat)
  case atStart=>exact⟨0,by omega,rfl,Grew.refl _,by simp⟩
  case round =>
   obtain⟨k,hk1,rfl,hg,he⟩:=hrel;have HE:=zQ0 he;clear he
   by_cases hlt:k < ys.length
   ·obtain⟨b1,o1,rfl,_,_,hc1⟩:=(hx.grew hg hh).at (j:=k) (by omega);obtain⟨b2,o2,rfl,_,_,hc2⟩:=(hy.grew hg hh').at (j:=k) (by omega);have hx1:(k:Int) < (xs.length:Int):=by omega
    have hy1:(k:Int) < (ys.length:Int):=by omega
    by_cases hxy:xs.getD k 0=ys.getD k 0
    ·have ht:(xs.getD k 0 != ys.getD k 0)=false:=by rw[hxy];simp
     have HX:Hid (xs.take (k+1)=ys.take (k+1)):=by
      show _=_
      rw[zc3 xs k (by omega),zc3 ys k (by omega),HE.out,hxy]
     clear hxy;generalize xs.getD k 0=p at *;generalize ys.getD k 0=q at *;go_wp2_with fail
     go_quiet (fail)
     go_wp2_with fail
     go_roundw
     case rel=>exact⟨k+1,by omega,by go_num,hg.drewN _,HX.out⟩
     case measure=>simp[intOf];omega
    ·have ht:(xs.getD k 0 != ys.getD k 0)=true:=by simpa using hxy
     have HN:Hid (zag xs ys=k):=alikeN_eq (by omega) (by omega) HE.out (Or.inr (Or.inr hxy));clear hxy;generalize xs.getD k 0=p at *;generalize ys.getD k 0=q at *;go_wp2_with fail
     go_quiet (fail)
     go_wp2_with fail
     go_ret
     exact⟨zcz (by rw[HN.out]),hg.drewN _⟩
   ·obtain rfl:k=ys.length:=by omega
    have HN:Hid (zag xs ys=ys.length):=alikeN_eq (by omega) (by omega) HE.out (Or.inr (Or.inl rfl));go_wp2_with fail
    go_ret
    exact⟨zcz (by rw[HN.out]),hg⟩
theorem above_any(a b:Option Addr)(c d:Nat)(xs ys:List Int)(w:World)(lo hi lo' hi':Nat)(hx:IntsIn w lo hi a c xs)(hy:IntsIn w lo' hi' b d ys)(hl:xs.length<=1048576)(hl2:ys.length<=1048576)(hh:hi<=w.heap.size)(hh':hi'<=w.heap.size) :
  Calls Tryz.prog 197 #[.slice a xs.length c,.slice b ys.length d] w fun e w'=>e=.returned (.bool (zad xs ys))/\Grew w w':=by
 have C:=zQ0 (alike_any a b c d xs ys w lo hi lo' hi' hx hy hl hl2 hh hh');have HA:=zQ0 (aboveP_alike xs ys);have hle:=(alikeN_le xs ys).1;generalize zag xs ys=k at *
 by_cases h:xs.length < ys.length
 ·have ht:decide (xs.length < ys.length)=true:=by simpa using h
  have HN:Hid (zad xs ys=decide (k=xs.length)):=by show _=_;rw[HA.out];simp[h]
  clear h
  go_enter Tryz.func197,Tryz.ntmps197
  go_wp2_with fail
  refine C.out.mono ?_;rintro e w' ⟨rfl,hg⟩
  by_cases h2:k=xs.length
  ·have ht2:((k:Int) == xs.length)=true:=by simp[h2]
   have HN2:Hid (zad xs ys=true):=by show _=_;rw[HN.out];simp[h2]
   clear h2;go_wp2_with fail
   go_ret
   exact⟨zcy (by rw[HN2.out]),hg⟩
  ·have ht2:((k:Int) == xs.length)=false:=by simp;omega
   have HN2:Hid (zad xs ys=false):=by show _=_;rw[HN.out];simp[h2]
   clear h2;go_wp2_with fail
   go_ret
   exact⟨zcy (by rw[HN2.out]),hg⟩
 ·have ht:decide (xs.length < ys.length)=false:=by simp;omega
  have HN:Hid (zad xs ys=false):=by show _=_;rw[HA.out];simp[h]
  clear h
  go_enter Tryz.func197,Tryz.ntmps197
  go_wp2_with fail
  go_ret
  exact⟨zcy (by rw[HN.out]),Grew.refl _⟩
theorem IntsIn.take{w:World}{lo hi:Nat}{a:Option Addr}{c:Nat}{ts:List Int}(h:IntsIn w lo hi a c ts){k:Nat}(hk:k<=ts.length):IntsIn w lo hi a c (ts.take k):=by
 have hl:(ts.take k).length=k:=List.length_take_of_le hk;have h2:=h.1.2.1;refine⟨⟨fun e=>?_,?_,h.1.2.2⟩,fun hn=>?_⟩
 ·have:=h.1.1 e;omega
 ·omega
 ·obtain⟨b,o,e,h1,h2,hc⟩:=h.2 (by omega);refine⟨b,o,e,h1,h2,fun i hi j hj=>?_⟩;have:=hc i (by omega) j hj;rw[this]
  simp[List.getD,show i < k by omega]
theorem zcj{w w':World}{b o:Nat}{cs:List Value}(h:w.rangeAt b o cs)(hg:Grew w w')(hb:b < w.heap.size):w'.rangeAt b o cs:=fun j v hj=>(hg.cell (p:=⟨b,o+j,none⟩) hb).trans (h j v hj)
theorem zap{w w1:World}{cs:Array Value}{t:TypeId}(g:Grew (w.alloc (.cells cs t)) w1){j:Nat}{v:Value}(h:cs[j]? = some v):w1.cell? ⟨w.heap.size,j,none⟩=some v:=by
 rw[g.cell (by simp)];rw[World.cell?_alloc_new];exact h
theorem zc5{w w1:World}{cs:Array Value}{t:TypeId}(g:Grew (w.alloc (.cells cs t)) w1):w1.there w.heap.size 0 cs.size:=fun j hj=>by
 rw[Nat.zero_add,zap g (Array.getElem?_eq_getElem hj),g.frozen (by simp),World.frozen?_alloc_at _ _ _ _ rfl];exact⟨rfl,rfl⟩
theorem zcr{P:Program}{fn:Func}{p:Tmp}{ty:TypeId}(h:fn.results=#[.cell p ty])(tmps:Array Value)(w:World)(b o:Nat)(cs:List Value)(d:TypeDesc)(hp:tmps.getD p undef=.pointer (some ⟨b,o,none⟩))(hc:w.rangeAt b o cs)(hu:P.underlying ty=some d)(hd:d.isRow=true)(hi:(P.info? ty).map (·.size)=some cs.length):(results fn tmps).run P w=.ok (.agg cs.toArray) w:=by
 have hp':tmps[p]?.getD undef=.pointer (some ⟨b,o,none⟩):=by simpa using hp
 simp[results,h,hp',asAddr,run_loadVar_mid w b o ty cs d hc hu hd hi]
theorem zcm{w:World}{b:Nat}{cs:List Value}(ht:w.there b 0 cs.length):(w.setCells b 0 cs).rangeAt b 0 cs:=fun j v hj=>by
 obtain⟨h1,rfl⟩:=List.getElem?_eq_some_iff.1 hj;exact World.cell?_setCells_in b cs 0 w (fun i hi=>(ht i hi).1) j h1
theorem zcM(b:Nat):∀(vs:List Value) (o:Nat) (w:World),Keeps (·=b) w (w.setCells b o vs)
 | [],_,w=>Keeps.refl _ w
 | v::r,o,w=>((Keeps.refl (·=b) w).own o v).trans (zcM b r (o+1) _)
theorem zcn{F:World}{b:Nat}{cs:List Value}(hr:F.rangeAt b 0 cs){j:Nat}(hj:j < cs.length)(v:Value):(F.setCell ⟨b,j,none⟩ v).rangeAt b 0 (cs.set j v):=fun i u hu=>by
 rw[Nat.zero_add]
 by_cases e:i=j
 ·subst e;have h1:=hr i _ (List.getElem?_eq_getElem hj);rw[Nat.zero_add] at h1;rw[World.cell?_setCell_same _ _ _ h1];rw[List.getElem?_set_self hj] at hu;exact hu
 ·rw[zau (fun h=>e h.symm)];rw[List.getElem?_set_ne (fun h=>e h.symm)] at hu;have:=hr i u hu
  rwa [Nat.zero_add] at this
theorem zcl{F F':World}{b b' o:Nat}{cs:List Value}(hr:F.rangeAt b o cs)(hk:Keeps (·=b') F F')(hb:b < F.heap.size)(hne:b≠b'):F'.rangeAt b o cs:=fun j v hj=>(hk.cell (p:=⟨b,o+j,none⟩) hb hne).trans (hr j v hj)
theorem zci{F:World}{b:Nat}{cs:List Value}(hr:F.rangeAt b 0 cs){j:Nat}{v:Value}(hj:cs[j]? = some v):F.cell? ⟨b,j,none⟩=some v:=by
 have:=hr j v hj
 rwa [Nat.zero_add] at this
theorem zck{F F':World}{O:Nat->Prop}{b o:Nat}{cs:List Value}(hr:F.rangeAt b o cs)(hk:Keeps O F F')(hb:b < F.heap.size)(hO:¬ O b):F'.rangeAt b o cs:=fun j v hj=>(hk.cell (p:=⟨b,o+j,none⟩) hb hO).trans (hr j v hj)
theorem Agree.mono{lo hi lo' hi':Nat}{w w':World}(h:Agree lo hi w w')(h1:lo<=lo')(h2:hi'<=hi):Agree lo' hi' w w':=fun k k1 k2=>h k (by omega) (by omega)
structure PtE where
 p:List Int
 o:Int
structure SelE where
 is:Bool
 a:PtE
 f:PtE
structure OpE where
 kind:Int
 path:List Int
 dest:List Int
 pos:Int
 node:T
 old:List zab
 new:List zab
 text:List Int
 src:SelE
 dst:SelE
structure PtL where
 p:PN
 o:Int
structure SelL where
 is:Bool
 a:PtL
 f:PtL
structure OpL where
 kind:Int
 path:PN
 dest:PN
 pos:Int
 node:NT
 oa:Option Addr
 oc:Nat
 old:List zab
 na:Option Addr
 nc:Nat
 new:List zab
 xa:Option Addr
 xc:Nat
 text:List Int
 src:SelL
 dst:SelL
def PN.nil:PN:=⟨none,0,[]⟩
def PtL.nil:PtL:=⟨PN.nil,0⟩
def SelL.nil:SelL:=⟨false,PtL.nil,PtL.nil⟩
def NT.zero:NT:=.mk false none 0 [] none 0 [] none 0 []
def OpL.of(kind:Int)(path dest:PN)(pos:Int)(node:NT)(na:Option Addr)(nc:Nat)(new:List zab):OpL:=⟨kind,path,dest,pos,node,none,0,[],na,nc,new,none,0,[],SelL.nil,SelL.nil⟩
instance:Inhabited OpL:=⟨OpL.of 0 PN.nil PN.nil 0 NT.zero none 0 []⟩
def PtL.er(p:PtL):PtE:=⟨p.p.l,p.o⟩
def SelL.er(s:SelL):SelE:=⟨s.is,s.a.er,s.f.er⟩
def OpL.er(o:OpL):OpE:=⟨o.kind,o.path.l,o.dest.l,o.pos,o.node.er,o.old,o.new,o.text,o.src.er,o.dst.er⟩
def PtE.nil:PtE:=⟨[],0⟩
def SelE.nil:SelE:=⟨false,PtE.nil,PtE.nil⟩
def OpE.of(kind:Int)(path dest:List Int)(pos:Int)(node:T)(new:List zab):OpE:=⟨kind,path,dest,pos,node,[],new,[],SelE.nil,SelE.nil⟩
theorem OpL.of_er(kind:Int)(path dest:PN)(pos:Int)(node:NT)(na:Option Addr)(nc:Nat)(new:List zab):(OpL.of kind path dest pos node na nc new).er=OpE.of kind path.l dest.l pos node.er new:=rfl
def T.zero:T:=.mk false [] [] []
theorem NT.zero_er:NT.zero.er=T.zero:=by simp[NT.zero,NT.er_eq,T.zero]
def PtL.val(p:PtL):Value:=.agg #[p.p.val,.int .i64 p.o]
def SelL.val(s:SelL):Value:=.agg #[.bool s.is,s.a.p.val,.int .i64 s.a.o,s.f.p.val,.int .i64 s.f.o]
def OpL.cells(o:OpL):List Value:=[.int .i64 o.kind,.slice o.path.a o.path.l.length o.path.c,.slice o.dest.a o.dest.l.length o.dest.c,.int .i64 o.pos,.bool o.node.lf,.slice o.node.pa o.node.ps.length o.node.pc,.slice o.node.ta o.node.ts.length o.node.tc,.slice o.node.ka o.node.ks.length o.node.kc,
 .slice o.oa o.old.length o.oc,.slice o.na o.new.length o.nc,.slice o.xa o.text.length o.xc,.bool o.src.is,.slice o.src.a.p.a o.src.a.p.l.length o.src.a.p.c,.int .i64 o.src.a.o,.slice o.src.f.p.a o.src.f.p.l.length o.src.f.p.c,.int .i64 o.src.f.o,
 .bool o.dst.is,.slice o.dst.a.p.a o.dst.a.p.l.length o.dst.a.p.c,.int .i64 o.dst.a.o,.slice o.dst.f.p.a o.dst.f.p.l.length o.dst.f.p.c,.int .i64 o.dst.f.o]
theorem OpL.cells_len(o:OpL):o.cells.length=21:=rfl
theorem OpL.cells_one(o:OpL):∀ u∈o.cells,u.oneCell'=true:=by
 intro u hu;simp only[OpL.cells,List.mem_cons,List.not_mem_nil,or_false] at hu
 rcases hu with rfl | rfl | rfl | rfl | rfl | rfl | rfl | rfl | rfl | rfl | rfl | rfl | rfl | rfl | rfl | rfl | rfl | rfl | rfl | rfl | rfl
 all_goals rfl
def PtL.In(w:World)(lo hi:Nat)(p:PtL):Prop:=IntsIn w lo hi p.p.a p.p.c p.p.l
def SelL.In(w:World)(lo hi:Nat)(s:SelL):Prop:=s.a.In w lo hi/\s.f.In w lo hi
def OpL.In(w:World)(lo hi:Nat)(o:OpL):Prop:=(IntsIn w lo hi o.path.a o.path.c o.path.l/\IntsIn w lo hi o.dest.a o.dest.c o.dest.l)/\o.node.In w lo hi/\PropsIn w lo hi o.oa o.oc o.old/\PropsIn w lo hi o.na o.nc o.new/\RunesIn w lo hi o.xa o.xc o.text/\o.src.In w lo hi/\o.dst.In w lo hi
theorem OpL.In.agree{w w':World}{lo hi:Nat}{o:OpL}(h:o.In w lo hi)(hag:Agree lo hi w w'):o.In w' lo hi:=by
 obtain⟨⟨h1,h2⟩,h3,h4,h5,h6,⟨h7,h8⟩,⟨h9,h10⟩⟩:=h;exact⟨⟨h1.agree hag,h2.agree hag⟩,h3.agree hag,h4.agree hag,h5.agree hag,h6.agree hag,⟨IntsIn.agree h7 hag,IntsIn.agree h8 hag⟩,⟨IntsIn.agree h9 hag,IntsIn.agree h10 hag⟩⟩
theorem OpL.In.mono{w:World}{lo hi lo' hi':Nat}{o:OpL}(h:o.In w lo hi)(k1:lo'<=lo)(k2:hi<=hi'):o.In w lo' hi':=by
 obtain⟨⟨h1,h2⟩,h3,h4,h5,h6,⟨h7,h8⟩,⟨h9,h10⟩⟩:=h;exact⟨⟨h1.mono k1 k2,h2.mono k1 k2⟩,h3.mono k1 k2,h4.mono k1 k2,h5.mono k1 k2,h6.mono k1 k2,⟨IntsIn.mono h7 k1 k2,IntsIn.mono h8 k1 k2⟩,⟨IntsIn.mono h9 k1 k2,IntsIn.mono h10 k1 k2⟩⟩
theorem OpL.In.grew{w w':World}{lo hi:Nat}{o:OpL}(h:o.In w lo hi)(hg:Grew w w')(hB:hi<=w.heap.size):o.In w' lo hi:=h.agree (hg.agree hB)
theorem NT.zero_in{w:World}{lo hi:Nat}:NT.zero.In w lo hi:=NT.In_iff.2 ⟨zcD,zcI,zby⟩
theorem OpL.of_in{w:World}{lo hi:Nat}{kind:Int}{path dest:PN}{pos:Int}{node:NT}{na:Option Addr}{nc:Nat}{new:List zab}(h1:IntsIn w lo hi path.a path.c path.l)(h2:IntsIn w lo hi dest.a dest.c dest.l)(h3:node.In w lo hi)(h4:PropsIn w lo hi na nc new):(OpL.of kind path dest pos node na nc new).In w lo hi :=
 ⟨⟨h1,h2⟩,h3,zcD,h4,zcI,⟨zbu,zbu⟩,⟨zbu,zbu⟩⟩
def OpRow(w:World)(lo hi:Nat)(a:Option Addr)(c:Nat)(L:List OpL):Prop:=RowIn w lo hi a L.length c 21 (fun i j=>(L.getD i default).cells.getD j undef)
def OpsIn(w:World)(a:Option Addr)(c:Nat)(L:List OpL):Prop:=OpRow w 0 w.heap.size a c L/\∀ o∈L,o.In w 0 w.heap.size
theorem OpsIn.grew{w w':World}{a:Option Addr}{c:Nat}{L:List OpL}(h:OpsIn w a c L)(hg:Grew w w'):OpsIn w' a c L :=
 ⟨(RowIn.agree h.1 (hg.agree zQ1)).mono zQ1 hg.size,fun o ho=>((h.2 o ho).grew hg zQ1).mono zQ1 hg.size⟩
theorem OpRow.at{w:World}{lo hi:Nat}{a:Option Addr}{c:Nat}{L:List OpL}(h:OpRow w lo hi a c L){i:Nat}(hi':i < L.length):∃ b o,a=some ⟨b,o,none⟩/\lo<=b/\b < hi/\∀ j,j < 21->w.cell? ⟨b,o+i * 21+j,none⟩=some ((L.getD i default).cells.getD j undef):=by
 obtain⟨b,o,ha,h1,h2,hc⟩:=h.2 (by omega);exact⟨b,o,ha,h1,h2,fun j hj=>hc i hi' j hj⟩
theorem opRow_new{w:World}{L:List OpL}{t:TypeId}{cs:Array Value}(hcs:cs=(L.flatMap OpL.cells).toArray)(hl:L.length<=1048576):OpRow (w.alloc (.cells cs t)) w.heap.size (w.heap.size+1) (some ⟨w.heap.size,0,none⟩) L.length L :=
 zcC zQ1 (by unfold maxLen;omega) (fun i hi j hj=>by
  have h:=flat_at (fun o=>OpL.cells_len o) L i hi j hj;rw[hcs]
  simpa using h)
def OpE.Small(o:OpE):Prop:=(o.path.length<=1048576/\o.dest.length<=1048576)/\o.node.bulk<=1048576/\o.old.length<=1048576/\o.new.length<=1048576/\o.text.length<=1048576/\(o.src.a.p.length<=1048576/\o.src.f.p.length<=1048576)/\(o.dst.a.p.length<=1048576/\o.dst.f.p.length<=1048576)
def OpL.val(o:OpL):Value:=.agg #[.int .i64 o.kind,.slice o.path.a o.path.l.length o.path.c,.slice o.dest.a o.dest.l.length o.dest.c,.int .i64 o.pos,.bool o.node.lf,.slice o.node.pa o.node.ps.length o.node.pc,.slice o.node.ta o.node.ts.length o.node.tc,.slice o.node.ka o.node.ks.length o.node.kc,
 .slice o.oa o.old.length o.oc,.slice o.na o.new.length o.nc,.slice o.xa o.text.length o.xc,.bool o.src.is,.slice o.src.a.p.a o.src.a.p.l.length o.src.a.p.c,.int .i64 o.src.a.o,.slice o.src.f.p.a o.src.f.p.l.length o.src.f.p.c,.int .i64 o.src.f.o,
 .bool o.dst.is,.slice o.dst.a.p.a o.dst.a.p.l.length o.dst.a.p.c,.int .i64 o.dst.a.o,.slice o.dst.f.p.a o.dst.f.p.l.length o.dst.f.p.c,.int .i64 o.dst.f.o]
def PathsV(s:Nat)(v:Value)(ls:List PN)(O:Nat->Prop)(w:World):Prop :=
 w.cell? ⟨s,0,none⟩=some v/\w.frozen? ⟨s,0,none⟩=false/\s < w.heap.size/\w.ownsRow (s+1) 27 1 v ls.length (ls.map PN.val)/\O s/\(∀ k,v.ownBlock=some k->O k)/\(∀ k,O k->k=s\/v.ownBlock=some k)/\∀ p∈ls,PIn w s O p
theorem PathsV.grew{s:Nat}{v:Value}{ls:List PN}{O:Nat->Prop}{w w':World}(h:PathsV s v ls O w)(hg:Grew w w'):PathsV s v ls O w' :=
 ⟨(hg.cell (p:=⟨s,0,none⟩) h.2.2.1).trans h.1,(hg.frozen (p:=⟨s,0,none⟩) h.2.2.1).trans h.2.1,Nat.lt_of_lt_of_le h.2.2.1 hg.size,zb4 h.2.2.2.1 hg,h.2.2.2.2.1,h.2.2.2.2.2.1,h.2.2.2.2.2.2.1,fun p hp=>(h.2.2.2.2.2.2.2 p hp).moves (Moves.grew hg)⟩
theorem PathsV.lt{s:Nat}{v:Value}{ls:List PN}{O:Nat->Prop}{w:World}(h:PathsV s v ls O w):∀ k,O k->k < w.heap.size:=fun k hk=>by
 rcases h.2.2.2.2.2.2.1 k hk with rfl | h1
 ·exact h.2.2.1
 ·exact (h.2.2.2.1.lt k h1).2
theorem PathsV.push{s:Nat}{v:Value}{ls:List PN}{O:Nat->Prop}{w c F:World}{p:PN}{v':Value}(h:PathsV s v ls O w)(hp:∃ lo hi,IntsIn w lo hi p.a p.c p.l/\hi<=w.heap.size/\∀ k,lo<=k->k < hi->s < k/\¬ O k)(hown:c.ownsRow (s+1) 27 1 v' (ls.length+1) (ls.map PN.val++[p.val]))(hgr:w.grownBy c v.ownBlock)(hbl:∀ k,v'.ownBlock=some k->v.ownBlock=some k\/w.heap.size<=k)(hF:c.setCell ⟨s,0,none⟩ v'=F) :
  ∃ O',Moves O w O' F/\PathsV s v' (ls++[p]) O' F:=by
 subst hF;obtain⟨h1,h2,h3,h4,h5,h6,h7,h8⟩:=h;have hkw:=zbj hgr (O:=O) h6;have hkv:=zbj hgr (O:=fun k=>v.ownBlock=some k) (fun _ h=>h);have hns:¬ v.ownBlock=some s:=fun h=>by have:=h4.lt s h;omega
 have hns':v'.ownBlock≠some s:=fun h=>by have:=hown.lt s h;omega
 have hz:s < c.heap.size:=Nat.lt_of_lt_of_le h3 hkw.size;have hc:c.cell? ⟨s,0,none⟩=some v:=(hkv.cell (p:=⟨s,0,none⟩) h3 hns).trans h1;have hf:c.frozen? ⟨s,0,none⟩=false:=(hkv.frozen (p:=⟨s,0,none⟩) h3 hns).trans h2
 have hM:Moves O w (fun k=>k=s\/v'.ownBlock=some k) (c.setCell ⟨s,0,none⟩ v'):=by
  refine⟨hkw.setCell (Or.inr h5) _,fun k hk=>?_⟩
  rcases hk with rfl | hk
  ·exact Or.inl h5
  ·rcases hbl k hk with h9 | h9
   ·exact Or.inl (h6 k h9)
   ·exact Or.inr h9
 refine⟨_,hM,World.cell?_setCell_same _ _ _ hc,by rw[World.frozen?_setCell];exact hf,by simpa [World.setCell] using hz,?_,Or.inl rfl,fun k hk=>Or.inr hk,fun k hk=>hk,fun q hq=>?_⟩
 ·rw[List.length_append,List.map_append];exact ownsRow_other hown hns' _
 ·rcases List.mem_append.1 hq with hq | hq
  ·exact (h8 q hq).moves hM
  ·obtain rfl:=List.mem_singleton.1 hq;exact PIn.moves hp hM
theorem PathsV.store{s:Nat}{v:Value}{ls:List PN}{O:Nat->Prop}{w c:World}(h:PathsV s v ls O w)(hgr:w.grownBy c v.ownBlock):c.cell? ⟨s,0,none⟩=some v/\c.frozen? ⟨s,0,none⟩=false:=by
 obtain⟨h1,h2,h3,h4,_⟩:=h;have hkv:=zbj hgr (O:=fun k=>v.ownBlock=some k) (fun _ h=>h);have hns:¬ v.ownBlock=some s:=fun h=>by have:=h4.lt s h;omega
 exact⟨(hkv.cell (p:=⟨s,0,none⟩) h3 hns).trans h1,(hkv.frozen (p:=⟨s,0,none⟩) h3 hns).trans h2⟩
def EEnv(bt s be:Nat)(w:World):Prop :=
 w.cell? ⟨bt,0,none⟩=some (.func (.func 58) #[] #[])/\w.cell? ⟨be,0,none⟩=some (.func (.func 103) #[] #[.pointer (some ⟨bt,0,none⟩),.pointer (some ⟨s,0,none⟩),.pointer (some ⟨be,0,none⟩)])/\bt < w.heap.size/\be < w.heap.size
theorem EEnv.keeps{bt s be:Nat}{w w':World}{S:Nat->Prop}(h:EEnv bt s be w)(hk:Keeps S w w')(h1:¬ S bt)(h2:¬ S be):EEnv bt s be w' :=
 ⟨(hk.cell (p:=⟨bt,0,none⟩) h.2.2.1 h1).trans h.1,(hk.cell (p:=⟨be,0,none⟩) h.2.2.2 h2).trans h.2.1,Nat.lt_of_lt_of_le h.2.2.1 hk.size,Nat.lt_of_lt_of_le h.2.2.2 hk.size⟩
def RoomRow(w:World)(e:TypeId)(a:Option Addr)(n c k:Nat):Prop:=(n=0->c=0)/\(0 < n->∀ b o,a=some ⟨b,o,none⟩->o=0/\∃ cur:Array Value,w.heap[b]? = some (.cells cur e (0,0))/\cur.size=c * k)
theorem RoomRow.agree{w w':World}{e:TypeId}{lo hi:Nat}{a:Option Addr}{n c k:Nat}{f:Nat->Nat->Value}(h:RoomRow w e a n c k)(hr:RowIn w lo hi a n c k f)(hag:Agree lo hi w w'):RoomRow w' e a n c k:=by
 refine⟨h.1,fun hn b o ha=>?_⟩;obtain⟨b',o',ha',h1,h2,_⟩:=hr.2 hn
 obtain⟨rfl,rfl⟩:b=b'/\o=o':=by
  rw[ha] at ha';injection ha' with e;injection e with e1 e2;exact⟨e1,e2⟩
 obtain⟨h3,cur,h4,h5⟩:=h.2 hn b o ha;exact⟨h3,cur,(hag b h1 h2).trans h4,h5⟩
theorem RoomRow.set{w:World}{e:TypeId}{a:Option Addr}{n c k:Nat}(h:RoomRow w e a n c k)(p q:Nat)(u:Value):RoomRow (w.setCell ⟨p,q,none⟩ u) e a n c k:=by
 refine⟨h.1,fun hn b o ha=>?_⟩;obtain⟨h3,cur,h4,h5⟩:=h.2 hn b o ha
 by_cases hb:b=p
 ·subst hb;exact⟨h3,_,heap_setCell_same w b q cur e u h4,by simpa using h5⟩
 ·exact⟨h3,cur,(heap_setCell_other w ⟨p,q,none⟩ b u hb).trans h4,h5⟩
theorem roomRow_owned{w:World}{base:Nat}{e:TypeId}{size n c:Nat}{a:Option Addr}{xs:List Value}(h:w.ownsRow base e size (.slice a n c) n xs)(h0:n=0->c=0):RoomRow w e a n c size:=by
 refine⟨h0,fun hn b o ha=>?_⟩;obtain⟨_,h⟩:=h
 rcases h with ⟨hv,hn0⟩ | ⟨g,cap,cur,hv,hg,hh,hcap,hmax,hcur,htk⟩
 ·omega
 ·injection hv with h1 h2 h3
  rw[ha] at h1;injection h1 with h1;injection h1 with h1 h4
  subst h1 h4 h3;exact⟨rfl,cur,hh,hcur⟩
theorem cloneNodes0_any(a:Option Addr)(c:Nat)(hc:a=none->c=0)(w:World) :
  Calls Tryz.prog 66 #[.slice a 0 c] w fun e w'=>∃ va,e=.returned (.slice va 0 0)/\Grew w w'/\w'.ownsRow w.heap.size 26 4 (.slice va 0 0) 0 []:=by
 have qT:∀(w:World) (a:Option Addr) (n c n' c':Nat),(binOp .eql 24 (.slice a n c) (.slice none n' c')).run Tryz.prog w=.ok (.bool a.isNone) w:=fun w a n c n' c'=>Lib.run_eql_slice_nil w _ _ a n c n' c' Tryz.underlying24
 cases a with
 | none =>
  obtain rfl:=hc rfl
  go_enter Tryz.func66,Tryz.ntmps66
  go_wp2_with fail
  go_ret
  exact⟨none,rfl,Grew.refl _,World.ownsRow_nil _ _ _ _⟩
 | some ad =>
  go_enter Tryz.func66,Tryz.ntmps66
  go_wp2_with fail
  go_ret
  exact⟨_,rfl,Grew.alloc1 _ _,zb3 w 26 4⟩
theorem cloneNodesR_any(a:Option Addr)(c:Nat)(l:List NT)(w:World)(lo hi:Nat)(hr:KidsIn w lo hi a c l)(hh:hi<=w.heap.size)(hl:l.length<=1048576) :
  Calls Tryz.prog 66 #[.slice a l.length c] w fun e w'=>∃ va vc,e=.returned (.slice va l.length vc)/\Grew w w'/\w'.ownsRow w.heap.size 26 4 (.slice va l.length vc) l.length (zaB l)/\RoomRow w' 26 va l.length vc 4:=by
 by_cases h0:l=[]
 ·subst h0;refine (cloneNodes0_any a c (fun h=>(hr.1.1.1 h).2) w).mono fun e w' ⟨va,he,hg,ho⟩=>?_;exact⟨va,0,he,hg,ho,fun _=>rfl,fun h=>absurd h (by simp)⟩
 ·refine (cloneNodes_any a c l w lo hi hr hh hl).mono fun e w' ⟨v,he,hg,ho⟩=>?_;obtain⟨va,vc,rfl⟩:=zb2 ho;exact⟨va,vc,he,hg,ho,roomRow_owned ho (fun h=>absurd (List.length_eq_zero_iff.1 h) h0)⟩
theorem cloneRunes0_any(a:Option Addr)(c:Nat)(hc:a=none->c=0)(w:World) :
  Calls Tryz.prog 65 #[.slice a 0 c] w fun e w'=>∃ va,e=.returned (.slice va 0 0)/\Grew w w'/\w'.ownsRow w.heap.size 21 1 (.slice va 0 0) 0 []:=by
 have qT:∀(w:World) (a:Option Addr) (n c n' c':Nat),(binOp .eql 23 (.slice a n c) (.slice none n' c')).run Tryz.prog w=.ok (.bool a.isNone) w:=fun w a n c n' c'=>Lib.run_eql_slice_nil w _ _ a n c n' c' Tryz.underlying23
 cases a with
 | none =>
  obtain rfl:=hc rfl
  go_enter Tryz.func65,Tryz.ntmps65
  go_wp2_with fail
  go_ret
  exact⟨none,rfl,Grew.refl _,World.ownsRow_nil _ _ _ _⟩
 | some ad =>
  go_enter Tryz.func65,Tryz.ntmps65
  go_wp2_with fail
  go_ret
  exact⟨_,rfl,Grew.alloc1 _ _,zb3 w 21 1⟩
theorem cloneRunesR_any(a:Option Addr)(c:Nat)(l:List Int)(w:World)(lo hi:Nat)(hr:RunesIn w lo hi a c l)(hh:hi<=w.heap.size)(hl:l.length<=1048576) :
  Calls Tryz.prog 65 #[.slice a l.length c] w fun e w'=>∃ va vc,e=.returned (.slice va l.length vc)/\Grew w w'/\w'.ownsRow w.heap.size 21 1 (.slice va l.length vc) l.length ((List.map (Value.int .i32)) l)/\RoomRow w' 21 va l.length vc 1:=by
 by_cases h0:l=[]
 ·subst h0;refine (cloneRunes0_any a c (fun h=>(hr.1.1.1 h).2) w).mono fun e w' ⟨va,he,hg,ho⟩=>?_;exact⟨va,0,he,hg,ho,fun _=>rfl,fun h=>absurd h (by simp)⟩
 ·refine (cloneRunes_any a c l w lo hi hr hh hl).mono fun e w' ⟨v,he,hg,ho⟩=>?_;obtain⟨va,vc,rfl⟩:=zb2 ho;exact⟨va,vc,he,hg,ho,roomRow_owned ho (fun h=>absurd (List.length_eq_zero_iff.1 h) h0)⟩
mutual
/-- the rows of a tree have room -/
def NT.Room (w:World):NT->Prop
 | .mk _ _ _ _ ta tc ts ka kc ks=>RoomRow w 21 ta ts.length tc 1/\RoomRow w 26 ka ks.length kc 4/\NT.RoomAll w ks
def NT.RoomAll (w:World):List NT->Prop
 | []=>True
 | k::r=>NT.Room w k/\NT.RoomAll w r
end
theorem NT.RoomAll_iff{w:World}{ks:List NT}:NT.RoomAll w ks ↔ ∀ k∈ks,k.Room w:=by
 induction ks with
 | nil=>simp[NT.RoomAll]
 | cons x r ih=>simp[NT.RoomAll,ih]
theorem NT.Room_iff{w:World}{n:NT}:n.Room w ↔ RoomRow w 21 n.ta n.ts.length n.tc 1/\RoomRow w 26 n.ka n.ks.length n.kc 4/\∀ k∈n.ks,k.Room w:=by
 cases n
 simp only[NT.Room,NT.RoomAll_iff,NT.ta_mk,NT.tc_mk,NT.ts_mk,NT.ka_mk,NT.kc_mk,NT.ks_mk]
theorem NT.Room.agree{w w':World}{lo hi:Nat}(hag:Agree lo hi w w'){n:NT}:n.Room w->n.In w lo hi->n.Room w':=by
 induction n using NT.ind with
 | h n ih =>
  intro h hin;have h1:=NT.Room_iff.1 h;have h2:=NT.In_iff.1 hin;exact NT.Room_iff.2 ⟨h1.1.agree h2.2.1.1 hag,h1.2.1.agree h2.2.2.1 hag,fun k hk=>ih k hk (h1.2.2 k hk) (h2.2.2.2 k hk)⟩
end Go.Proofs.YtccobobnmpafbaaGreatDoor
