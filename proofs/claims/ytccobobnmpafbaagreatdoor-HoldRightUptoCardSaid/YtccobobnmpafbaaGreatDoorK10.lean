/- BYTES: rows of them, strings told by them; slices.Index, slices.Contains on them. -/
import Derived.Test.YtccobobnmpafbaaGreatDoorK06
import Derived.Test.YtccobobnmpafbaaGreatDoorK01
import Derived.Laws.BytesArg
import Derived.Test.YtccobobnmpafbaaGreatDoorK07
import Derived.Test.YtccobobnmpafbaaGreatDoorK09
import Derived.Lib.AppendZerosOnto
import Derived.Lib.SliceRun
import Derived.Laws.OwnMore
import Derived.Ground.NamesProg
import Derived.Shelf.Small.Utf8
import Derived.Shelf.Strings.SlTrimAscii
import Derived.Test.YtccobobnmpafbaaGreatDoorProg
import Derived.Lib.SlTrimSet
set_option maxRecDepth 100000
set_option maxHeartbeats 100000000
namespace Go.Proofs.YtccobobnmpafbaaGreatDoor
open Go Go.RowKit
def BytesIn(w:World)(lo hi:Nat)(a:Option Addr)(c:Nat)(l:List Int):Prop:=RowIn w lo hi a l.length c 1 (fun i _=>.int .u8 (l.getD i 0))
theorem BytesIn.later{w w':World}{a:Option Addr}{c:Nat}{l:List Int}(h:BytesIn w 0 w.heap.size a c l)(g:Grew w w'):BytesIn w' 0 w'.heap.size a c l:=(RowIn.agree h (g.agree zQ1)).mono zQ1 g.size
theorem BytesIn.at{w:World}{lo hi:Nat}{a:Option Addr}{c:Nat}{l:List Int}(h:BytesIn w lo hi a c l){k:Nat}(hk:k < l.length):∃ b o,a=some ⟨b,o,none⟩/\w.cell? ⟨b,o+k,none⟩=some (.int .u8 (l.getD k 0)):=by
 obtain⟨b,o,e,_,_,hc⟩:=h.2 (by omega);have:=hc k hk 0 (by omega);rw[show o+k * 1+0=o+k by omega] at this;exact⟨b,o,e,this⟩
def Byt(l:List Int):Prop:=∀ x∈l,0<=x/\x < 256
theorem bstr_at{l:List Int}(hb:Byt l){i:Nat}(hi:i < (strOfNums l).data.size):((strOfNums l).data[i].toNat:Int)=l.getD i 0:=by
 have hl:i < l.length:=by simpa [strOfNums] using hi
 have h:=hb l[i] (List.getElem_mem hl);have e:(strOfNums l).data[i]=UInt8.ofNat l[i].toNat:=by simp[strOfNums]
 rw[e];simp only[List.getD,List.getElem?_eq_getElem hl,Option.getD_some];rw[UInt8.toNat_ofNat'];omega
theorem conv_bytes{P:Program}(w:World){src dst e:TypeId}(l:List Int)(hb:Byt l)(hs:P.underlying src=some .string)(hd:P.underlying dst=some (.slice e))(he:P.underlying e=some (.int .u8))(hl:l.length<=1048576) :
  ∃ c w2,(convert src dst (.string (strOfNums l))).run P w=.ok (.slice (some ⟨w.heap.size,0,none⟩) l.length c) w2/\BytesIn w2 w.heap.size (w.heap.size+1) (some ⟨w.heap.size,0,none⟩) c l/\Grew w w2/\w2.heap.size=w.heap.size+1:=by
 have hrun:=run_bytes_of_string (P:=P) w src dst e (strOfNums l) hs hd he;have hlen:(strOfNums l).size=l.length:=strOfNums_size l;refine⟨_,_,by rw[<- hlen];exact hrun,⟨⟨by simp,by rw[<- hlen];exact grownCap_ge _ _ _ _,grownCap_le_maxLen _ _ _ _ (by unfold maxLen;omega)⟩,fun _=>⟨w.heap.size,0,rfl,Nat.le_refl _,by omega,fun i hi j hj=>?_⟩⟩,(Grew.refl w).drew.alloc _,by simp⟩;have hz:(w.drew).heap.size=w.heap.size:=rfl;have hd2:i < (strOfNums l).data.size:=by have:(strOfNums l).data.size=l.length:=hlen;omega
 rw[show 0+i * 1+j=i by omega];exact (World.cell?_alloc_mark w.drew _ _ _ _).trans ((bytesRow_at (strOfNums l) (grownCap w (strOfNums l).size 0 e) i hd2).trans (by rw[bstr_at hb hd2]))
theorem bytes_conv{P:Program}(w:World){src dst e:TypeId}{lo hi:Nat}{a:Option Addr}{c:Nat}{l:List Int}(h:BytesIn w lo hi a c l)(hs:P.underlying src=some (.slice e))(he:P.underlying e=some (.int .u8))(hd:P.underlying dst=some .string) :
  (convert src dst (.slice a l.length c)).run P w=.ok (.string (strOfNums l)) w:=by
 by_cases h0:l.length=0
 ·obtain rfl:l=[]:=List.eq_nil_of_length_eq_zero h0
  cases a with
  | none=>exact run_convert_bytes_nil w src e hs he _ _ dst hd
  | some p=>exact run_convert_bytes_back w src dst e p c [] hs he hd (fun j hj=>absurd hj (Nat.not_lt_zero _))
 ·obtain⟨b,o,rfl,_⟩:=h.at (k:=0) (by omega);refine run_convert_bytes_arg w src e hs he b o l.length c l rfl (fun i hi=>?_) dst hd;obtain⟨b2,o2,e,hc⟩:=h.at hi;injection e with e
  injection e with e1 e2
  rw[e1,e2];exact hc
theorem idxOf_any{pr:Int->Bool}(l:List Int):decide ((0:Int)<=zbl pr l)=l.any pr:=by
 unfold zbl
 cases h:l.findIdx? pr with
 | none =>
  have:=List.findIdx?_eq_none_iff.1 h
  symm
  simp only[show ¬ ((0:Int)<=-1) by omega,decide_false,List.any_eq_false];exact fun x hx=>by simp[this x hx]
 | some i =>
  obtain⟨hi,hp,_⟩:=List.findIdx?_eq_some_iff_getElem.1 h
  symm
  simp only[show (0:Int)<=(i:Int) by omega,decide_true,List.any_eq_true];exact⟨l[i],List.getElem_mem hi,hp⟩
theorem indexBytes_any(L:List Int)(a:Option Addr)(c:Nat)(v:Int)(w:World)(hL:BytesIn w 0 w.heap.size a c L)(hlen:L.length<=1048576) :
  Calls Tryz.prog 149 #[.slice a L.length c,.int .u8 v] w fun e w'=>e=.returned (.int .i64 (zbl (fun y=>v == y) L))/\w'=w:=by
 go_enter Tryz.func149,Tryz.ntmps149
 go_wp2_with fail
 go_loop [8] (fun i=>∃(k:Nat),k<=L.length/\i=.int .i64 k/\∀ j,j < k->(fun y=>v == y) (L.getD j default)=false) (fun i=>L.length - (intOf i).toNat)
 case atStart=>exact⟨0,by omega,rfl,fun j hj=>by omega⟩
 case round =>
  obtain⟨k,hk1,rfl,hall⟩:=hrel;have HA:=zQ0 hall;clear hall
  by_cases hlt:k < L.length
  ·obtain⟨b,o,rfl,c0⟩:=hL.at hlt
   cases hpr:(v == L.getD k 0) with
   | false =>
    have HX:Hid (∀ j,j < k+1->(fun y=>v == y) (L.getD j default)=false):=fun j hj=>by
     rcases Nat.lt_or_ge j k with h | h
     ·exact HA.out j h
     ·obtain rfl:j=k:=by omega
      exact hpr
    generalize L.getD k 0=x at *;go_wp2_with fail
    go_round
    case rel=>exact⟨k+1,by omega,by go_num,HX.out⟩
    case measure=>simp[intOf];omega
   | true =>
    have HX:=zQ0 (idxOf_found hlt (pr:=fun y=>v == y) hpr HA.out);generalize L.getD k 0=x at *;go_wp2_with fail
    go_ret
    exact⟨zcz (by rw[HX.out]),rfl⟩
  ·have HX:=zQ0 (idxOf_none (pr:=fun y=>v == y) (l:=L) (fun j hj=>HA.out j (by omega)));go_wp2_with fail
   go_ret
   exact⟨zcz (by rw[HX.out]),rfl⟩
theorem containsBytes_any(L:List Int)(a:Option Addr)(c:Nat)(v:Int)(w:World)(hL:BytesIn w 0 w.heap.size a c L)(hlen:L.length<=1048576) :
  Calls Tryz.prog 110 #[.slice a L.length c,.int .u8 v] w fun e w'=>e=.returned (.bool (decide (v∈L)))/\w'=w:=by
 have C:=zQ0 (indexBytes_any L a c v w hL hlen)
 have HX:Hid (decide ((0:Int)<=zbl (fun y=>v == y) L)=decide (v∈L)):=by
  show _=_
  rw[idxOf_any,Bool.eq_iff_iff,List.any_eq_true,decide_eq_true_iff];exact⟨fun ⟨y,hy,h⟩=>by rw[eq_of_beq h];exact hy,fun h=>⟨v,h,by simp⟩⟩
 clear hL;generalize zbl (fun y=>v == y) L=i at *
 go_enter Tryz.func110,Tryz.ntmps110
 go_wp2_with fail
 refine C.out.mono ?_;rintro e w1 ⟨rfl,rfl⟩;go_wp2_with fail
 go_ret
 exact⟨by rw[<- HX.out];rfl,rfl⟩
theorem ints_atR(ts:List Int):∀ i,i < ts.length->∀ j,j < 1->(ts.map (Value.int .i32))[i * 1+j]? = some (.int .i32 (ts.getD i 0)):=fun i hi j hj=>by
 obtain rfl:j=0:=by omega
 simp[List.getD,hi]
theorem growR_any(n:Nat)(w:World)(hn:n<=4194304):Calls Tryz.prog 194 #[.slice none 0 0,.int .i64 n] w fun e w'=>∃ v,e=.returned v/\Grew w w'/\w'.ownsRow w.heap.size 21 1 v 0 []:=by
 obtain⟨i0,hi,hz0,hz1,hz2⟩:=info_parts infoRune;have h1:¬ ((n:Int) < 0):=by omega
 by_cases h0:n=0
 ·subst h0
  go_enter Tryz.func194,Tryz.ntmps194
  go_wp2_with fail
  go_ret
  exact⟨_,rfl,Grew.refl _,World.ownsRow_nil _ _ _ _⟩
 ·have hold:(Builtin.firstCells i0.size 0 (.slice none 0 0)).run Tryz.prog w.drew=.ok ([]:List Value).toArray w.drew:=run_firstCells_none w.drew i0.size 0 0 0;have hGn:n<=grownCap w n 0 21:=grownCap_ge w _ _ _;have hGm:=grownCap_le_maxLen w n 0 21 (by unfold maxLen;omega)
  have hrz:∀ ty,(Builtin.append_ #[23,3] ty #[.slice none 0 0,.int .i64 (n:Int)]).run Tryz.prog w=.ok (.slice (some ⟨w.heap.size,0,none⟩) n (grownCap w n 0 21)) (w.drew.alloc (.cells (([]:List Value).toArray++Builtin.zeroCells ((Value.int .i32 0).cells) n++Builtin.zeroCells ((Value.int .i32 0).cells) (grownCap w n 0 21 - n)) 21)):=fun ty=>by
   have h:=Lib.run_append_grow_zeros w 23 3 ty 21 i0 _ .i64 .i64 Tryz.underlying23 Tryz.underlying3 hi hz0 none 0 0 [] hold n (by omega) (by rw[hz1];omega) (by omega) (by omega) (by rw[hz2];omega) (growslice_fits (by omega) (by rw[hz2];omega));rw[Nat.zero_add] at h;exact h
  have hown:=World.ownsRow_made (base:=w.heap.size) (e:=21) (size:=1) w.drew (([]:List Value).toArray++Builtin.zeroCells ((Value.int .i32 0).cells) n++Builtin.zeroCells ((Value.int .i32 0).cells) (grownCap w n 0 21 - n)) (grownCap w n 0 21) zQ1 hGm (madeZ_size rfl _ _ hGn);have hG:Grew w (w.drew.alloc (.cells (([]:List Value).toArray++Builtin.zeroCells ((Value.int .i32 0).cells) n++Builtin.zeroCells ((Value.int .i32 0).cells) (grownCap w n 0 21 - n)) 21)):=(Grew.refl w).drew.alloc _;have h2:((n:Int) - 0)=n:=by omega
  have h3:(0:Int) < n:=by omega
  have h5:decide ((0:Int) < n)=true:=by simpa using h3
  have h4:wrap64 (n:Int)=n:=by unfold wrap64;omega
  unfold maxLen at hGm;have hGi:((grownCap w n 0 21:Nat):Int)<=9223372036854775807:=by omega
  generalize grownCap w n 0 21=G at *;generalize w.drew.alloc _=w1 at *
  go_enter Tryz.func194,Tryz.ntmps194
  go_wp2_with (at_builtin;refine Lib.wpList_append_run _ rfl _ _ _ _ rfl _ _ rfl rfl _ _ (hrz _) ?_)
  go_ret
  exact⟨_,rfl,hG,hown⟩
def RowsR(w:World)(lo hi:Nat)(a:Option Addr)(c:Nat)(ls:List PN):Prop:=RowIn w lo hi a ls.length c 1 (fun i _=>.slice (ls.getD i default).a (ls.getD i default).l.length (ls.getD i default).c)
theorem RowsR.at{w:World}{lo hi:Nat}{a:Option Addr}{c:Nat}{ls:List PN}(h:RowsR w lo hi a c ls){k:Nat}(hk:k < ls.length):∃ b o,a=some ⟨b,o,none⟩/\lo<=b/\b < hi/\w.cell? ⟨b,o+k,none⟩=some (.slice (ls.getD k default).a (ls.getD k default).l.length (ls.getD k default).c):=by
 obtain⟨b,o,h1,h2,h3,hc⟩:=h.2 (by omega);exact⟨b,o,h1,h2,h3,by simpa using hc k hk 0 (by omega)⟩
def sumR(ls:List PN):Nat:=(ls.map fun p=>p.l.length).sum
theorem sumR_next(ls:List PN){k:Nat}(hk:k < ls.length):sumR (ls.take (k+1))=sumR (ls.take k)+(ls.getD k default).l.length:=by
 unfold sumR;rw[List.take_succ_eq_append_getElem hk,List.map_append,List.sum_append]
 simp[List.getD,List.getElem?_eq_getElem hk]
theorem sumR_le(ls:List PN)(k:Nat):sumR (ls.take k)<=sumR ls:=by
 unfold sumR
 conv=>rhs;rw[<- List.take_append_drop k ls,List.map_append,List.sum_append]
 omega
def za9(ls:List PN):List Int:=ls.flatMap PN.l
theorem flatR_len(ls:List PN):(za9 ls).length=sumR ls:=by unfold za9 sumR;rw[List.length_flatMap]
theorem flatR_next(ls:List PN){k:Nat}(hk:k < ls.length):za9 (ls.take (k+1))=za9 (ls.take k)++(ls.getD k default).l:=by
 unfold za9;rw[List.take_succ_eq_append_getElem hk,List.flatMap_append]
 simp[List.getD,List.getElem?_eq_getElem hk]
theorem concatR_any(a:Option Addr)(c:Nat)(ls:List PN)(w:World)(hr:RowsR w 0 w.heap.size a c ls)(hin:∀ p∈ls,RunesIn w 0 w.heap.size p.a p.c p.l)(hl:ls.length<=1048576)(hs:sumR ls<=4194304) :
  Calls Tryz.prog 162 #[.slice a ls.length c] w fun e w'=>∃ v,e=.returned v/\Grew w w'/\w'.ownsRow w.heap.size 21 1 v (za9 ls).length ((za9 ls).map (Value.int .i32)):=by
 have HI:=zQ0 hin;have HS:=zQ0 hs;clear hin hs
 go_enter Tryz.func162,Tryz.ntmps162
 go_wp2_with fail
 go_loopw [3,11] (fun s i wr=>∃(k m:Nat),k<=ls.length/\s=.int .i64 m/\i=.int .i64 k/\Grew w wr/\Hid (m=sumR (ls.take k))) (fun _ i _=>ls.length - (intOf i).toNat)
 case atStart=>exact⟨0,0,by omega,rfl,rfl,Grew.refl _,by show _=_;simp[sumR]⟩
 case round =>
  obtain⟨k,m,hk,rfl,rfl,hg,hm⟩:=hrel
  by_cases hlt:k < ls.length
  ·obtain⟨b,o,rfl,_,hb,c0⟩:=RowsR.at (RowIn.agree hr (hg.agree zQ1)) hlt;have HM:Hid (m+(ls.getD k default).l.length=sumR (ls.take (k+1))):=by show _=_;rw[sumR_next ls hlt,hm.out]
   have hle:m+(ls.getD k default).l.length<=4194304:=by rw[HM.out];exact Nat.le_trans (sumR_le ls _) HS.out
   generalize ls.getD k default=x at *;have hw:IntKind.i64.wrap ((m:Int)+x.l.length)=((m+x.l.length:Nat):Int):=by rw[IntKind.wrap_i64];omega
   have hnn:¬ (((m+x.l.length:Nat):Int) < 0):=by omega
   go_wp2_with fail
   go_roundw
   case rel=>exact⟨k+1,m+x.l.length,by omega,rfl,by go_num,hg,HM⟩
   case measure=>simp[intOf];omega
  ·obtain rfl:k=ls.length:=by omega
   have HM:Hid (m=sumR ls):=by show _=_;rw[hm.out,List.take_length]
   have hmle:m<=4194304:=by rw[HM.out];exact HS.out
   have GR:=zQ0 (growR_any m wr hmle);clear hm;go_wp2_with fail
   refine GR.out.mono ?_;rintro e w2 ⟨v,rfl,g2,hown⟩;have hown':w2.ownsRow w.heap.size 21 1 v 0 []:=ownsRow_lower hown hg.size;obtain⟨va,vc,rfl⟩:=zb2 hown';have G2:=zQ0 (hg.trans g2);have HO:=zQ0 hown';clear hown hown' GR HM hmle;go_wp2_with fail
   go_loopw [6,27] (fun s i wr2=>∃(k:Nat) (va:Option Addr) (vc:Nat),k<=ls.length/\s=.slice va (za9 (ls.take k)).length vc/\i=.int .i64 k/\Grew w wr2/\wr2.ownsRow w.heap.size 21 1 (.slice va (za9 (ls.take k)).length vc) (za9 (ls.take k)).length ((za9 (ls.take k)).map (Value.int .i32))) (fun _ i _=>ls.length - (intOf i).toNat)
   case atStart=>exact⟨0,va,vc,by omega,by simp[za9],rfl,G2.out,by simpa [za9] using HO.out⟩
   case round =>
    obtain⟨k,xa,xc,hk,rfl,rfl,hg2,hown2⟩:=hrel
    by_cases hlt:k < ls.length
    ·obtain⟨b,o,rfl,_,hb,c0⟩:=RowsR.at (RowIn.agree hr (hg2.agree zQ1)) hlt;have hxin:=(HI.out _ (zbd ls k hlt)).grew hg2 zQ1;have HF:=zQ0 (flatR_next ls hlt)
     have hbound:(za9 (ls.take k)).length+(ls.getD k default).l.length<=4194304:=by
      rw[flatR_len,<- sumR_next ls hlt];exact Nat.le_trans (sumR_le ls _) HS.out
     generalize ls.getD k default=x at *;have hsz:=hg2.size;generalize za9 (ls.take k)=cur at *
     go_wp2_with (at_builtin;refine zdi rfl (.tmp 31) (.tmp 32) 23 rfl w.heap.size 21 Tryz.underlying23 infoRune rfl (by decide) (.slice xa cur.length xc) cur.length (cur.map (Value.int .i32)) rfl hown2 x.a x.l.length x.c _ _ _ rfl hxin.1 (x.l.map (Value.int .i32)) (by simp) (ints_atR x.l) (ints_oneCell _ _) (by unfold maxLen;omega) (by omega) hsz ?_;intro v' w4 hown' hgrow _;obtain⟨va',vc',rfl⟩:=zb2 hown')
     have G4:=zQ0 (hg2.grown hgrow (fun k hk=>(hown2.lt k hk).1));have HO4:=zQ0 hown';clear hown2 hown' hgrow
     go_roundw
     case rel =>
      refine⟨k+1,va',vc',by omega,?_,by go_num,G4.out,?_⟩
      ·rw[HF.out,List.length_append]
      ·rw[HF.out,List.length_append,List.map_append];exact HO4.out
     case measure=>simp[intOf];omega
    ·obtain rfl:k=ls.length:=by omega
     rw[List.take_length] at hown2;rw[List.take_length];go_wp2_with fail
     go_ret
     exact⟨_,rfl,hg2,hown2⟩
end Go.Proofs.YtccobobnmpafbaaGreatDoor
namespace Go.Proofs
open Go.Shelf
def Tryz.lays160_ren : Go.Shelf.Ren := ⟨fun | 160 => 151 | 232 => 184 | 231 => 183 | 227 => 185 | 234 => 187 | 233 => 186 | 236 => 189 | 235 => 188 | 228 => 202 | 271 => 205 | 151 => 204 | 197 => 203 | 120 => 221 | 152 => 220 | 260 => 219 | 137 => 227 | 119 => 182 | 224 => 228 | 225 => 229 | 217 => 231 | 266 => 232 | n => n, fun | 9 => 9 | 4 => 4 | 3 => 3 | 5 => 5 | 117 => 199 | 116 => 198 | 0 => 0 | 124 => 202 | 21 => 21 | 105 => 213 | 46 => 205 | 119 => 236 | 139 => 239 | 138 => 238 | n => n, fun | 3 => 0 | 4 => 1 | n => n⟩
theorem Tryz.lays160 : Go.Proofs.Lays.n160 Tryz.prog Tryz.lays160_ren := {
  mixed := by kernel_rfl
  f119 := Tryz.func182.trans (congrArg some (by kernel_rfl))
  f120 := Tryz.func221.trans (congrArg some (by kernel_rfl))
  f137 := Tryz.func227.trans (congrArg some (by kernel_rfl))
  f151 := Tryz.func204.trans (congrArg some (by kernel_rfl))
  f152 := Tryz.func220.trans (congrArg some (by kernel_rfl))
  f160 := Tryz.func151.trans (congrArg some (by kernel_rfl))
  f197 := Tryz.func203.trans (congrArg some (by kernel_rfl))
  f217 := Tryz.func231.trans (congrArg some (by kernel_rfl))
  f224 := Tryz.func228.trans (congrArg some (by kernel_rfl))
  f225 := Tryz.func229.trans (congrArg some (by kernel_rfl))
  f227 := Tryz.func185.trans (congrArg some (by kernel_rfl))
  f228 := Tryz.func202.trans (congrArg some (by kernel_rfl))
  f231 := Tryz.func183.trans (congrArg some (by kernel_rfl))
  f232 := Tryz.func184.trans (congrArg some (by kernel_rfl))
  f233 := Tryz.func186.trans (congrArg some (by kernel_rfl))
  f234 := Tryz.func187.trans (congrArg some (by kernel_rfl))
  f235 := Tryz.func188.trans (congrArg some (by kernel_rfl))
  f236 := Tryz.func189.trans (congrArg some (by kernel_rfl))
  f260 := Tryz.func219.trans (congrArg some (by kernel_rfl))
  f266 := Tryz.func232.trans (congrArg some (by kernel_rfl))
  f271 := Tryz.func205.trans (congrArg some (by kernel_rfl))
  t0 := Tryz.underlying0
  a0 := Tryz.isAgg0
  z0 := Tryz.sizeOf0
  v0 := Tryz.zeroValue0
  t3 := Tryz.underlying3
  a3 := Tryz.isAgg3
  z3 := Tryz.sizeOf3
  v3 := Tryz.zeroValue3
  t4 := Tryz.underlying4
  a4 := Tryz.isAgg4
  z4 := Tryz.sizeOf4
  v4 := Tryz.zeroValue4
  t5 := Tryz.underlying5
  a5 := Tryz.isAgg5
  z5 := Tryz.sizeOf5
  v5 := Tryz.zeroValue5
  t9 := Tryz.underlying9
  a9 := Tryz.isAgg9
  z9 := Tryz.sizeOf9
  v9 := Tryz.zeroValue9
  t21 := Tryz.underlying21
  a21 := Tryz.isAgg21
  z21 := Tryz.sizeOf21
  v21 := Tryz.zeroValue21
  t46 := Tryz.underlying205
  a46 := Tryz.isAgg205
  z46 := Tryz.sizeOf205
  v46 := Tryz.zeroValue205
  t105 := Tryz.underlying213
  a105 := Tryz.isAgg213
  z105 := Tryz.sizeOf213
  v105 := Tryz.zeroValue213
  t116 := Tryz.underlying198
  a116 := Tryz.isAgg198
  z116 := Tryz.sizeOf198
  t117 := Tryz.underlying199
  a117 := Tryz.isAgg199
  z117 := Tryz.sizeOf199
  v117 := Tryz.zeroValue199
  t119 := Tryz.underlying236
  a119 := Tryz.isAgg236
  z119 := Tryz.sizeOf236
  t124 := Tryz.underlying202
  a124 := Tryz.isAgg202
  z124 := Tryz.sizeOf202
  v124 := Tryz.zeroValue202
  t138 := Tryz.underlying238
  a138 := Tryz.isAgg238
  z138 := Tryz.sizeOf238
  v138 := Tryz.zeroValue238
  t139 := Tryz.underlying239
  a139 := Tryz.isAgg239
  z139 := Tryz.sizeOf239
  v139 := Tryz.zeroValue239
  g3 := by kernel_rfl
  g4 := by kernel_rfl }
def Tryz.lays119_ren : Go.Shelf.Ren := ⟨fun | 119 => 182 | n => n, fun | 21 => 21 | 4 => 4 | n => n, fun | n => n⟩
theorem Tryz.lays119 : Go.Proofs.Lays.n119 Tryz.prog Tryz.lays119_ren := {
  mixed := by kernel_rfl
  f119 := Tryz.func182.trans (congrArg some (by kernel_rfl))
  t4 := Tryz.underlying4
  a4 := Tryz.isAgg4
  z4 := Tryz.sizeOf4
  v4 := Tryz.zeroValue4
  t21 := Tryz.underlying21
  a21 := Tryz.isAgg21
  z21 := Tryz.sizeOf21
  v21 := Tryz.zeroValue21 }
end Go.Proofs
namespace Go.Proofs.YtccobobnmpafbaaGreatDoor
open Go Go.RowKit
theorem bytes_beq(a b:ByteArray):(a.toList == b.toList)=decide (a=b):=by
 rw[ByteArray.toList_eq,ByteArray.toList_eq];obtain⟨⟨x⟩⟩:=a;obtain⟨⟨y⟩⟩:=b;rw[Bool.eq_iff_iff]
 simp
def lowB(b:UInt8):Bool:=decide (97<=b.toNat) && decide (b.toNat<=122)
def valB(b:UInt8):Bool:=lowB b || (decide (48<=b.toNat) && decide (b.toNat<=57)) || decide (b.toNat=45)
def isKey(s:ByteArray):Bool:=decide (1<=s.size) && (decide (s.size<=16) && s.data.toList.all lowB)
def isVal(s:ByteArray):Bool:=decide (s.size<=32) && s.data.toList.all valB
def leS(a b:ByteArray):Bool:=Op.bytesLess a.toList b.toList || a.toList == b.toList
def chkPs(last:ByteArray):List zab->Int
 | []=>0
 | p::r=>if isKey p.1 && isVal p.2 then (if leS p.1 last then 1 else chkPs p.1 r) else 3
def zaP(ps:List zab):Int:=if 16 < ps.length then 2 else chkPs .empty ps
def isRune(c:Int):Bool:=(decide (0<=c) && decide (c<=55295)) || (decide (57344<=c) && decide (c<=1114111))
def zaS(ts:List Int):Int:=if ts.all isRune then 0 else 4
def T.own(t:T):Int:=if zaP t.ps≠0 then zaP t.ps else if (t.lf && decide (0 < t.ks.length)) || (!t.lf && decide (0 < t.ts.length)) then 7 else zaS t.ts
mutual
/-- what is wrong with a tree,in order -/
def T.chk:T->Int
 | .mk lf ps ts ks=>if (T.mk lf ps ts ks).own≠0 then (T.mk lf ps ts ks).own else T.chks ks
def T.chks:List T->Int
 | []=>0
 | k::r=>if T.chk k≠0 then T.chk k else T.chks r
end
theorem T.chk_eq(t:T):t.chk=if t.own≠0 then t.own else T.chks t.ks:=by cases t;simp[T.chk]
theorem trimL_all(l cs:List UInt8):(Lib.trimLeftS l cs=[]) ↔ l.all (cs.contains ·)=true:=by
 unfold Lib.trimLeftS
 induction l with
 | nil=>simp
 | cons x r ih =>
  rw[List.dropWhile_cons,List.all_cons]
  cases h:cs.contains x with
  | true=>simpa using ih
  | false=>simp
theorem trim_all(l cs:List UInt8):(Lib.trimS l cs=[]) ↔ l.all (cs.contains ·)=true:=by
 unfold Lib.trimS;rw[trimL_all];unfold Lib.trimRightS;rw[List.all_reverse]
 have key:∀ m:List UInt8,(m.dropWhile (cs.contains ·)).all (cs.contains ·)=m.all (cs.contains ·):=by
  intro m
  induction m with
  | nil=>rfl
  | cons x r ih =>
   rw[List.dropWhile_cons]
   cases h:cs.contains x with
   | true=>simp only[↓reduceIte,List.all_cons,h,Bool.true_and];exact ih
   | false=>simp
 rw[key,List.all_reverse]
def lows:ByteArray:=⟨#[97,98,99,100,101,102,103,104,105,106,107,108,109,110,111,112,113,114,115,116,117,118,119,120,121,122]⟩
def valCs:ByteArray:=⟨#[97,98,99,100,101,102,103,104,105,106,107,108,109,110,111,112,113,114,115,116,117,118,119,120,121,122,48,49,50,51,52,53,54,55,56,57,45]⟩
theorem all_bytes(P:UInt8->Bool)(h:∀ n:Fin 256,P (UInt8.ofNat n.val)=true)(b:UInt8):P b=true:=by
 have:=h ⟨b.toNat,by exact b.toNat_lt⟩
 simpa using this
theorem lows_has(b:UInt8):lows.data.toList.contains b=lowB b:=by
 have:=all_bytes (fun b=>lows.data.toList.contains b == lowB b) (of_decide_eq_true (by kernel_rfl)) b
 simpa using this
theorem valCs_has(b:UInt8):valCs.data.toList.contains b=valB b:=by
 have:=all_bytes (fun b=>valCs.data.toList.contains b == valB b) (of_decide_eq_true (by kernel_rfl)) b
 simpa using this
theorem trim_empty(l cs:List UInt8):(⟨(Lib.trimS l cs).toArray⟩:ByteArray).toList.isEmpty=l.all (cs.contains ·):=by
 rw[ByteArray.toList_eq,Bool.eq_iff_iff,<- trim_all]
 simp
theorem trim_key(s:ByteArray):((⟨(Lib.trimS s.data.toList lows.data.toList).toArray⟩:ByteArray).toList.isEmpty)=s.data.toList.all lowB:=by
 rw[trim_empty];congr 1;funext b;exact lows_has b
theorem trim_val(s:ByteArray):((⟨(Lib.trimS s.data.toList valCs.data.toList).toArray⟩:ByteArray).toList.isEmpty)=s.data.toList.all valB:=by
 rw[trim_empty];congr 1;funext b;exact valCs_has b
theorem bytesLess_nil(a:List UInt8):Op.bytesLess a []=false:=by
 cases a <;> simp[Op.bytesLess]
theorem empty_toList:ByteArray.empty.toList=[]:=by rw[ByteArray.toList_eq];rfl
theorem leS_empty(s:ByteArray)(h:isKey s=true):leS s .empty=false:=by
 have hs:1<=s.size:=by
  have:=(Bool.and_eq_true_iff.1 h).1
  simpa using this
 unfold leS;rw[empty_toList,bytesLess_nil,Bool.false_or,<- empty_toList,bytes_beq];refine decide_eq_false (fun e=>?_);rw[e] at hs;exact absurd hs (by decide)
theorem indexRunes_any(ts:List Int)(ta:Option Addr)(tc:Nat)(pf:FuncId)(caps:Array Value)(pr:Int->Bool)(w:World)(eg:∀ args w,(callFunc pf args).run Tryz.prog w=.ok (.enter pf args) w)(hcall:∀ p∈ts,∀ w1,Grew w w1->Calls Tryz.prog pf (#[.int .i32 p]++caps) w1 fun e w'=>e=.returned (.bool (pr p))/\Grew w1 w')(lo hi:Nat)(hp:RunesIn w lo hi ta tc ts)(hh:hi<=w.heap.size)(hlen:ts.length<=1048576) :
  Calls Tryz.prog 201 #[.slice ta ts.length tc,.func (.func pf) #[] caps] w fun e w' =>
   e=.returned (.int .i64 (zbl pr ts))/\Grew w w':=by
 have HC:=zQ0 hcall;clear hcall
 go_enter Tryz.func201,Tryz.ntmps201
 go_wp2_with fail
 go_loopw [8] (fun i wr=>∃(k:Nat),k<=ts.length/\i=.int .i64 k/\Grew w wr/\∀ j,j < k->pr (ts.getD j default)=false) (fun i _=>ts.length - (intOf i).toNat)
 case atStart=>exact⟨0,by omega,rfl,Grew.refl _,fun j hj=>by omega⟩
 case round =>
  obtain⟨k,hk1,rfl,hg,hall⟩:=hrel;have HA:=zQ0 hall;clear hall
  by_cases hlt:k < ts.length
  ·obtain⟨b,o,rfl,_,hbh,hc0,_⟩:=(hp.grew hg hh).at hlt;have HC1:=zQ0 (HC.out _ (zbd ts k hlt) wr hg);have hd:ts.getD k 0=ts.getD k default:=rfl;rw[hd] at hc0
   cases hpr:pr (ts.getD k default) with
   | false =>
    have HX:Hid (∀ j,j < k+1->pr (ts.getD j default)=false):=fun j hj=>by
     rcases Nat.lt_or_ge j k with h | h
     ·exact HA.out j h
     ·obtain rfl:j=k:=by omega
      exact hpr
    rw[hpr] at HC1;clear hpr HA hd;generalize ts.getD k default=p at *;go_wp2_with fail
    refine HC1.out.mono ?_;rintro e w' ⟨rfl,g1⟩;go_wp2_with fail
    go_roundw
    case rel=>exact⟨k+1,by omega,by go_num,hg.trans g1,HX.out⟩
    case measure=>simp[intOf];omega
   | true =>
    have HX:Hid (zbl pr ts=k):=idxOf_found hlt hpr HA.out;rw[hpr] at HC1;clear hpr HA hd;generalize ts.getD k default=p at *;go_wp2_with fail
    refine HC1.out.mono ?_;rintro e w' ⟨rfl,g1⟩;go_wp2_with fail
    go_ret
    exact⟨zcz HX.out.symm,hg.trans g1⟩
  ·obtain rfl:k=ts.length:=by omega
   have HX:Hid (zbl pr ts=-1):=idxOf_none HA.out;clear HA;go_wp2_with fail
   go_ret
   exact⟨zcz HX.out.symm,hg⟩
theorem idx_all(pr:Int->Bool)(ts:List Int):(zbl pr ts=-1/\ts.all (fun c=>!pr c)=true)\/∃ j:Nat,zbl pr ts=j/\ts.all (fun c=>!pr c)=false:=by
 unfold zbl
 cases h:ts.findIdx? pr with
 | none =>
  left
  refine⟨rfl,?_⟩;rw[List.findIdx?_eq_none_iff] at h;rw[List.all_eq_true];intro x hx
  simp[h x hx]
 | some i =>
  right
  refine⟨i,rfl,?_⟩;rw[List.findIdx?_eq_some_iff_getElem] at h;obtain⟨h1,h2,_⟩:=h;rw[List.all_eq_false];exact⟨ts[i],List.getElem_mem h1,by simp[h2]⟩
theorem containsRunes_any(ts:List Int)(ta:Option Addr)(tc:Nat)(pf:FuncId)(caps:Array Value)(pr:Int->Bool)(w:World)(eg:∀ args w,(callFunc pf args).run Tryz.prog w=.ok (.enter pf args) w)(hcall:∀ p∈ts,∀ w1,Grew w w1->Calls Tryz.prog pf (#[.int .i32 p]++caps) w1 fun e w'=>e=.returned (.bool (pr p))/\Grew w1 w')(lo hi:Nat)(hp:RunesIn w lo hi ta tc ts)(hh:hi<=w.heap.size)(hlen:ts.length<=1048576) :
  Calls Tryz.prog 180 #[.slice ta ts.length tc,.func (.func pf) #[] caps] w fun e w' =>
   e=.returned (.bool (!ts.all (fun c=>!pr c)))/\Grew w w':=by
 have C:=zQ0 (indexRunes_any ts ta tc pf caps pr w eg hcall lo hi hp hh hlen);clear hcall eg
 rcases idx_all pr ts with ⟨h1,h2⟩ | ⟨j,h1,h2⟩
 ·rw[h1] at C;have H2:=zQ0 h2;clear h1 h2
  go_enter Tryz.func180,Tryz.ntmps180
  go_wp2_with fail
  refine C.out.mono ?_;rintro e w' ⟨rfl,hg⟩;go_wp2_with fail
  go_ret
  exact⟨zcy (by rw[H2.out];rfl),hg⟩
 ·rw[h1] at C;have H2:=zQ0 h2;clear h1 h2
  go_enter Tryz.func180,Tryz.ntmps180
  go_wp2_with fail
  refine C.out.mono ?_;rintro e w' ⟨rfl,hg⟩;go_wp2_with fail
  go_ret
  exact⟨zcy (by rw[H2.out];simp),hg⟩
theorem valid_isRune(r:Int):Lib.validRune r=isRune r:=by
 unfold Lib.validRune isRune;rw[Bool.eq_iff_iff];simp only[decide_eq_true_eq,Bool.or_eq_true,Bool.and_eq_true];omega
theorem runeFn_any(p:Int)(w:World) :
  Calls Tryz.prog 181 (#[.int .i32 p]++#[]) w fun e w'=>e=.returned (.bool (!isRune p))/\Grew w w':=by
 have C:=zQ0 (fun w=>Any.utf8_ValidRune Tryz.lays119 p w);rw[valid_isRune] at C
 change Hid (∀ w,Calls Tryz.prog 182 _ _ _) at C
 simp only[List.append_toArray,List.cons_append,List.nil_append]
 go_enter Tryz.func181,Tryz.ntmps181
 go_wp2_with fail
 refine (C.out _).mono ?_;rintro e w' ⟨rfl,rfl⟩;go_wp2_with fail
 go_ret
 exact⟨rfl,Grew.refl _⟩
theorem check03_any(ts:List Int)(ta:Option Addr)(tc:Nat)(w:World)(lo hi:Nat)(hp:RunesIn w lo hi ta tc ts)(hh:hi<=w.heap.size)(hlen:ts.length<=1048576) :
  Calls Tryz.prog 148 #[.slice ta ts.length tc] w fun e w'=>e=.returned (.int .i64 (zaS ts))/\Grew w w':=by
 have C:=zQ0 (containsRunes_any ts ta tc 181 #[] (fun c=>!isRune c) w Tryz.call181 (fun p _ w1 _=>runeFn_any p w1) lo hi hp hh hlen);have HE:Hid (zaS ts=if ts.all isRune then 0 else 4):=by show _=_;rfl
 simp only[Bool.not_not] at C;have e:(ts.all fun c=>isRune c)=ts.all isRune:=rfl;rw[e] at C;clear e
 cases h:ts.all isRune with
 | true =>
  rw[h] at C HE;clear h
  go_enter Tryz.func148,Tryz.ntmps148
  go_wp2_with fail
  refine C.out.mono ?_;rintro e w' ⟨rfl,hg⟩;go_wp2_with fail
  go_ret
  exact⟨ret_val (by rw[HE.out];rfl),hg⟩
 | false =>
  rw[h] at C HE;clear h
  go_enter Tryz.func148,Tryz.ntmps148
  go_wp2_with fail
  refine C.out.mono ?_;rintro e w' ⟨rfl,hg⟩;go_wp2_with fail
  go_ret
  exact⟨ret_val (by rw[HE.out];rfl),hg⟩
end Go.Proofs.YtccobobnmpafbaaGreatDoor
