/- trail.Above, alike, Left; redlineref02.Compare, Above: the contracts. -/
import Derived.Test.YtbhbekocmpmjfaaGreatDoorK02
import Derived.IntWalk
import Derived.Deep.MidRow
import Derived.Deep.DeepCutAuto
import Derived.Laws.OwnMore
import Derived.Laws.EntriesVeiled
import Derived.Test.YtbhbekocmpmjfaaGreatDoorK01
set_option maxRecDepth 100000
set_option maxHeartbeats 100000000
namespace Go.Proofs.YtbhbekocmpmjfaaGreatDoor
open Go Go.RowKit
def zai:List Int→List Int→Nat
 | a::x,b::y=>if a=b then zai x y+1 else 0
 | _,_=>0
theorem alikeN_eq{xs ys:List Int}{k:Nat}(h1:k≤xs.length)(h2:k≤ys.length)(he:xs.take k=ys.take k)(hd:k=xs.length∨k=ys.length∨xs.getD k 0≠ys.getD k 0):zai xs ys=k:=by
 induction k generalizing xs ys with
 | zero =>
  cases xs with
  | nil=>rfl
  | cons a x =>
   cases ys with
   | nil=>rfl
   | cons b y =>
    rcases hd with h | h | h
    ·simp at h
    ·simp at h
    ·unfold zai;rw[if_neg (by simpa [List.getD] using h)]
 | succ k ih =>
  cases xs with
  | nil=>simp at h1
  | cons a x =>
   cases ys with
   | nil=>simp at h2
   | cons b y =>
    simp only[List.take_succ_cons,List.cons.injEq] at he;unfold zai;rw[if_pos he.1,ih (by simpa using h1) (by simpa using h2) he.2 (by simpa [List.getD] using hd)]
theorem alikeN_le(xs ys:List Int):zai xs ys≤xs.length∧zai xs ys≤ys.length:=by
 induction xs generalizing ys with
 | nil=>simp[zai]
 | cons a x ih =>
  cases ys with
  | nil=>simp[zai]
  | cons b y =>
   unfold zai;have:=ih y
   split <;> simp <;> omega
theorem alikeN_take(xs ys:List Int):xs.take (zai xs ys)=ys.take (zai xs ys):=by
 induction xs generalizing ys with
 | nil=>simp[zai]
 | cons a x ih =>
  cases ys with
  | nil=>simp[zai]
  | cons b y =>
   unfold zai
   split
   ·rename_i h
    simp[h,ih y]
   ·simp
def zaf(a b:List Int):Bool:=decide (a.length < b.length) && decide (a=b.take a.length)
theorem aboveP_alike(a b:List Int):zaf a b=(decide (a.length < b.length) && decide (zai a b=a.length)):=by
 unfold zaf
 by_cases h:a.length < b.length
 ·simp only[h,decide_true,Bool.true_and];rw[Bool.eq_iff_iff,decide_eq_true_iff,decide_eq_true_iff]
  constructor
  ·intro e;exact alikeN_eq zQ1 (by omega) (by rw[List.take_length];exact e) (Or.inl rfl)
  ·intro e;have:=alikeN_take a b;rw[e,List.take_length] at this;exact this
 ·simp[h]
theorem alike_any(a b:Option Addr)(c d:Nat)(xs ys:List Int)(w:World)(lo hi lo' hi':Nat)(hx:IntsIn w lo hi a c xs)(hy:IntsIn w lo' hi' b d ys)(hl:xs.length≤1048576)(hl2:ys.length≤1048576)(hh:hi≤w.heap.size)(hh':hi'≤w.heap.size) :
  Calls Tryz.prog 94 #[.slice a xs.length c,.slice b ys.length d] w fun e w'=>e=.returned (.int .i64 (zai xs ys:Nat))∧Grew w w':=by
 go_enter Tryz.func94,Tryz.ntmps94
 by_cases hle:xs.length≤ys.length
 ·have hle1:(xs.length:Int)≤ys.length:=by omega
  go_wp2_with fail
  go_loopw [11] (fun i wr=>∃(k:Nat),k≤xs.length∧i=.int .i64 k∧Grew w wr∧xs.take k=ys.take k) (fun i _=>xs.length - (intOf i).toNat)
  case atStart=>exact⟨0,by omega,rfl,Grew.refl _,by simp⟩
  case round =>
   obtain⟨k,hk1,rfl,hg,he⟩:=hrel;have HE:=zQ0 he;clear he
   by_cases hlt:k < xs.length
   ·obtain⟨b1,o1,rfl,_,_,hc1⟩:=(hx.grew hg hh).at (j:=k) (by omega);obtain⟨b2,o2,rfl,_,_,hc2⟩:=(hy.grew hg hh').at (j:=k) (by omega);have hx1:(k:Int) < (xs.length:Int):=by omega
    have hy1:(k:Int) < (ys.length:Int):=by omega
    by_cases hxy:xs.getD k 0=ys.getD k 0
    ·have ht:(xs.getD k 0 != ys.getD k 0)=false:=by rw[hxy];simp
     have HX:Hid (xs.take (k+1)=ys.take (k+1)):=by
      show _=_
      rw[zc6 xs k (by omega),zc6 ys k (by omega),HE.out,hxy]
     clear hxy;generalize xs.getD k 0=p at *;generalize ys.getD k 0=q at *;go_wp2_with fail
     go_quiet (fail)
     go_wp2_with fail
     go_roundw
     case rel=>exact⟨k+1,by omega,by go_num,hg.drewN _,HX.out⟩
     case measure=>simp[intOf];omega
    ·have ht:(xs.getD k 0 != ys.getD k 0)=true:=by simpa using hxy
     have HN:Hid (zai xs ys=k):=alikeN_eq (by omega) (by omega) HE.out (Or.inr (Or.inr hxy));clear hxy;generalize xs.getD k 0=p at *;generalize ys.getD k 0=q at *;go_wp2_with fail
     go_quiet (fail)
     go_wp2_with fail
     go_ret
     exact⟨zcE (by rw[HN.out]),hg.drewN _⟩
   ·obtain rfl:k=xs.length:=by omega
    have HN:Hid (zai xs ys=xs.length):=alikeN_eq (by omega) (by omega) HE.out (Or.inl rfl);go_wp2_with fail
    go_ret
    exact⟨zcE (by rw[HN.out]),hg⟩
 ·have hle1:(ys.length:Int)≤xs.length:=by omega
  go_wp2_with fail
  go_loopw [11] (fun i wr=>∃(k:Nat),k≤ys.length∧i=.int .i64 k∧Grew w wr∧xs.take k=ys.take k) (fun i _=>ys.length - (intOf i).toNat)
  case atStart=>exact⟨0,by omega,rfl,Grew.refl _,by simp⟩
  case round =>
   obtain⟨k,hk1,rfl,hg,he⟩:=hrel;have HE:=zQ0 he;clear he
   by_cases hlt:k < ys.length
   ·obtain⟨b1,o1,rfl,_,_,hc1⟩:=(hx.grew hg hh).at (j:=k) (by omega);obtain⟨b2,o2,rfl,_,_,hc2⟩:=(hy.grew hg hh').at (j:=k) (by omega);have hx1:(k:Int) < (xs.length:Int):=by omega
    have hy1:(k:Int) < (ys.length:Int):=by omega
    by_cases hxy:xs.getD k 0=ys.getD k 0
    ·have ht:(xs.getD k 0 != ys.getD k 0)=false:=by rw[hxy];simp
     have HX:Hid (xs.take (k+1)=ys.take (k+1)):=by
      show _=_
      rw[zc6 xs k (by omega),zc6 ys k (by omega),HE.out,hxy]
     clear hxy;generalize xs.getD k 0=p at *;generalize ys.getD k 0=q at *;go_wp2_with fail
     go_quiet (fail)
     go_wp2_with fail
     go_roundw
     case rel=>exact⟨k+1,by omega,by go_num,hg.drewN _,HX.out⟩
     case measure=>simp[intOf];omega
    ·have ht:(xs.getD k 0 != ys.getD k 0)=true:=by simpa using hxy
     have HN:Hid (zai xs ys=k):=alikeN_eq (by omega) (by omega) HE.out (Or.inr (Or.inr hxy));clear hxy;generalize xs.getD k 0=p at *;generalize ys.getD k 0=q at *;go_wp2_with fail
     go_quiet (fail)
     go_wp2_with fail
     go_ret
     exact⟨zcE (by rw[HN.out]),hg.drewN _⟩
   ·obtain rfl:k=ys.length:=by omega
    have HN:Hid (zai xs ys=ys.length):=alikeN_eq (by omega) (by omega) HE.out (Or.inr (Or.inl rfl));go_wp2_with fail
    go_ret
    exact⟨zcE (by rw[HN.out]),hg⟩
theorem above_any(a b:Option Addr)(c d:Nat)(xs ys:List Int)(w:World)(lo hi lo' hi':Nat)(hx:IntsIn w lo hi a c xs)(hy:IntsIn w lo' hi' b d ys)(hl:xs.length≤1048576)(hl2:ys.length≤1048576)(hh:hi≤w.heap.size)(hh':hi'≤w.heap.size) :
  Calls Tryz.prog 29 #[.slice a xs.length c,.slice b ys.length d] w fun e w'=>e=.returned (.bool (zaf xs ys))∧Grew w w':=by
 have C:=zQ0 (alike_any a b c d xs ys w lo hi lo' hi' hx hy hl hl2 hh hh');have HA:=zQ0 (aboveP_alike xs ys);have hle:=(alikeN_le xs ys).1;generalize zai xs ys=k at *
 by_cases h:xs.length < ys.length
 ·have ht:decide (xs.length < ys.length)=true:=by simpa using h
  have HN:Hid (zaf xs ys=decide (k=xs.length)):=by show _=_;rw[HA.out];simp[h]
  clear h
  go_enter Tryz.func29,Tryz.ntmps29
  go_wp2_with fail
  refine C.out.mono ?_;rintro e w' ⟨rfl,hg⟩
  by_cases h2:k=xs.length
  ·have ht2:((k:Int) == xs.length)=true:=by simp[h2]
   have HN2:Hid (zaf xs ys=true):=by show _=_;rw[HN.out];simp[h2]
   clear h2;go_wp2_with fail
   go_ret
   exact⟨zcD (by rw[HN2.out]),hg⟩
  ·have ht2:((k:Int) == xs.length)=false:=by simp;omega
   have HN2:Hid (zaf xs ys=false):=by show _=_;rw[HN.out];simp[h2]
   clear h2;go_wp2_with fail
   go_ret
   exact⟨zcD (by rw[HN2.out]),hg⟩
 ·have ht:decide (xs.length < ys.length)=false:=by simp;omega
  have HN:Hid (zaf xs ys=false):=by show _=_;rw[HA.out];simp[h]
  clear h
  go_enter Tryz.func29,Tryz.ntmps29
  go_wp2_with fail
  go_ret
  exact⟨zcD (by rw[HN.out]),Grew.refl _⟩
theorem IntsIn.take{w:World}{lo hi:Nat}{a:Option Addr}{c:Nat}{ts:List Int}(h:IntsIn w lo hi a c ts){k:Nat}(hk:k≤ts.length):IntsIn w lo hi a c (ts.take k):=by
 have hl:(ts.take k).length=k:=List.length_take_of_le hk;have h2:=h.1.2.1;refine⟨⟨fun e=>?_,?_,h.1.2.2⟩,fun hn=>?_⟩
 ·have:=h.1.1 e;omega
 ·omega
 ·obtain⟨b,o,e,h1,h2,hc⟩:=h.2 (by omega);refine⟨b,o,e,h1,h2,fun i hi j hj=>?_⟩;have:=hc i (by omega) j hj;rw[this]
  simp[List.getD,show i < k by omega]
theorem zco{w w':World}{b o:Nat}{cs:List Value}(h:w.rangeAt b o cs)(hg:Grew w w')(hb:b < w.heap.size):w'.rangeAt b o cs:=fun j v hj=>(hg.cell (p:=⟨b,o+j,none⟩) hb).trans (h j v hj)
theorem zas{w w1:World}{cs:Array Value}{t:TypeId}(g:Grew (w.alloc (.cells cs t)) w1){j:Nat}{v:Value}(h:cs[j]? = some v):w1.cell? ⟨w.heap.size,j,none⟩=some v:=by
 rw[g.cell (by simp)];rw[World.cell?_alloc_new];exact h
theorem zc8{w w1:World}{cs:Array Value}{t:TypeId}(g:Grew (w.alloc (.cells cs t)) w1):w1.there w.heap.size 0 cs.size:=fun j hj=>by
 rw[Nat.zero_add,zas g (Array.getElem?_eq_getElem hj),g.frozen (by simp),World.frozen?_alloc_at _ _ _ _ rfl];exact⟨rfl,rfl⟩
theorem zcw{P:Program}{fn:Func}{p:Tmp}{ty:TypeId}(h:fn.results=#[.cell p ty])(tmps:Array Value)(w:World)(b o:Nat)(cs:List Value)(d:TypeDesc)(hp:tmps.getD p undef=.pointer (some ⟨b,o,none⟩))(hc:w.rangeAt b o cs)(hu:P.underlying ty=some d)(hd:d.isRow=true)(hi:(P.info? ty).map (·.size)=some cs.length):(results fn tmps).run P w=.ok (.agg cs.toArray) w:=by
 have hp':tmps[p]?.getD undef=.pointer (some ⟨b,o,none⟩):=by simpa using hp
 simp[results,h,hp',asAddr,run_loadVar_mid w b o ty cs d hc hu hd hi]
theorem zcr{w:World}{b:Nat}{cs:List Value}(ht:w.there b 0 cs.length):(w.setCells b 0 cs).rangeAt b 0 cs:=fun j v hj=>by
 obtain⟨h1,rfl⟩:=List.getElem?_eq_some_iff.1 hj;exact World.cell?_setCells_in b cs 0 w (fun i hi=>(ht i hi).1) j h1
theorem zcP(b:Nat):∀(vs:List Value) (o:Nat) (w:World),Keeps (·=b) w (w.setCells b o vs)
 | [],_,w=>Keeps.refl _ w
 | v::r,o,w=>((Keeps.refl (·=b) w).own o v).trans (zcP b r (o+1) _)
theorem zcs{F:World}{b:Nat}{cs:List Value}(hr:F.rangeAt b 0 cs){j:Nat}(hj:j < cs.length)(v:Value):(F.setCell ⟨b,j,none⟩ v).rangeAt b 0 (cs.set j v):=fun i u hu=>by
 rw[Nat.zero_add]
 by_cases e:i=j
 ·subst e;have h1:=hr i _ (List.getElem?_eq_getElem hj);rw[Nat.zero_add] at h1;rw[World.cell?_setCell_same _ _ _ h1];rw[List.getElem?_set_self hj] at hu;exact hu
 ·rw[zax (fun h=>e h.symm)];rw[List.getElem?_set_ne (fun h=>e h.symm)] at hu;have:=hr i u hu
  rwa [Nat.zero_add] at this
theorem zcq{F F':World}{b b' o:Nat}{cs:List Value}(hr:F.rangeAt b o cs)(hk:Keeps (·=b') F F')(hb:b < F.heap.size)(hne:b≠b'):F'.rangeAt b o cs:=fun j v hj=>(hk.cell (p:=⟨b,o+j,none⟩) hb hne).trans (hr j v hj)
theorem zcn{F:World}{b:Nat}{cs:List Value}(hr:F.rangeAt b 0 cs){j:Nat}{v:Value}(hj:cs[j]? = some v):F.cell? ⟨b,j,none⟩=some v:=by
 have:=hr j v hj
 rwa [Nat.zero_add] at this
theorem zcp{F F':World}{O:Nat→Prop}{b o:Nat}{cs:List Value}(hr:F.rangeAt b o cs)(hk:Keeps O F F')(hb:b < F.heap.size)(hO:¬ O b):F'.rangeAt b o cs:=fun j v hj=>(hk.cell (p:=⟨b,o+j,none⟩) hb hO).trans (hr j v hj)
theorem Agree.mono{lo hi lo' hi':Nat}{w w':World}(h:Agree lo hi w w')(h1:lo≤lo')(h2:hi'≤hi):Agree lo' hi' w w':=fun k k1 k2=>h k (by omega) (by omega)
structure PtE where
 p:List Int
 o:Int
structure SelE where
 is:Bool
 a:PtE
 f:PtE
structure OpE where
 kind:Int
 path:List Int
 dest:List Int
 pos:Int
 node:T
 old:List zac
 new:List zac
 text:List Int
 src:SelE
 dst:SelE
structure PtL where
 p:PN
 o:Int
structure SelL where
 is:Bool
 a:PtL
 f:PtL
structure OpL where
 kind:Int
 path:PN
 dest:PN
 pos:Int
 node:NT
 oa:Option Addr
 oc:Nat
 old:List zac
 na:Option Addr
 nc:Nat
 new:List zac
 xa:Option Addr
 xc:Nat
 text:List Int
 src:SelL
 dst:SelL
def PN.nil:PN:=⟨none,0,[]⟩
def PtL.nil:PtL:=⟨PN.nil,0⟩
def SelL.nil:SelL:=⟨false,PtL.nil,PtL.nil⟩
def NT.zero:NT:=.mk false none 0 [] none 0 [] none 0 []
def OpL.of(kind:Int)(path dest:PN)(pos:Int)(node:NT)(na:Option Addr)(nc:Nat)(new:List zac):OpL:=⟨kind,path,dest,pos,node,none,0,[],na,nc,new,none,0,[],SelL.nil,SelL.nil⟩
instance:Inhabited OpL:=⟨OpL.of 0 PN.nil PN.nil 0 NT.zero none 0 []⟩
def PtL.er(p:PtL):PtE:=⟨p.p.l,p.o⟩
def SelL.er(s:SelL):SelE:=⟨s.is,s.a.er,s.f.er⟩
def OpL.er(o:OpL):OpE:=⟨o.kind,o.path.l,o.dest.l,o.pos,o.node.er,o.old,o.new,o.text,o.src.er,o.dst.er⟩
def PtE.nil:PtE:=⟨[],0⟩
def SelE.nil:SelE:=⟨false,PtE.nil,PtE.nil⟩
def OpE.of(kind:Int)(path dest:List Int)(pos:Int)(node:T)(new:List zac):OpE:=⟨kind,path,dest,pos,node,[],new,[],SelE.nil,SelE.nil⟩
theorem OpL.of_er(kind:Int)(path dest:PN)(pos:Int)(node:NT)(na:Option Addr)(nc:Nat)(new:List zac):(OpL.of kind path dest pos node na nc new).er=OpE.of kind path.l dest.l pos node.er new:=rfl
def T.zero:T:=.mk false [] [] []
theorem NT.zero_er:NT.zero.er=T.zero:=by simp[NT.zero,NT.er_eq,T.zero]
def PtL.val(p:PtL):Value:=.agg #[p.p.val,.int .i64 p.o]
def SelL.val(s:SelL):Value:=.agg #[.bool s.is,s.a.p.val,.int .i64 s.a.o,s.f.p.val,.int .i64 s.f.o]
def OpL.cells(o:OpL):List Value:=[.int .i64 o.kind,.slice o.path.a o.path.l.length o.path.c,.slice o.dest.a o.dest.l.length o.dest.c,.int .i64 o.pos,.bool o.node.lf,.slice o.node.pa o.node.ps.length o.node.pc,.slice o.node.ta o.node.ts.length o.node.tc,.slice o.node.ka o.node.ks.length o.node.kc,
 .slice o.oa o.old.length o.oc,.slice o.na o.new.length o.nc,.slice o.xa o.text.length o.xc,.bool o.src.is,.slice o.src.a.p.a o.src.a.p.l.length o.src.a.p.c,.int .i64 o.src.a.o,.slice o.src.f.p.a o.src.f.p.l.length o.src.f.p.c,.int .i64 o.src.f.o,
 .bool o.dst.is,.slice o.dst.a.p.a o.dst.a.p.l.length o.dst.a.p.c,.int .i64 o.dst.a.o,.slice o.dst.f.p.a o.dst.f.p.l.length o.dst.f.p.c,.int .i64 o.dst.f.o]
theorem OpL.cells_len(o:OpL):o.cells.length=21:=rfl
theorem OpL.cells_one(o:OpL):∀ u∈o.cells,u.oneCell'=true:=by
 intro u hu;simp only[OpL.cells,List.mem_cons,List.not_mem_nil,or_false] at hu
 rcases hu with rfl | rfl | rfl | rfl | rfl | rfl | rfl | rfl | rfl | rfl | rfl | rfl | rfl | rfl | rfl | rfl | rfl | rfl | rfl | rfl | rfl
 all_goals rfl
def PtL.In(w:World)(lo hi:Nat)(p:PtL):Prop:=IntsIn w lo hi p.p.a p.p.c p.p.l
def SelL.In(w:World)(lo hi:Nat)(s:SelL):Prop:=s.a.In w lo hi∧s.f.In w lo hi
def OpL.In(w:World)(lo hi:Nat)(o:OpL):Prop:=(IntsIn w lo hi o.path.a o.path.c o.path.l∧IntsIn w lo hi o.dest.a o.dest.c o.dest.l)∧o.node.In w lo hi∧PropsIn w lo hi o.oa o.oc o.old∧PropsIn w lo hi o.na o.nc o.new∧RunesIn w lo hi o.xa o.xc o.text∧o.src.In w lo hi∧o.dst.In w lo hi
theorem OpL.In.agree{w w':World}{lo hi:Nat}{o:OpL}(h:o.In w lo hi)(hag:Agree lo hi w w'):o.In w' lo hi:=by
 obtain⟨⟨h1,h2⟩,h3,h4,h5,h6,⟨h7,h8⟩,⟨h9,h10⟩⟩:=h;exact⟨⟨h1.agree hag,h2.agree hag⟩,h3.agree hag,h4.agree hag,h5.agree hag,h6.agree hag,⟨IntsIn.agree h7 hag,IntsIn.agree h8 hag⟩,⟨IntsIn.agree h9 hag,IntsIn.agree h10 hag⟩⟩
theorem OpL.In.mono{w:World}{lo hi lo' hi':Nat}{o:OpL}(h:o.In w lo hi)(k1:lo'≤lo)(k2:hi≤hi'):o.In w lo' hi':=by
 obtain⟨⟨h1,h2⟩,h3,h4,h5,h6,⟨h7,h8⟩,⟨h9,h10⟩⟩:=h;exact⟨⟨h1.mono k1 k2,h2.mono k1 k2⟩,h3.mono k1 k2,h4.mono k1 k2,h5.mono k1 k2,h6.mono k1 k2,⟨IntsIn.mono h7 k1 k2,IntsIn.mono h8 k1 k2⟩,⟨IntsIn.mono h9 k1 k2,IntsIn.mono h10 k1 k2⟩⟩
theorem OpL.In.grew{w w':World}{lo hi:Nat}{o:OpL}(h:o.In w lo hi)(hg:Grew w w')(hB:hi≤w.heap.size):o.In w' lo hi:=h.agree (hg.agree hB)
theorem NT.zero_in{w:World}{lo hi:Nat}:NT.zero.In w lo hi:=NT.In_iff.2 ⟨zcH,zcL,zbC⟩
theorem OpL.of_in{w:World}{lo hi:Nat}{kind:Int}{path dest:PN}{pos:Int}{node:NT}{na:Option Addr}{nc:Nat}{new:List zac}(h1:IntsIn w lo hi path.a path.c path.l)(h2:IntsIn w lo hi dest.a dest.c dest.l)(h3:node.In w lo hi)(h4:PropsIn w lo hi na nc new):(OpL.of kind path dest pos node na nc new).In w lo hi :=
 ⟨⟨h1,h2⟩,h3,zcH,h4,zcL,⟨zby,zby⟩,⟨zby,zby⟩⟩
def OpRow(w:World)(lo hi:Nat)(a:Option Addr)(c:Nat)(L:List OpL):Prop:=RowIn w lo hi a L.length c 21 (fun i j=>(L.getD i default).cells.getD j undef)
def OpsIn(w:World)(a:Option Addr)(c:Nat)(L:List OpL):Prop:=OpRow w 0 w.heap.size a c L∧∀ o∈L,o.In w 0 w.heap.size
theorem OpsIn.grew{w w':World}{a:Option Addr}{c:Nat}{L:List OpL}(h:OpsIn w a c L)(hg:Grew w w'):OpsIn w' a c L :=
 ⟨(RowIn.agree h.1 (hg.agree zQ1)).mono zQ1 hg.size,fun o ho=>((h.2 o ho).grew hg zQ1).mono zQ1 hg.size⟩
theorem OpRow.at{w:World}{lo hi:Nat}{a:Option Addr}{c:Nat}{L:List OpL}(h:OpRow w lo hi a c L){i:Nat}(hi':i < L.length):∃ b o,a=some ⟨b,o,none⟩∧lo≤b∧b < hi∧∀ j,j < 21→w.cell? ⟨b,o+i * 21+j,none⟩=some ((L.getD i default).cells.getD j undef):=by
 obtain⟨b,o,ha,h1,h2,hc⟩:=h.2 (by omega);exact⟨b,o,ha,h1,h2,fun j hj=>hc i hi' j hj⟩
theorem opRow_new{w:World}{L:List OpL}{t:TypeId}{cs:Array Value}(hcs:cs=(L.flatMap OpL.cells).toArray)(hl:L.length≤1048576):OpRow (w.alloc (.cells cs t)) w.heap.size (w.heap.size+1) (some ⟨w.heap.size,0,none⟩) L.length L :=
 zcG zQ1 (by unfold maxLen;omega) (fun i hi j hj=>by
  have h:=flat_at (fun o=>OpL.cells_len o) L i hi j hj;rw[hcs]
  simpa using h)
def OpE.Small(o:OpE):Prop:=(o.path.length≤1048576∧o.dest.length≤1048576)∧o.node.bulk≤1048576∧o.old.length≤1048576∧o.new.length≤1048576∧o.text.length≤1048576∧(o.src.a.p.length≤1048576∧o.src.f.p.length≤1048576)∧(o.dst.a.p.length≤1048576∧o.dst.f.p.length≤1048576)
def OpL.val(o:OpL):Value:=.agg #[.int .i64 o.kind,.slice o.path.a o.path.l.length o.path.c,.slice o.dest.a o.dest.l.length o.dest.c,.int .i64 o.pos,.bool o.node.lf,.slice o.node.pa o.node.ps.length o.node.pc,.slice o.node.ta o.node.ts.length o.node.tc,.slice o.node.ka o.node.ks.length o.node.kc,
 .slice o.oa o.old.length o.oc,.slice o.na o.new.length o.nc,.slice o.xa o.text.length o.xc,.bool o.src.is,.slice o.src.a.p.a o.src.a.p.l.length o.src.a.p.c,.int .i64 o.src.a.o,.slice o.src.f.p.a o.src.f.p.l.length o.src.f.p.c,.int .i64 o.src.f.o,
 .bool o.dst.is,.slice o.dst.a.p.a o.dst.a.p.l.length o.dst.a.p.c,.int .i64 o.dst.a.o,.slice o.dst.f.p.a o.dst.f.p.l.length o.dst.f.p.c,.int .i64 o.dst.f.o]
def PathsV(s:Nat)(v:Value)(ls:List PN)(O:Nat→Prop)(w:World):Prop :=
 w.cell? ⟨s,0,none⟩=some v∧w.frozen? ⟨s,0,none⟩=false∧s < w.heap.size∧w.ownsRow (s+1) 27 1 v ls.length (ls.map PN.val)∧O s∧(∀ k,v.ownBlock=some k→O k)∧(∀ k,O k→k=s∨v.ownBlock=some k)∧∀ p∈ls,PIn w s O p
theorem PathsV.grew{s:Nat}{v:Value}{ls:List PN}{O:Nat→Prop}{w w':World}(h:PathsV s v ls O w)(hg:Grew w w'):PathsV s v ls O w' :=
 ⟨(hg.cell (p:=⟨s,0,none⟩) h.2.2.1).trans h.1,(hg.frozen (p:=⟨s,0,none⟩) h.2.2.1).trans h.2.1,Nat.lt_of_lt_of_le h.2.2.1 hg.size,zb9 h.2.2.2.1 hg,h.2.2.2.2.1,h.2.2.2.2.2.1,h.2.2.2.2.2.2.1,fun p hp=>(h.2.2.2.2.2.2.2 p hp).moves (Moves.grew hg)⟩
theorem PathsV.lt{s:Nat}{v:Value}{ls:List PN}{O:Nat→Prop}{w:World}(h:PathsV s v ls O w):∀ k,O k→k < w.heap.size:=fun k hk=>by
 rcases h.2.2.2.2.2.2.1 k hk with rfl | h1
 ·exact h.2.2.1
 ·exact (h.2.2.2.1.lt k h1).2
theorem PathsV.push{s:Nat}{v:Value}{ls:List PN}{O:Nat→Prop}{w c F:World}{p:PN}{v':Value}(h:PathsV s v ls O w)(hp:∃ lo hi,IntsIn w lo hi p.a p.c p.l∧hi≤w.heap.size∧∀ k,lo≤k→k < hi→s < k∧¬ O k)(hown:c.ownsRow (s+1) 27 1 v' (ls.length+1) (ls.map PN.val++[p.val]))(hgr:w.grownBy c v.ownBlock)(hbl:∀ k,v'.ownBlock=some k→v.ownBlock=some k∨w.heap.size≤k)(hF:c.setCell ⟨s,0,none⟩ v'=F) :
  ∃ O',Moves O w O' F∧PathsV s v' (ls++[p]) O' F:=by
 subst hF;obtain⟨h1,h2,h3,h4,h5,h6,h7,h8⟩:=h;have hkw:=zbo hgr (O:=O) h6;have hkv:=zbo hgr (O:=fun k=>v.ownBlock=some k) (fun _ h=>h);have hns:¬ v.ownBlock=some s:=fun h=>by have:=h4.lt s h;omega
 have hns':v'.ownBlock≠some s:=fun h=>by have:=hown.lt s h;omega
 have hz:s < c.heap.size:=Nat.lt_of_lt_of_le h3 hkw.size;have hc:c.cell? ⟨s,0,none⟩=some v:=(hkv.cell (p:=⟨s,0,none⟩) h3 hns).trans h1;have hf:c.frozen? ⟨s,0,none⟩=false:=(hkv.frozen (p:=⟨s,0,none⟩) h3 hns).trans h2
 have hM:Moves O w (fun k=>k=s∨v'.ownBlock=some k) (c.setCell ⟨s,0,none⟩ v'):=by
  refine⟨hkw.setCell (Or.inr h5) _,fun k hk=>?_⟩
  rcases hk with rfl | hk
  ·exact Or.inl h5
  ·rcases hbl k hk with h9 | h9
   ·exact Or.inl (h6 k h9)
   ·exact Or.inr h9
 refine⟨_,hM,World.cell?_setCell_same _ _ _ hc,by rw[World.frozen?_setCell];exact hf,by simpa [World.setCell] using hz,?_,Or.inl rfl,fun k hk=>Or.inr hk,fun k hk=>hk,fun q hq=>?_⟩
 ·rw[List.length_append,List.map_append];exact ownsRow_other hown hns' _
 ·rcases List.mem_append.1 hq with hq | hq
  ·exact (h8 q hq).moves hM
  ·obtain rfl:=List.mem_singleton.1 hq;exact PIn.moves hp hM
theorem PathsV.store{s:Nat}{v:Value}{ls:List PN}{O:Nat→Prop}{w c:World}(h:PathsV s v ls O w)(hgr:w.grownBy c v.ownBlock):c.cell? ⟨s,0,none⟩=some v∧c.frozen? ⟨s,0,none⟩=false:=by
 obtain⟨h1,h2,h3,h4,_⟩:=h;have hkv:=zbo hgr (O:=fun k=>v.ownBlock=some k) (fun _ h=>h);have hns:¬ v.ownBlock=some s:=fun h=>by have:=h4.lt s h;omega
 exact⟨(hkv.cell (p:=⟨s,0,none⟩) h3 hns).trans h1,(hkv.frozen (p:=⟨s,0,none⟩) h3 hns).trans h2⟩
def EEnv(bt s be:Nat)(w:World):Prop :=
 w.cell? ⟨bt,0,none⟩=some (.func (.func 86) #[] #[])∧w.cell? ⟨be,0,none⟩=some (.func (.func 152) #[] #[.pointer (some ⟨bt,0,none⟩),.pointer (some ⟨s,0,none⟩),.pointer (some ⟨be,0,none⟩)])∧bt < w.heap.size∧be < w.heap.size
theorem EEnv.keeps{bt s be:Nat}{w w':World}{S:Nat→Prop}(h:EEnv bt s be w)(hk:Keeps S w w')(h1:¬ S bt)(h2:¬ S be):EEnv bt s be w' :=
 ⟨(hk.cell (p:=⟨bt,0,none⟩) h.2.2.1 h1).trans h.1,(hk.cell (p:=⟨be,0,none⟩) h.2.2.2 h2).trans h.2.1,Nat.lt_of_lt_of_le h.2.2.1 hk.size,Nat.lt_of_lt_of_le h.2.2.2 hk.size⟩
def RoomRow(w:World)(e:TypeId)(a:Option Addr)(n c k:Nat):Prop:=(n=0→c=0)∧(0 < n→∀ b o,a=some ⟨b,o,none⟩→o=0∧∃ cur:Array Value,w.heap[b]? = some (.cells cur e (0,0))∧cur.size=c * k)
theorem RoomRow.agree{w w':World}{e:TypeId}{lo hi:Nat}{a:Option Addr}{n c k:Nat}{f:Nat→Nat→Value}(h:RoomRow w e a n c k)(hr:RowIn w lo hi a n c k f)(hag:Agree lo hi w w'):RoomRow w' e a n c k:=by
 refine⟨h.1,fun hn b o ha=>?_⟩;obtain⟨b',o',ha',h1,h2,_⟩:=hr.2 hn
 obtain⟨rfl,rfl⟩:b=b'∧o=o':=by
  rw[ha] at ha';injection ha' with e;injection e with e1 e2;exact⟨e1,e2⟩
 obtain⟨h3,cur,h4,h5⟩:=h.2 hn b o ha;exact⟨h3,cur,(hag b h1 h2).trans h4,h5⟩
theorem RoomRow.set{w:World}{e:TypeId}{a:Option Addr}{n c k:Nat}(h:RoomRow w e a n c k)(p q:Nat)(u:Value):RoomRow (w.setCell ⟨p,q,none⟩ u) e a n c k:=by
 refine⟨h.1,fun hn b o ha=>?_⟩;obtain⟨h3,cur,h4,h5⟩:=h.2 hn b o ha
 by_cases hb:b=p
 ·subst hb;exact⟨h3,_,heap_setCell_same w b q cur e u h4,by simpa using h5⟩
 ·exact⟨h3,cur,(heap_setCell_other w ⟨p,q,none⟩ b u hb).trans h4,h5⟩
theorem roomRow_owned{w:World}{base:Nat}{e:TypeId}{size n c:Nat}{a:Option Addr}{xs:List Value}(h:w.ownsRow base e size (.slice a n c) n xs)(h0:n=0→c=0):RoomRow w e a n c size:=by
 refine⟨h0,fun hn b o ha=>?_⟩;obtain⟨_,h⟩:=h
 rcases h with ⟨hv,hn0⟩ | ⟨g,cap,cur,hv,hg,hh,hcap,hmax,hcur,htk⟩
 ·omega
 ·injection hv with h1 h2 h3
  rw[ha] at h1;injection h1 with h1;injection h1 with h1 h4
  subst h1 h4 h3;exact⟨rfl,cur,hh,hcur⟩
theorem cloneNodes0_any(a:Option Addr)(c:Nat)(hc:a=none→c=0)(w:World) :
  Calls Tryz.prog 127 #[.slice a 0 c] w fun e w'=>∃ va,e=.returned (.slice va 0 0)∧Grew w w'∧w'.ownsRow w.heap.size 26 4 (.slice va 0 0) 0 []:=by
 have qT:∀(w:World) (a:Option Addr) (n c n' c':Nat),(binOp .eql 24 (.slice a n c) (.slice none n' c')).run Tryz.prog w=.ok (.bool a.isNone) w:=fun w a n c n' c'=>Lib.run_eql_slice_nil w _ _ a n c n' c' Tryz.underlying24
 cases a with
 | none =>
  obtain rfl:=hc rfl
  go_enter Tryz.func127,Tryz.ntmps127
  go_wp2_with fail
  go_ret
  exact⟨none,rfl,Grew.refl _,World.ownsRow_nil _ _ _ _⟩
 | some ad =>
  go_enter Tryz.func127,Tryz.ntmps127
  go_wp2_with fail
  go_ret
  exact⟨_,rfl,Grew.alloc1 _ _,zb8 w 26 4⟩
theorem cloneNodesR_any(a:Option Addr)(c:Nat)(l:List NT)(w:World)(lo hi:Nat)(hr:KidsIn w lo hi a c l)(hh:hi≤w.heap.size)(hl:l.length≤1048576) :
  Calls Tryz.prog 127 #[.slice a l.length c] w fun e w'=>∃ va vc,e=.returned (.slice va l.length vc)∧Grew w w'∧w'.ownsRow w.heap.size 26 4 (.slice va l.length vc) l.length (zaE l)∧RoomRow w' 26 va l.length vc 4:=by
 by_cases h0:l=[]
 ·subst h0;refine (cloneNodes0_any a c (fun h=>(hr.1.1.1 h).2) w).mono fun e w' ⟨va,he,hg,ho⟩=>?_;exact⟨va,0,he,hg,ho,fun _=>rfl,fun h=>absurd h (by simp)⟩
 ·refine (cloneNodes_any a c l w lo hi hr hh hl).mono fun e w' ⟨v,he,hg,ho⟩=>?_;obtain⟨va,vc,rfl⟩:=zb6 ho;exact⟨va,vc,he,hg,ho,roomRow_owned ho (fun h=>absurd (List.length_eq_zero_iff.1 h) h0)⟩
theorem cloneRunes0_any(a:Option Addr)(c:Nat)(hc:a=none→c=0)(w:World) :
  Calls Tryz.prog 126 #[.slice a 0 c] w fun e w'=>∃ va,e=.returned (.slice va 0 0)∧Grew w w'∧w'.ownsRow w.heap.size 21 1 (.slice va 0 0) 0 []:=by
 have qT:∀(w:World) (a:Option Addr) (n c n' c':Nat),(binOp .eql 23 (.slice a n c) (.slice none n' c')).run Tryz.prog w=.ok (.bool a.isNone) w:=fun w a n c n' c'=>Lib.run_eql_slice_nil w _ _ a n c n' c' Tryz.underlying23
 cases a with
 | none =>
  obtain rfl:=hc rfl
  go_enter Tryz.func126,Tryz.ntmps126
  go_wp2_with fail
  go_ret
  exact⟨none,rfl,Grew.refl _,World.ownsRow_nil _ _ _ _⟩
 | some ad =>
  go_enter Tryz.func126,Tryz.ntmps126
  go_wp2_with fail
  go_ret
  exact⟨_,rfl,Grew.alloc1 _ _,zb8 w 21 1⟩
theorem cloneRunesR_any(a:Option Addr)(c:Nat)(l:List Int)(w:World)(lo hi:Nat)(hr:RunesIn w lo hi a c l)(hh:hi≤w.heap.size)(hl:l.length≤1048576) :
  Calls Tryz.prog 126 #[.slice a l.length c] w fun e w'=>∃ va vc,e=.returned (.slice va l.length vc)∧Grew w w'∧w'.ownsRow w.heap.size 21 1 (.slice va l.length vc) l.length ((List.map (Value.int .i32)) l)∧RoomRow w' 21 va l.length vc 1:=by
 by_cases h0:l=[]
 ·subst h0;refine (cloneRunes0_any a c (fun h=>(hr.1.1.1 h).2) w).mono fun e w' ⟨va,he,hg,ho⟩=>?_;exact⟨va,0,he,hg,ho,fun _=>rfl,fun h=>absurd h (by simp)⟩
 ·refine (cloneRunes_any a c l w lo hi hr hh hl).mono fun e w' ⟨v,he,hg,ho⟩=>?_;obtain⟨va,vc,rfl⟩:=zb6 ho;exact⟨va,vc,he,hg,ho,roomRow_owned ho (fun h=>absurd (List.length_eq_zero_iff.1 h) h0)⟩
mutual
/-- the rows of a tree have room -/
def NT.Room (w:World):NT→Prop
 | .mk _ _ _ _ ta tc ts ka kc ks=>RoomRow w 21 ta ts.length tc 1∧RoomRow w 26 ka ks.length kc 4∧NT.RoomAll w ks
def NT.RoomAll (w:World):List NT→Prop
 | []=>True
 | k::r=>NT.Room w k∧NT.RoomAll w r
end
theorem NT.RoomAll_iff{w:World}{ks:List NT}:NT.RoomAll w ks ↔ ∀ k∈ks,k.Room w:=by
 induction ks with
 | nil=>simp[NT.RoomAll]
 | cons x r ih=>simp[NT.RoomAll,ih]
theorem NT.Room_iff{w:World}{n:NT}:n.Room w ↔ RoomRow w 21 n.ta n.ts.length n.tc 1∧RoomRow w 26 n.ka n.ks.length n.kc 4∧∀ k∈n.ks,k.Room w:=by
 cases n
 simp only[NT.Room,NT.RoomAll_iff,NT.ta_mk,NT.tc_mk,NT.ts_mk,NT.ka_mk,NT.kc_mk,NT.ks_mk]
theorem NT.Room.agree{w w':World}{lo hi:Nat}(hag:Agree lo hi w w'){n:NT}:n.Room w→n.In w lo hi→n.Room w':=by
 induction n using NT.ind with
 | h n ih =>
  intro h hin;have h1:=NT.Room_iff.1 h;have h2:=NT.In_iff.1 hin;exact NT.Room_iff.2 ⟨h1.1.agree h2.2.1.1 hag,h1.2.1.agree h2.2.2.1 hag,fun k hk=>ih k hk (h1.2.2 k hk) (h2.2.2.2 k hk)⟩
def BlkIn(lo hi:Nat)(a:Option Addr)(n:Nat):Prop:=∀ b o,a=some ⟨b,o,none⟩→0 < n→lo≤b∧b < hi
theorem BlkIn.mono{lo hi lo' hi':Nat}{a:Option Addr}{n:Nat}(h:BlkIn lo hi a n)(h1:lo'≤lo)(h2:hi≤hi'):BlkIn lo' hi' a n:=fun b o e hn=>by
 have:=h b o e hn;omega
theorem RowIn.blk{w:World}{lo hi:Nat}{a:Option Addr}{n c k:Nat}{f:Nat→Nat→Value}(h:RowIn w lo hi a n c k f):BlkIn lo hi a n:=fun b o e hn=>by
 obtain⟨b',o',e',h1,h2,_⟩:=h.2 hn;rw[e] at e';injection e' with e';injection e' with e1 e2
 subst e1;exact⟨h1,h2⟩
theorem RowIn.narrow{w:World}{lo hi l h:Nat}{a:Option Addr}{n c k:Nat}{f:Nat→Nat→Value}(hr:RowIn w lo hi a n c k f)(hb:BlkIn l h a n):RowIn w l h a n c k f:=by
 refine⟨hr.1,fun hn=>?_⟩;obtain⟨b,o,e,_,_,hc⟩:=hr.2 hn;have:=hb b o e hn;exact⟨b,o,e,this.1,this.2,hc⟩
def PtApart(pa:Option Addr)(np:Nat)(ta:Option Addr)(nt:Nat):Prop:=∀ b o b' o',pa=some ⟨b,o,none⟩→ta=some ⟨b',o',none⟩→0 < np→0 < nt→b≠b'
inductive NT.Sep:Nat→Nat→NT→Prop
 | mk (n:NT) (lo a m hi:Nat) (f:Nat→Nat) (h1:lo≤a) (h2:a≤m) (hp:BlkIn lo a n.pa n.ps.length) (ht:BlkIn lo a n.ta n.ts.length) (hk:BlkIn a m n.ka n.ks.length)
   (hf0:m≤f 0) (hfm:∀ i,i < n.ks.length→f i≤f (i+1)) (hfh:f n.ks.length≤hi) (hks:∀ i,i < n.ks.length→NT.Sep (f i) (f (i+1)) (n.ks.getD i default)) (hpt:PtApart n.pa n.ps.length n.ta n.ts.length):NT.Sep lo hi n
theorem mono_of{f : Nat → Nat}{n : Nat}(h : ∀ i, i < n → f i ≤ f (i + 1)) : ∀ j, j ≤ n → ∀ i, i ≤ j → f i ≤ f j := by
  intro j
  induction j with
  | zero => intro _ i hi; obtain rfl : i = 0 := by omega
            exact Nat.le_refl _
  | succ j ih =>
    intro hj i hi
    rcases Nat.lt_or_ge i (j + 1) with h1 | h1
    · exact Nat.le_trans (ih (by omega) i (by omega)) (h j (by omega))
    · obtain rfl : i = j + 1 := by omega
      exact Nat.le_refl _
theorem NT.Sep.le{lo hi:Nat}{n:NT}(h:n.Sep lo hi):lo≤hi:=by
 obtain⟨_,_,a,m,_,f,h1,h2,_,_,_,hf0,hfm,hfh,_⟩:=h;have:=mono_of hfm n.ks.length zQ1 0 (Nat.zero_le _);omega
theorem NT.Sep.mono{lo hi lo' hi':Nat}{n:NT}(h:n.Sep lo hi)(k1:lo'≤lo)(k2:hi≤hi'):n.Sep lo' hi':=by
 obtain⟨_,_,a,m,_,f,h1,h2,hp,ht,hk,hf0,hfm,hfh,hks,hpt⟩:=h;exact .mk n lo' a m hi' f (by omega) h2 (hp.mono k1 zQ1) (ht.mono k1 zQ1) hk hf0 hfm (by omega) hks hpt
theorem NT.Sep.narrow{lo hi:Nat}{n:NT}(h:n.Sep lo hi){w:World}{l u:Nat}(hin:n.In w l u):n.In w lo hi:=by
 induction h with
 | mk n lo a m hi f h1 h2 hp ht hk hf0 hfm hfh hks hpt ih =>
  have hmono:=mono_of hfm;have h0n:=hmono n.ks.length zQ1 0 (Nat.zero_le _);rw[NT.In_iff] at hin ⊢;refine⟨RowIn.narrow hin.1 (hp.mono zQ1 (by omega)),⟨RowIn.narrow hin.2.1.1 (ht.mono zQ1 (by omega)),hin.2.1.2⟩,RowIn.narrow hin.2.2.1 (hk.mono (by omega) (by omega)),fun k hk'=>?_⟩;obtain⟨i,hi',rfl⟩:=List.getElem_of_mem hk';have e:n.ks.getD i default=n.ks[i]:=by simp[List.getD,List.getElem?_eq_getElem hi']
  have:=ih i hi' (by rw[e];exact hin.2.2.2 _ hk');rw[e] at this;have a1:=hmono i (by omega) 0 (Nat.zero_le _);have a2:=hmono n.ks.length zQ1 (i+1) (by omega);exact this.mono (by omega) (by omega)
end Go.Proofs.YtbhbekocmpmjfaaGreatDoor
