/- slices.Insert of one node: the contract, on cells. -/
import Derived.Test.YtccobobnmpafbaaGreatDoorK16
import Derived.Lib.AppendZerosOnto
import Derived.Lib.SliceRun
import Derived.Lib.JoinLaws
import Derived.Lib.Overlaps
import Derived.Laws.Externs
import Derived.Laws.IdiomCopy
import Derived.Deep.AppendSrc
import Derived.Deep.RegionLaw
import Derived.Shelf.RegionOpenPlain
import Derived.Laws.EntriesVeiled
set_option maxRecDepth 100000
set_option maxHeartbeats 100000000
namespace Go.Proofs.YtccobobnmpafbaaGreatDoor
open Go Go.RowKit
theorem wp_copy_runN(w:World){P:Program}{o:Oper}{a:Act}{K:Act->World->Prop}{Q:Exit->Act->World->Prop}(d s:Operand)(t t':TypeId)(ho:o.op=.call { callee:=.builtin .copy,args:=#[d,s],argTypes:=#[t,t'] })(v u:Value)(hd:a.eval d=v)(hs:a.eval s=u){v':Value}{w':World}(hr:(Builtin.copy_ #[t,t'] o.type #[v,u]).run P w=.ok v' w')(h:K (a.put o.dst v') w'):o.wp P a w K Q:=by
 unfold Oper.wp execOp;simp only[ho,resolve,invoke,builtin,Sem.run_bind,Sem.run_pure,Result.andThen_ok,List.map_toArray,List.map_cons,List.map_nil,hd,hs,hr];exact h
theorem wpList_copy_runN(w:World){P:Program}{ops:Array Oper}{rest:List Oper}{o:Oper}{a:Act}{Q:Exit->Act->World->Prop}(hgd:o.guard=none)(d s:Operand)(t t':TypeId)(ho:o.op=.call { callee:=.builtin .copy,args:=#[d,s],argTypes:=#[t,t'] })(v u:Value)(hd:a.eval d=v)(hs:a.eval s=u){v':Value}{w':World}(hr:(Builtin.copy_ #[t,t'] o.type #[v,u]).run P w=.ok v' w')(h:wpList P ops Q rest (a.put o.dst v') w'):wpList P ops Q (o::rest) a w :=
 wpList_plain hgd fun _ hK=>wp_copy_runN w d s t t' ho v u hd hs hr (hK _ _ h)
theorem step_copy_runN{P:Program}{ops:Array Oper}{o:Oper}{a:Act}{w:World}{K:Act->World->Prop}{Q:Exit->Act->World->Prop}{E:Prop}(hg:o.guard=none)(d x:Operand)(dT sT:TypeId)(hop:o.op=Op.call { callee:=Callee.builtin Builtin.copy,args:=#[d,x],argTypes:=#[dT,sT] })(v u:Value)(hd:a.eval d=v)(hx:a.eval x=u){v':Value}{w':World}(hr:(Builtin.copy_ #[dT,sT] o.type #[v,u]).run P w=.ok v' w')(hK:K (a.put o.dst v') w') :
  if Region.wanted o (yielded ops a.tmps)=true then Oper.wp P o a w K Q else E:=by
 have hw:Region.wanted o (yielded ops a.tmps)=true:=by simp[Region.wanted,hg]
 rw[if_pos hw];exact wp_copy_runN w d x dT sT hop v u hd hx hr hK
theorem zcE{P:Program}(w:World)(dT sT ty elem:TypeId)(k b o dLen dCap:Nat)(a:Addr)(sLen sCap:Nat)(cs:List Value)(hu:P.underlying dT=some (.slice elem))(hs:(P.info? elem).map (·.size)=some k)(hn:cs.length=Nat.min sLen dLen * k)(hsrc:∀ j v,cs[j]? = some v->w.cell? (a.add j)=some v)(hc:∀ j,j < cs.length->(w.cell? ⟨b,o+j,none⟩).isSome=true)(hf:∀ j,j < cs.length->w.frozen? ⟨b,o+j,none⟩=false)(h1:∀ v∈cs,v.oneCell'=true) :
  (Builtin.copy_ #[dT,sT] ty #[.slice (some ⟨b,o,none⟩) dLen dCap,.slice (some a) sLen sCap]).run P w=.ok (goInt (Nat.min sLen dLen)) (w.setCells b o cs):=by
 have hl:=run_loadCells_list (P:=P) w a cs hsrc;have hst:=run_storeCells_cells (P:=P) b o cs 0 w (by simpa using hc) (by simpa using hf) h1
 cases hq:P.info? elem with
 | none=>simp[hq] at hs
 | some i =>
  have hi:i.size=k:=by simpa [hq] using hs
  simp[Builtin.copy_,run_underlying hu,Builtin.lenOf,Builtin.firstCells,sizeOf,typeInfo,hq,hi,<- hn,hl,hst]
theorem zbv(b:Nat)(vs:List Value)(o:Nat)(w:World)(h:∀ j,j < vs.length->(w.cell? ⟨b,o+j,none⟩).isSome=true)(k:Nat)(hk:(w.cell? ⟨b,k,none⟩).isSome=true):((w.setCells b o vs).cell? ⟨b,k,none⟩).isSome=true:=by
 by_cases hin:o<=k/\k < o+vs.length
 ·have:=World.cell?_setCells_in b vs o w h (k - o) (by omega);rw[show o+(k - o)=k by omega] at this;rw[this];rfl
 ·rw[World.cell?_setCells_out b vs o w ⟨b,k,none⟩ (fun _ _=>by show k < o\/o+vs.length<=k;omega)];exact hk
theorem zax{b o:Nat}{vs:List Value}{w:World}(h:∀ j,j < vs.length->(w.cell? ⟨b,o+j,none⟩).isSome=true){q:Nat}(h1:o<=q)(h2:q < o+vs.length):(w.setCells b o vs).cell? ⟨b,q,none⟩=vs[q - o]?:=by
 have:=World.cell?_setCells_in b vs o w h (q - o) (by omega);rw[show o+(q - o)=q by omega] at this;rw[this,List.getElem?_eq_getElem (by omega)]
theorem zay{b o:Nat}{vs:List Value}{w:World}{q:Nat}(h:q < o\/o+vs.length<=q):(w.setCells b o vs).cell? ⟨b,q,none⟩=w.cell? ⟨b,q,none⟩ :=
 World.cell?_setCells_out b vs o w ⟨b,q,none⟩ (fun _ _=>by show q < o\/o+vs.length<=q;omega)
theorem put_in{W:World}{g I n:Nat}{cs vs:List Value}(hcl:cs.length=n)(hvl:vs.length=4)(hI:I<=n)(hsome:∀ q,q < n+4->(W.cell? ⟨g,q,none⟩).isSome=true)(hlow:∀ q,q < I->W.cell? ⟨g,q,none⟩=cs[q]?) :
  ∀ q,q < n+4->((W.setCells g (I+4) (cs.drop I)).setCells g I vs).cell? ⟨g,q,none⟩=(cs.take I++vs++cs.drop I)[q]?:=by
 intro q hq;have hdl:(cs.drop I).length=n - I:=by rw[List.length_drop,hcl]
 have htl:(cs.take I).length=I:=by rw[List.length_take,hcl];omega
 have hs1:∀ q,q < n+4->((W.setCells g (I+4) (cs.drop I)).cell? ⟨g,q,none⟩).isSome=true:=fun q hq=>zbv g _ _ _ (fun j hj=>hsome _ (by omega)) _ (hsome q hq)
 rcases Nat.lt_or_ge q I with h | h
 ·rw[zay (by omega),zay (by omega),hlow q h,List.append_assoc,List.getElem?_append_left (by omega),List.getElem?_take,if_pos h]
 ·rcases Nat.lt_or_ge q (I+4) with h2 | h2
  ·rw[zax (fun j hj=>hs1 _ (by omega)) h (by omega),List.append_assoc,List.getElem?_append_right (by omega),htl,List.getElem?_append_left (by omega)]
  ·rw[zay (by omega),zax (fun j hj=>hsome _ (by omega)) h2 (by omega),List.getElem?_append_right (by rw[List.length_append];omega),List.length_append,htl,hvl]
theorem put_new{W:World}{g I n:Nat}{cs vs:List Value}(hcl:cs.length=n)(hvl:vs.length=4)(hI:I<=n)(hsome:∀ q,q < n+4->(W.cell? ⟨g,q,none⟩).isSome=true)(hlow:∀ q,q < I->W.cell? ⟨g,q,none⟩=cs[q]?) :
  ∀ q,q < n+4->((W.setCells g I vs).setCells g (I+4) (cs.drop I)).cell? ⟨g,q,none⟩=(cs.take I++vs++cs.drop I)[q]?:=by
 intro q hq;have hdl:(cs.drop I).length=n - I:=by rw[List.length_drop,hcl]
 have htl:(cs.take I).length=I:=by rw[List.length_take,hcl];omega
 have hs1:∀ q,q < n+4->((W.setCells g I vs).cell? ⟨g,q,none⟩).isSome=true:=fun q hq=>zbv g _ _ _ (fun j hj=>hsome _ (by omega)) _ (hsome q hq)
 rcases Nat.lt_or_ge q I with h | h
 ·rw[zay (by omega),zay (by omega),hlow q h,List.append_assoc,List.getElem?_append_left (by omega),List.getElem?_take,if_pos h]
 ·rcases Nat.lt_or_ge q (I+4) with h2 | h2
  ·rw[zay (by omega),zax (fun j hj=>hsome _ (by omega)) h (by omega),List.append_assoc,List.getElem?_append_right (by omega),htl,List.getElem?_append_left (by omega)]
  ·rw[zax (fun j hj=>hs1 _ (by omega)) h2 (by omega),List.getElem?_append_right (by rw[List.length_append];omega),List.length_append,htl,hvl]
def InsEnds(b n:Nat)(rs:List Value)(w:World)(e:Ending)(w':World):Prop :=
 ∃ g cap,e=.returned (.slice (some ⟨g,0,none⟩) (n+1) cap)/\n+1<=cap/\cap<=maxLen/\(g=b\/w.heap.size<=g)/\g < w'.heap.size/\Keeps (·=b) w w'/\∀ q,q < (n+1) * 4->w'.cell? ⟨g,q,none⟩=rs[q]?
theorem InsEnds.drew{b n:Nat}{rs:List Value}{w w':World}{e:Ending}(h:InsEnds b n rs w e w'):InsEnds b n rs w e w'.drew:=by
 obtain⟨g,cap,h1,h2,h3,h4,h5,h6,h7⟩:=h;exact⟨g,cap,h1,h2,h3,h4,h5,h6.drew,h7⟩
theorem drew_setN(g:Nat):∀(vs:List Value) (o:Nat) (w:World),w.drew.setCells g o vs=(w.setCells g o vs).drew
 | [],_,_=>rfl
 | v::r,o,w=>by
  rw[World.setCells,World.setCells,<- drew_setN g r]
  rfl
theorem zbo:(Tryz.prog.info? 26).map (fun i=>(i.zero,i.size,i.bytes))=some (some (.agg #[.bool false,.slice none 0 0,.slice none 0 0,.slice none 0 0]),4,80):=by kernel_rfl
theorem wpList_append_roomN{P:Program}{ops:Array Oper}{rest:List Oper}{o:Oper}{a:Act}{w:World}{Q:Exit->Act->World->Prop}(hg:o.guard=none)(s x:Operand)(t:TypeId)(hop:o.op=Op.call { callee:=Callee.builtin Builtin.append,args:=#[s,x],argTypes:=#[t,t] })(dst:Option Tmp)(hdst:o.dst=dst)(e:TypeId)(i:TypeInfo)(size:Nat)(h1:P.underlying t=some (.slice e))(h2:P.info? e=some i)(h4:i.size=size)(b off n cap:Nat)(hs:a.eval s=.slice (some ⟨b,off,none⟩) n cap)(ad:Addr)(m c:Nat)(news:List Value)(hx:a.eval x=.slice (some ad) m c)(hn:news.length=m * size)(hc:∀ j u,news[j]? = some u->w.cell? (ad.add j)=some u)(h1c:∀ u∈news,u.oneCell'=true)(hroom:n+m<=cap)(hspare:∀ j,j < news.length->(w.cell? ⟨b,off+n * size+j,none⟩).isSome=true/\w.frozen? ⟨b,off+n * size+j,none⟩=false)(hK:wpList P ops Q rest (a.put dst (.slice (some ⟨b,off,none⟩) (n+m) cap)) (w.setCells b (off+n * size) news)):wpList P ops Q (o::rest) a w:=by
 subst hdst;refine wpList_plain hg fun _ hQ=>?_;have h:=step_append_room (P:=P) (ops:=#[]) (Q:=Q) (E:=True) (o:=o) (a:=a) hg s x t hop e i size h1 h2 h4 b off n cap hs ad m c news hx hn hc h1c hroom hspare (hQ _ _ hK);rw[if_pos (by simp[Region.wanted,hg])] at h;exact h
theorem addr0(b o j:Nat):(⟨b,o,none⟩:Addr).add j=⟨b,o+j,none⟩:=by simp[Addr.add]
/-- at the end,no room -/
theorem insEnd_grow (base:Option Addr) (n c vb:Nat) (cs vs:List Value) (w:World) (hnc:n<=c) (hroom:c < n+1) (hn:n<=1048576) (hcl:cs.length=n * 4) (hvl:vs.length=4) (hnil:base=none->n=0)
  (hcs:∀ a,base=some a->∀ j v,cs[j]? = some v->w.cell? (a.add j)=some v) (hvs:∀ j v,vs[j]? = some v->w.cell? ⟨vb,j,none⟩=some v) (h1v:∀ v∈vs,v.oneCell'=true) :
  Calls Tryz.prog 118 #[.slice base n c,.int .i64 n,.slice (some ⟨vb,0,none⟩) 1 1] w (InsEnds w.heap.size n (cs++vs) w):=by
 obtain⟨i0,hi0,hz0,hzs,hzb⟩:=info_parts zbo;have hz1:((n:Int) == n)=true:=by simp
 have hsrc:Src Tryz.prog i0.size 24 (.slice (some ⟨vb,0,none⟩) 1 1) 1 vs w:=by
  rw[hzs];exact Src.ofSlice w Tryz.underlying24 ⟨vb,0,none⟩ 1 1 vs (by omega) (fun j u hj=>by rw[addr0,Nat.zero_add];exact hvs j u hj) h1v
 have hold:(Builtin.firstCells i0.size n (.slice base n c)).run Tryz.prog w.drew=.ok cs.toArray w.drew:=by
  rw[hzs]
  cases base with
  | none =>
   have h0:=hnil rfl;subst h0;rw[List.length_eq_zero_iff.1 (by omega:cs.length=0)];exact run_firstCells_none w.drew 4 0 0 c
  | some a =>
   exact run_firstCells_some w.drew 4 n a n c cs hcl (fun j v hj=>hcs a rfl j v hj)
 have hrun:∀ ty,(Builtin.append_ #[24,24] ty #[.slice base n c,.slice (some ⟨vb,0,none⟩) 1 1]).run Tryz.prog w=_:=fun ty =>
  run_append_grow_src w 24 24 ty 26 i0 _ Tryz.underlying24 hi0 hz0 base n c cs hold _ 1 vs hsrc hroom (by omega) (by rw[hzb];exact growslice_fits hroom (by omega))
 have hG1:n+1<=grownCap w (n+1) c 26:=grownCap_ge w _ _ _;have hG2:=grownCap_le_maxLen w (n+1) c 26 (by unfold maxLen;omega)
 have HF:Hid (InsEnds w.heap.size n (cs++vs) w (.returned (.slice (some ⟨w.heap.size,0,none⟩) (n+1) (grownCap w (n+1) c 26))) (w.drew.alloc (.cells ((cs++vs).toArray++Builtin.zeroCells (Value.cells (.agg #[.bool false,.slice none 0 0,.slice none 0 0,.slice none 0 0])) (grownCap w (n+1) c 26 - (n+1))) 26))):=by
  refine⟨_,_,rfl,hG1,hG2,.inl rfl,by simp,((Grew.refl w).drew.alloc _).keeps _,fun q hq=>?_⟩;have hl:(cs++vs).length=(n+1) * 4:=by rw[List.length_append];omega
  have h2:=World.cell?_alloc_at (w:=w.drew) ((cs++vs).toArray++Builtin.zeroCells (Value.cells (.agg #[.bool false,.slice none 0 0,.slice none 0 0,.slice none 0 0])) (grownCap w (n+1) c 26 - (n+1))) 26 w.heap.size q rfl;rw[h2,Array.getElem?_append_left (by simpa using (by omega:q < (cs++vs).length))]
  simp
 generalize grownCap w (n+1) c 26=G at *;clear hcs hvs hsrc hold
 go_enter Tryz.func118,Tryz.ntmps118
 cases base with
 | none =>
  have h0:=hnil rfl;subst h0
  go_wp2_with (at_builtin;refine Lib.wpList_append_run _ rfl _ _ _ _ rfl _ _ rfl rfl _ _ (hrun _) ?_)
  go_ret
  exact HF.out
 | some a =>
  obtain⟨ab,ao,asp⟩:=a
  go_wp2_with (at_builtin;refine Lib.wpList_append_run _ rfl _ _ _ _ rfl _ _ rfl rfl _ _ (hrun _) ?_)
  all_goals (go_ret;exact HF.out)
/-- at the end,room -/
theorem insEnd_room (b n c vb:Nat) (cs vs:List Value) (w:World) (hroom:n+1<=c) (hcm:c<=maxLen) (hcl:cs.length=n * 4) (hvl:vs.length=4) (hbs:b < w.heap.size)
  (hcs:∀ q,q < n * 4->w.cell? ⟨b,q,none⟩=cs[q]?) (hsp:∀ q,q < c * 4->(w.cell? ⟨b,q,none⟩).isSome=true) (hfz:∀ q,w.frozen? ⟨b,q,none⟩=false) (hvs:∀ j v,vs[j]? = some v->w.cell? ⟨vb,j,none⟩=some v) (h1v:∀ v∈vs,v.oneCell'=true) :
  Calls Tryz.prog 118 #[.slice (some ⟨b,0,none⟩) n c,.int .i64 n,.slice (some ⟨vb,0,none⟩) 1 1] w (InsEnds b n (cs++vs) w):=by
 obtain⟨i0,hi0,hz0,hzs,hzb⟩:=info_parts zbo;have hz1:((n:Int) == n)=true:=by simp
 have hk:=zcM b vs (n * 4) w
 have HF:Hid (InsEnds b n (cs++vs) w (.returned (.slice (some ⟨b,0,none⟩) (n+1) c)) (w.setCells b (n * 4) vs)):=by
  refine⟨_,_,rfl,hroom,hcm,.inl rfl,Nat.lt_of_lt_of_le hbs hk.size,hk,fun q hq=>?_⟩
  rcases Nat.lt_or_ge q (n * 4) with h | h
  ·rw[zay (by omega),hcs q h,List.getElem?_append_left (by omega)]
  ·rw[zax (fun j hj=>hsp _ (by omega)) h (by omega),List.getElem?_append_right (by omega),hcl]
 have HSP:=zQ0 (fun j (hj:j < vs.length)=>(⟨hsp (0+n * 4+j) (by omega),hfz _⟩:(w.cell? ⟨b,0+n * 4+j,none⟩).isSome=true/\w.frozen? ⟨b,0+n * 4+j,none⟩=false));have HV:=zQ0 (fun j u (hj:vs[j]? = some u)=>(by rw[addr0,Nat.zero_add];exact hvs j u hj:w.cell? ((⟨vb,0,none⟩:Addr).add j)=some u));have HVL:=zQ0 hvl;have H1V:=zQ0 h1v;unfold maxLen at hcm;have hcm2:(c:Int)<=9223372036854775807:=by omega
 clear hk hcs hsp hfz hvs hvl h1v
 go_enter Tryz.func118,Tryz.ntmps118
 go_wp2_with (at_builtin;refine wpList_append_roomN rfl (.tmp 23) (.tmp 24) 24 rfl (some 25) rfl 26 i0 4 Tryz.underlying24 hi0 hzs b 0 n c rfl ⟨vb,0,none⟩ 1 1 vs rfl (by have:=HVL.out;omega) HV.out H1V.out hroom HSP.out ?_)
 go_ret
 exact HF.out
/-- ahead of the end,room: in place -/
theorem insMid_room (b n c i vb:Nat) (cs vs:List Value) (w:World) (hi:i < n) (hroom:n+1<=c) (hcm:c<=maxLen) (hn:n<=1048576) (hcl:cs.length=n * 4) (hvl:vs.length=4) (hbs:b < w.heap.size) (hvb:vb≠b)
  (hcs:∀ q,q < n * 4->w.cell? ⟨b,q,none⟩=cs[q]?) (hsp:∀ q,q < c * 4->(w.cell? ⟨b,q,none⟩).isSome=true) (hfz:∀ q,w.frozen? ⟨b,q,none⟩=false) (hvs:∀ j v,vs[j]? = some v->w.cell? ⟨vb,j,none⟩=some v) (h1c:∀ v∈cs,v.oneCell'=true) (h1v:∀ v∈vs,v.oneCell'=true)
  (kA kB:Nat) (tA tB:TypeId) (hsa:w.shape? vb=some (tA,kA)) (hsb:w.shape? b=some (tB,kB)) (hkB:kB≠0) (hfa:∀ q,w.frozen? ⟨vb,q,none⟩=false) :
  Calls Tryz.prog 118 #[.slice (some ⟨b,0,none⟩) n c,.int .i64 i,.slice (some ⟨vb,0,none⟩) 1 1] w (InsEnds b n (cs.take (i * 4)++vs++cs.drop (i * 4)) w):=by
 have hz2:((i:Int) == n)=false:=beq_eq_false_iff_ne.2 (by omega);have hsz:(Tryz.prog.info? 26).map (·.size)=some 4:=zbm
 have z9:∀ w,(Go.sizeOf 26).run Tryz.prog w=.ok 4 w:=fun w=>by
  obtain⟨i0,hi0,hz0,hzs,hzb⟩:=info_parts zbo
  simp[Go.sizeOf,typeInfo,hi0,hzs]
 have hov:∀ lb cb,(callFunc 152 #[.slice (some ⟨vb,0,none⟩) 1 1,.slice (some ⟨b,(i+1) * 4,none⟩) lb cb]).run Tryz.prog w=.ok (.value (.bool false)) w:=fun lb cb=>by
  rw[run_callFunc_extern Tryz.func152 (by kernel_rfl) (by kernel_rfl) (by kernel_rfl) (e:=Extern.SlicesOverlaps.overlaps #[24,24] #[4]) (by kernel_rfl),
   Lib.run_overlaps_apart w 24 4 26 Tryz.underlying24 4 z9 ⟨vb,0,none⟩ ⟨b,(i+1) * 4,none⟩ 1 1 lb cb hvb tA tB kA kB hsa hsb hkB (hfa 0) (hfa kA)]
  rfl
 have hdl:(cs.drop (i * 4)).length=(n - i) * 4:=by rw[List.length_drop,hcl];omega
 have hw1:IntKind.i64.wrap ((i:Int)+1)=(i:Int)+1:=by rw[IntKind.wrap_i64];omega
 have hw2:IntKind.i64.wrap ((n:Int)+1)=(n:Int)+1:=by rw[IntKind.wrap_i64];omega
 have hb1:(0:Int)<=(i:Int)+1:=by omega
 have hb0:(0:Int)<=i:=by omega
 have hb6:(0:Int)<=(n:Int)+1:=by omega
 have hb7:(n:Int)+1<=c:=by omega
 have hb8:¬ ((c:Int) < (n:Int)+1):=by omega
 have hin:(i:Int)<=n:=by omega
 have htn:((i:Int)+1).toNat=i+1:=by omega
 have htn2:((n:Int)+1).toNat=n+1:=by omega
 have hb2:¬ (c=i+1):=by omega
 have hb3:(i:Int)<=(n:Int)+1:=by omega
 have hb9:(i:Int)+1<=(n:Int)+1:=by omega
 have hb4:¬ (c=i):=by omega
 have hcp1:∀ ty dl dc sl sc,Nat.min sl dl=n - i->(Builtin.copy_ #[24,24] ty #[.slice (some ⟨b,(i+1) * 4,none⟩) dl dc,.slice (some ⟨b,i * 4,none⟩) sl sc]).run Tryz.prog w.drew=.ok (goInt (Nat.min sl dl)) (w.drew.setCells b ((i+1) * 4) (cs.drop (i * 4))):=fun ty dl dc sl sc hm =>
  zcE w.drew _ _ ty 26 4 b ((i+1) * 4) dl dc ⟨b,i * 4,none⟩ sl sc (cs.drop (i * 4)) Tryz.underlying24 hsz (by rw[hdl,hm])
   (fun j v hj=>by
    rw[List.getElem?_drop] at hj;rw[addr0];have hlt:=(List.getElem?_eq_some_iff.1 hj).1
    exact (hcs (i * 4+j) (by omega)).trans hj)
   (fun j hj=>hsp _ (by omega)) (fun j hj=>hfz _) (fun v hv=>h1c v (List.mem_of_mem_drop hv))
 have hW1:∀ q,q < (n+1) * 4->((w.drew.setCells b ((i+1) * 4) (cs.drop (i * 4))).cell? ⟨b,q,none⟩).isSome=true:=fun q hq=>zbv b _ _ w.drew (fun j hj=>hsp _ (by omega)) _ (hsp q (by omega))
 have hcp2:∀ ty dl dc,Nat.min 1 dl=1->(Builtin.copy_ #[24,24] ty #[.slice (some ⟨b,i * 4,none⟩) dl dc,.slice (some ⟨vb,0,none⟩) 1 1]).run Tryz.prog (w.drew.setCells b ((i+1) * 4) (cs.drop (i * 4)))=.ok (goInt (Nat.min 1 dl)) ((w.drew.setCells b ((i+1) * 4) (cs.drop (i * 4))).setCells b (i * 4) vs):=fun ty dl dc hm =>
  zcE _ _ _ ty 26 4 b (i * 4) dl dc ⟨vb,0,none⟩ 1 1 vs Tryz.underlying24 hsz (by rw[hvl,hm])
   (fun j v hj=>by
    rw[addr0,Nat.zero_add,World.cell?_setCells_out b _ _ _ _ (fun h _=>absurd h hvb)]
    exact hvs j v hj)
   (fun j hj=>hW1 _ (by omega)) (fun j hj=>by rw[World.frozen?_setCells];exact hfz _) h1v
 have HF:Hid (InsEnds b n (cs.take (i * 4)++vs++cs.drop (i * 4)) w (.returned (.slice (some ⟨b,0,none⟩) (n+1) c)) ((w.drew.setCells b ((i+1) * 4) (cs.drop (i * 4))).setCells b (i * 4) vs)):=by
  have k1:=((Grew.refl w).drew.keeps (·=b)).trans ((zcM b (cs.drop (i * 4)) ((i+1) * 4) w.drew).trans (zcM b vs (i * 4) _));refine⟨b,c,rfl,hroom,hcm,.inl rfl,Nat.lt_of_lt_of_le hbs k1.size,k1,fun q hq=>?_⟩;have:=put_in (W:=w.drew) (g:=b) (I:=i * 4) (n:=n * 4) hcl hvl (by omega) (fun q hq=>hsp q (by omega)) (fun q hq=>hcs q (by omega)) q (by omega);rw[show i * 4+4=(i+1) * 4 by omega] at this;exact this
 generalize cs.take (i * 4)++vs++cs.drop (i * 4)=rs at *;generalize cs.drop (i * 4)=tl at *;clear hcs hsp hfz hvs hvl h1v hcl h1c hsa hsb hfa hW1 hsz z9;unfold maxLen at hcm;have hcm2:(c:Int)<=9223372036854775807:=by omega
 go_enter Tryz.func118,Tryz.ntmps118
 have mixed:Tryz.prog.follows Departure.mixedOrders=true:=by kernel_rfl
 go_wp2_with (simp only[hov])
 have HC1:=hcp1 3 (n - i) (c - (i+1)) (n+1 - i) (c - i) (by show min _ _=_;omega);have HC2:=hcp2 3 (n+1 - i) (c - i) (by show min _ _=_;omega)
 go_region_law_o (refine step_copy_runN rfl _ _ 24 24 rfl (.slice (some ⟨b,(i+1) * 4,none⟩) (n - i) (c - (i+1))) (.slice (some ⟨b,i * 4,none⟩) (n+1 - i) (c - i)) (by simp[Act.eval,Act.put]) (by simp[Act.eval,Act.put]) HC1 ?_)
 go_wp2_with (at_builtin;refine wpList_copy_runN _ rfl _ _ 24 24 rfl _ _ rfl rfl HC2 ?_)
 go_ret
 exact HF.out
/-- ahead of the end,no room: a new row -/
theorem insMid_grow (b n c i vb:Nat) (cs vs:List Value) (w:World) (hi:i < n) (hnc:n<=c) (hroom:c < n+1) (hn:n<=1048576) (hcl:cs.length=n * 4) (hvl:vs.length=4) (hbs:b < w.heap.size) (hvw:vb < w.heap.size)
  (hcs:∀ q,q < n * 4->w.cell? ⟨b,q,none⟩=cs[q]?) (hvs:∀ j v,vs[j]? = some v->w.cell? ⟨vb,j,none⟩=some v) (h1c:∀ v∈cs,v.oneCell'=true) (h1v:∀ v∈vs,v.oneCell'=true) :
  Calls Tryz.prog 118 #[.slice (some ⟨b,0,none⟩) n c,.int .i64 i,.slice (some ⟨vb,0,none⟩) 1 1] w (InsEnds w.heap.size n (cs.take (i * 4)++vs++cs.drop (i * 4)) w):=by
 obtain⟨i0,hi0,hz0,hzs,hzb⟩:=info_parts zbo;have hz2:((i:Int) == n)=false:=beq_eq_false_iff_ne.2 (by omega);have hsz:(Tryz.prog.info? 26).map (·.size)=some 4:=zbm;have hdl:(cs.drop (i * 4)).length=(n - i) * 4:=by rw[List.length_drop,hcl];omega
 have htl:(cs.take (i * 4)).length=i * 4:=by rw[List.length_take,hcl];omega
 have hkk:(n:Int)+1 - (i:Int)=((n+1 - i:Nat):Int):=by omega
 have hik:i+(n+1 - i)=n+1:=by omega
 have hold:(Builtin.firstCells i0.size i (.slice (some ⟨b,0,none⟩) i c)).run Tryz.prog w.drew=.ok (cs.take (i * 4)).toArray w.drew:=by
  rw[hzs]
  exact run_firstCells_some w.drew 4 i ⟨b,0,none⟩ i c (cs.take (i * 4)) htl (fun j v hj=>by
   rw[addr0,Nat.zero_add];have hlt:=(List.getElem?_eq_some_iff.1 hj).1;rw[List.getElem?_take] at hj
   split at hj
   ·exact (hcs j (by omega)).trans hj
   ·cases hj)
 have hG1:n+1<=grownCap w (n+1) c 26:=grownCap_ge w _ _ _;have hG2:=grownCap_le_maxLen w (n+1) c 26 (by unfold maxLen;omega)
 have hrz:∀ ty,(Builtin.append_ #[24,3] ty #[.slice (some ⟨b,0,none⟩) i c,.int .i64 ((n:Int)+1 - (i:Int))]).run Tryz.prog w =
   .ok (.slice (some ⟨w.heap.size,0,none⟩) (n+1) (grownCap w (n+1) c 26)) (w.drew.alloc (.cells ((cs.take (i * 4)).toArray++Builtin.zeroCells (Value.agg #[.bool false,.slice none 0 0,.slice none 0 0,.slice none 0 0]).cells (n+1 - i)++Builtin.zeroCells (Value.agg #[.bool false,.slice none 0 0,.slice none 0 0,.slice none 0 0]).cells (grownCap w (n+1) c 26 - (n+1))) 26)):=fun ty=>by
  have h:=Lib.run_append_grow_zeros w 24 3 ty 26 i0 _ .i64 .i64 Tryz.underlying24 Tryz.underlying3 hi0 hz0 (some ⟨b,0,none⟩) i c (cs.take (i * 4)) hold (n+1 - i) (by omega) (by omega) (by omega) (by omega) (by rw[hzb];omega) (by rw[hzb,hik];exact growslice_fits hroom (by omega));rw[hik] at h;rw[hkk];exact h
 generalize grownCap w (n+1) c 26=G at *;obtain⟨ROW,hROW⟩:∃ ROW:Array Value,ROW=(cs.take (i * 4)).toArray++Builtin.zeroCells (Value.agg #[.bool false,.slice none 0 0,.slice none 0 0,.slice none 0 0]).cells (n+1 - i)++Builtin.zeroCells (Value.agg #[.bool false,.slice none 0 0,.slice none 0 0,.slice none 0 0]).cells (G - (n+1)):=⟨_,rfl⟩
 rw[<- hROW] at hrz
 have hRl:(n+1) * 4<=ROW.size:=by
  rw[hROW];simp only[Array.size_append,List.size_toArray,htl,size_zeroCells];have:(Value.agg #[.bool false,.slice none 0 0,.slice none 0 0,.slice none 0 0]).cells.size=4:=rfl;rw[this];omega
 have hRc:∀ q,q < i * 4->ROW[q]? = cs[q]?:=fun q hq=>by
  rw[hROW,Array.append_assoc,Array.getElem?_append_left (by simpa [htl] using hq)];rw[List.getElem?_toArray,List.getElem?_take,if_pos hq]
 have hNe:∀ q,(w.drew.alloc (.cells ROW 26)).cell? ⟨w.heap.size,q,none⟩=ROW[q]?:=fun q=>World.cell?_alloc_at (w:=w.drew) ROW _ w.heap.size q rfl
 have hN:∀ q,q < (n+1) * 4->((w.drew.alloc (.cells ROW 26)).cell? ⟨w.heap.size,q,none⟩).isSome=true:=fun q hq=>by
  rw[hNe,Array.getElem?_eq_getElem (by omega)];rfl
 have hNf:∀ q,(w.drew.alloc (.cells ROW 26)).frozen? ⟨w.heap.size,q,none⟩=false:=fun q=>World.frozen?_alloc_at (w:=w.drew) ROW _ w.heap.size q rfl;have hOb:∀ x q,x < w.heap.size->(w.drew.alloc (.cells ROW 26)).cell? ⟨x,q,none⟩=w.cell? ⟨x,q,none⟩:=fun x q hx=>World.cell?_alloc_past (w:=w.drew) _ x q hx;obtain⟨W1,hW1⟩:∃ W1,W1=w.drew.alloc (.cells ROW 26):=⟨_,rfl⟩
 have g1:Grew w W1:=by rw[hW1];exact (Grew.refl w).drew.alloc _
 have hz1:W1.heap.size=w.heap.size+1:=by rw[hW1];simp
 rw[<- hW1] at hrz hNe hN hNf hOb;have hm1:Nat.min 1 (n+1 - i)=1:=by show min _ _=_;omega
 have hm2:Nat.min (n - i) (n - i)=n - i:=by show min _ _=_;omega
 have hcpA:∀(W:World),(∀ x,W.cell? x=W1.cell? x)->(∀ x,W.frozen? x=W1.frozen? x)->(Builtin.copy_ #[24,24] 3 #[.slice (some ⟨w.heap.size,i * 4,none⟩) (n+1 - i) (G - i),.slice (some ⟨vb,0,none⟩) 1 1]).run Tryz.prog W=.ok (goInt (Nat.min 1 (n+1 - i))) (W.setCells w.heap.size (i * 4) vs):=fun W hWc hWf =>
  zcE W _ _ _ 26 4 w.heap.size (i * 4) (n+1 - i) (G - i) ⟨vb,0,none⟩ 1 1 vs Tryz.underlying24 hsz (by rw[hvl,hm1])
   (fun j v hj=>by rw[addr0,Nat.zero_add,hWc,hOb _ _ hvw];exact hvs j v hj)
   (fun j hj=>by rw[hWc];exact hN _ (by omega)) (fun j hj=>by rw[hWf];exact hNf _) h1v
 have hcpB:∀(W:World),(∀ x,W.cell? x=(W1.setCells w.heap.size (i * 4) vs).cell? x)->(∀ x,W.frozen? x=(W1.setCells w.heap.size (i * 4) vs).frozen? x)->(Builtin.copy_ #[24,24] 3 #[.slice (some ⟨w.heap.size,(i+1) * 4,none⟩) (n - i) (G - (i+1)),.slice (some ⟨b,i * 4,none⟩) (n - i) (c - i)]).run Tryz.prog W=.ok (goInt (Nat.min (n - i) (n - i))) (W.setCells w.heap.size ((i+1) * 4) (cs.drop (i * 4))):=fun W hWc hWf =>
  zcE W _ _ _ 26 4 w.heap.size ((i+1) * 4) (n - i) (G - (i+1)) ⟨b,i * 4,none⟩ (n - i) (c - i) (cs.drop (i * 4)) Tryz.underlying24 hsz (by rw[hdl,hm2])
   (fun j v hj=>by
    have hlt:=(List.getElem?_eq_some_iff.1 hj).1;rw[List.getElem?_drop] at hj;rw[addr0,hWc,World.cell?_setCells_out _ _ _ _ _ (fun h _=>absurd (show b=w.heap.size from h) (by omega)),hOb _ _ hbs]
    exact (hcs (i * 4+j) (by omega)).trans hj)
   (fun j hj=>by rw[hWc];exact zbv _ _ _ _ (fun t ht=>hN _ (by omega)) _ (hN _ (by omega)))
   (fun j hj=>by rw[hWf,World.frozen?_setCells];exact hNf _) (fun v hv=>h1c v (List.mem_of_mem_drop hv))
 have HF:Hid (InsEnds w.heap.size n (cs.take (i * 4)++vs++cs.drop (i * 4)) w (.returned (.slice (some ⟨w.heap.size,0,none⟩) (n+1) G)) ((W1.setCells w.heap.size (i * 4) vs).setCells w.heap.size ((i+1) * 4) (cs.drop (i * 4)))):=by
  have k1:=(g1.keeps (·=w.heap.size)).trans ((zcM w.heap.size vs (i * 4) W1).trans (zcM w.heap.size (cs.drop (i * 4)) ((i+1) * 4) _));have k2:=((zcM w.heap.size vs (i * 4) W1).trans (zcM w.heap.size (cs.drop (i * 4)) ((i+1) * 4) _)).size;refine⟨w.heap.size,G,rfl,hG1,hG2,.inl rfl,by omega,k1,fun q hq=>?_⟩;have:=put_new (W:=W1) (g:=w.heap.size) (I:=i * 4) (n:=n * 4) hcl hvl (by omega) (fun q hq=>hN q (by omega)) (fun q hq=>by rw[hNe,hRc q hq]) q (by omega);rw[show i * 4+4=(i+1) * 4 by omega] at this;exact this
 generalize cs.take (i * 4)++vs++cs.drop (i * 4)=rs at *;generalize cs.drop (i * 4)=tl at *;subst hW1;have hE1:∀ x,((w.alloc (.cells ROW 26)).drew).cell? x=(w.drew.alloc (.cells ROW 26)).cell? x:=fun x=>rfl;have hE2:∀ x,((w.alloc (.cells ROW 26)).drew).frozen? x=(w.drew.alloc (.cells ROW 26)).frozen? x:=fun x=>rfl;have hF1:∀ x,(((w.alloc (.cells ROW 26)).drew.setCells w.heap.size (i * 4) vs).drew).cell? x=((w.drew.alloc (.cells ROW 26)).setCells w.heap.size (i * 4) vs).cell? x:=fun x=>rfl;have hF2:∀ x,(((w.alloc (.cells ROW 26)).drew.setCells w.heap.size (i * 4) vs).drew).frozen? x=((w.drew.alloc (.cells ROW 26)).setCells w.heap.size (i * 4) vs).frozen? x:=fun x=>rfl;have HA:=hcpA _ hE1 hE2;have HB:=hcpB _ hF1 hF2;have hw1:IntKind.i64.wrap ((i:Int)+1)=(i:Int)+1:=by rw[IntKind.wrap_i64];omega
 have hw2:IntKind.i64.wrap ((n:Int)+1)=(n:Int)+1:=by rw[IntKind.wrap_i64];omega
 have hw3:IntKind.i64.wrap ((n:Int)+1 - (i:Int))=(n:Int)+1 - (i:Int):=by rw[IntKind.wrap_i64];omega
 have hb1:(0:Int)<=(i:Int)+1:=by omega
 have hb0:(0:Int)<=i:=by omega
 have hb8:(c:Int) < (n:Int)+1:=by omega
 have hin:(i:Int)<=n:=by omega
 have hic:(i:Int)<=c:=by omega
 have htn:((i:Int)+1).toNat=i+1:=by omega
 have hb2:¬ (G=i+1):=by omega
 have hb3:(i:Int)<=(n:Int)+1:=by omega
 have hb9:(i:Int)+1<=(n:Int)+1:=by omega
 have hb4:¬ (c=i):=by omega
 have hb5:¬ (G=i):=by omega
 unfold maxLen at hG2;have hcm2:(G:Int)<=9223372036854775807:=by omega
 have mixed:Tryz.prog.follows Departure.mixedOrders=true:=by kernel_rfl
 clear hcs hvs hvl h1v hcl h1c hsz hcpA hcpB hRc hNe hN hNf hOb g1 hz1 hROW hRl hold hdl htl hE1 hE2 hF1 hF2 hkk hik hm1 hm2
 go_enter Tryz.func118,Tryz.ntmps118
 go_wp2_with (first
  | (at_builtin;refine Lib.wpList_append_run _ rfl _ _ _ _ rfl _ _ rfl rfl _ _ (hrz _) ?_)
  | (at_builtin;refine wpList_copy_runN _ rfl _ _ 24 24 rfl _ _ rfl rfl HA ?_))
 go_region_law_o (refine step_copy_runN rfl _ _ 24 24 rfl (.slice (some ⟨w.heap.size,(i+1) * 4,none⟩) (n - i) (G - (i+1))) (.slice (some ⟨b,i * 4,none⟩) (n - i) (c - i)) (by simp[Act.eval,Act.put]) (by simp[Act.eval,Act.put]) HB ?_)
 go_wp2_with fail
 go_ret
 have e:=drew_setN w.heap.size tl ((i+1) * 4) ((w.alloc (.cells ROW 26)).drew.setCells w.heap.size (i * 4) vs);rw[e];exact HF.out.drew
theorem zaC(A B:List NT):zaB (A++B)=zaB A++zaB B:=by simp[zaB]
theorem cellsOfNodes_cons(m:NT)(B:List NT):zaB (m::B)=m.cells4++zaB B:=by simp[zaB,NT.cells4]
theorem zaG(ks:List NT)(i:Nat):(zaB ks).take (i * 4)=zaB (ks.take i)/\(zaB ks).drop (i * 4)=zaB (ks.drop i):=by
 rcases Nat.lt_or_ge i ks.length with h | h
 ·have e:zaB ks=zaB (ks.take i)++zaB (ks.drop i):=by rw[<- zaC,List.take_append_drop]
  have hl:(zaB (ks.take i)).length=i * 4:=by rw[zaE,List.length_take];omega
  constructor
  ·rw[e,List.take_append_of_le_length (by omega),List.take_of_length_le (by omega)]
  ·rw[e,List.drop_append_of_le_length (by omega),List.drop_of_length_le (by omega),List.nil_append]
 ·have hl:(zaB ks).length=ks.length * 4:=zaE ks;rw[List.take_of_length_le (by omega),List.drop_of_length_le (by omega),List.take_of_length_le h,List.drop_of_length_le h];exact⟨rfl,rfl⟩
theorem cellsOfNodes_ins(ks:List NT)(m:NT)(i:Nat):(zaB ks).take (i * 4)++m.cells4++(zaB ks).drop (i * 4)=zaB (ks.take i++m::ks.drop i):=by
 rw[(zaG ks i).1,(zaG ks i).2,zaC,cellsOfNodes_cons,List.append_assoc]
def zbw(ka:Option Addr)(n k:Nat):Prop:=0 < n/\∃ o,ka=some ⟨k,o,none⟩
def InsKid(ka0:Option Addr)(ks:List NT)(m:NT)(i l h:Nat)(w:World)(e:Ending)(w':World):Prop :=
 ∃ ka kc,e=.returned (.slice ka (ks.length+1) kc)/\Keeps (zbw ka0 ks.length) w w'/\(RowIn w' l h ka (ks.length+1) kc 4 (fun i' j=>((ks.take i++m::ks.drop i).getD i' default).cell j)\/RowIn w' w.heap.size w'.heap.size ka (ks.length+1) kc 4 (fun i' j=>((ks.take i++m::ks.drop i).getD i' default).cell j))
theorem insKid_of{ka0:Option Addr}{ks:List NT}{m:NT}{i l h b n:Nat}{rs:List Value}{w w':World}{e:Ending}(hi:i<=ks.length)(hn:n=ks.length)(_hlh:l<=h)(_hh:h<=w.heap.size)(hrs:rs=zaB (ks.take i++m::ks.drop i))(hb:((l<=b/\b < h)/\zbw ka0 ks.length b)\/b=w.heap.size)(H:InsEnds b n rs w e w'):InsKid ka0 ks m i l h w e w':=by
 obtain⟨g,cap,he,h1,h2,h3,h4,h5,h6⟩:=H;subst hn hrs
 have hc:∀ i',i' < ks.length+1->∀ j,j < 4->w'.cell? ⟨g,0+i' * 4+j,none⟩=some (((ks.take i++m::ks.drop i).getD i' default).cell j):=fun i' hi' j hj=>by
  have hl:(ks.take i++m::ks.drop i).length=ks.length+1:=by simp;omega
  rw[Nat.zero_add,h6 _ (by omega)];exact zaD _ i' (by omega) j hj
 refine⟨some ⟨g,0,none⟩,cap,he,?_,?_⟩
 ·exact h5.wider fun k hk hkb=>by
   have hkb':k=b:=hkb;subst hkb'
   rcases hb with ⟨_,hb⟩ | hb
   ·exact hb
   ·omega
 ·by_cases hg:l<=g/\g < h
  ·exact .inl ⟨⟨by simp,h1,h2⟩,fun _=>⟨g,0,rfl,hg.1,hg.2,hc⟩⟩
  ·exact .inr ⟨⟨by simp,h1,h2⟩,fun _=>⟨g,0,rfl,by omega,h4,hc⟩⟩
theorem shape_of{w:World}{b:Nat}{cur:Array Value}{e:TypeId}(h:w.heap[b]? = some (.cells cur e (0,0))):w.shape? b=some (e,cur.size):=by simp[World.shape?,h]
theorem frozen_of{w:World}{b q:Nat}{cur:Array Value}{e:TypeId}(h:w.heap[b]? = some (.cells cur e (0,0))):w.frozen? ⟨b,q,none⟩=false:=by simp[World.frozen?,h]
theorem cell_of{w:World}{b q:Nat}{cur:Array Value}{e:TypeId}(h:w.heap[b]? = some (.cells cur e (0,0))):w.cell? ⟨b,q,none⟩=cur[q]?:=by simp[World.cell?,h]
theorem block_of{w:World}{b:Nat}{o:Obj}(h:w.heap[b]? = some o):b < w.heap.size:=by
 rcases Nat.lt_or_ge b w.heap.size with h1 | h1
 ·exact h1
 ·rw[Array.getElem?_eq_none h1] at h;cases h
theorem insertKid_any(y m:NT)(i l h vb:Nat)(w:World)(ho:y.Own w l h)(hr:y.Room w)(hlh:l<=h)(hh:h<=w.heap.size)(hi:i<=y.ks.length)(hlen:y.ks.length<=1048576)(hvb:w.heap[vb]? = some (.cells m.cells4.toArray 26 (0,0)))(hne:¬(l<=vb/\vb < h)) :
  Calls Tryz.prog 118 #[.slice y.ka y.ks.length y.kc,.int .i64 i,.slice (some ⟨vb,0,none⟩) 1 1] w (InsKid y.ka y.ks m i l h w):=by
 have hk:=(NT.In_iff.1 ho.1).2.2.1;have hsf:=(NT.Soft_iff.1 ho.2).2.2.1;have hrm:=(NT.Room_iff.1 hr).2.1;have hvs:∀ j v,m.cells4[j]? = some v->w.cell? ⟨vb,j,none⟩=some v:=fun j v hj=>by rw[cell_of hvb];simpa using hj
 have hcl:=zaE y.ks;have hins:=cellsOfNodes_ins y.ks m i
 by_cases h0:y.ks.length=0
 ·have hc0:=hrm.1 h0;have hi0:i=y.ks.length:=by omega
  subst hi0
  have hrs:zaB y.ks++m.cells4=zaB (y.ks.take y.ks.length++m::y.ks.drop y.ks.length):=by
   rw[<- hins,List.take_of_length_le (by omega),List.drop_of_length_le (by omega),List.append_nil]
  have:=insEnd_grow y.ka y.ks.length y.kc vb (zaB y.ks) m.cells4 w (by omega) (by omega) hlen hcl (NT.cells4_len m) (fun _=>h0) (fun a ha j v hj=>by
   have:=(List.getElem?_eq_some_iff.1 hj).1
   omega) hvs (NT.cells4_one m)
  exact this.mono fun e w' H=>insKid_of hi rfl hlh hh hrs (.inr rfl) H
 ·obtain⟨b,o,hka,hb1,hb2,hcell⟩:=hk.2 (by omega);obtain⟨rfl,cur,hcur,hsz⟩:=hrm.2 (by omega) b o hka;have hnc:=hk.1.2.1;have hcm:=hk.1.2.2
  have hcs:∀ q,q < y.ks.length * 4->w.cell? ⟨b,q,none⟩=(zaB y.ks)[q]?:=fun q hq=>by
   have h1:=hcell (q / 4) (by omega) (q % 4) (by omega);have h2:=zaD y.ks (q / 4) (by omega) (q % 4) (by omega);rw[show 0+q / 4 * 4+q % 4=q by omega] at h1;rw[show q / 4 * 4+q % 4=q by omega] at h2;rw[h1,h2]
  have hsp:∀ q,q < y.kc * 4->(w.cell? ⟨b,q,none⟩).isSome=true:=fun q hq=>by
   rw[cell_of hcur,Array.getElem?_eq_getElem (by omega)];rfl
  have hfz:∀ q,w.frozen? ⟨b,q,none⟩=false:=fun q=>frozen_of hcur;have hvbne:vb≠b:=fun e=>hne (by omega);have hbs:b < w.heap.size:=by omega
  rw[hka]
  by_cases hin:i=y.ks.length
  ·subst hin
   have hrs:zaB y.ks++m.cells4=zaB (y.ks.take y.ks.length++m::y.ks.drop y.ks.length):=by
    rw[<- hins,List.take_of_length_le (by omega),List.drop_of_length_le (by omega),List.append_nil]
   by_cases hroom:y.ks.length+1<=y.kc
   ·have:=insEnd_room b y.ks.length y.kc vb (zaB y.ks) m.cells4 w hroom hcm hcl (NT.cells4_len m) hbs hcs hsp hfz hvs (NT.cells4_one m);exact this.mono fun e w' H=>insKid_of hi rfl hlh hh hrs (.inl ⟨⟨hb1,hb2⟩,by omega,0,rfl⟩) H
   ·have:=insEnd_grow (some ⟨b,0,none⟩) y.ks.length y.kc vb (zaB y.ks) m.cells4 w hnc (by omega) hlen hcl (NT.cells4_len m) (fun h=>(by cases h)) (fun a ha j v hj=>by
     obtain rfl:=Option.some.inj ha;have h1:=(List.getElem?_eq_some_iff.1 hj).1
     rw[addr0,Nat.zero_add,hcs j (by omega)];exact hj) hvs (NT.cells4_one m)
    exact this.mono fun e w' H=>insKid_of hi rfl hlh hh hrs (.inr rfl) H
  ·by_cases hroom:y.ks.length+1<=y.kc
   ·exact (insMid_room b y.ks.length y.kc i vb (zaB y.ks) m.cells4 w (by omega) hroom hcm hlen hcl (NT.cells4_len m) hbs hvbne hcs hsp hfz hvs (zaF y.ks) (NT.cells4_one m) _ _ _ _ (shape_of hvb) (shape_of hcur) (by omega) (fun q=>frozen_of hvb)).mono fun e w' H=>insKid_of hi rfl hlh hh hins (.inl ⟨⟨hb1,hb2⟩,by omega,0,rfl⟩) H
   ·exact (insMid_grow b y.ks.length y.kc i vb (zaB y.ks) m.cells4 w (by omega) hnc (by omega) hlen hcl (NT.cells4_len m) hbs (block_of hvb) hcs hvs (zaF y.ks) (NT.cells4_one m)).mono fun e w' H=>insKid_of hi rfl hlh hh hins (.inr rfl) H
theorem sep_parts{y:NT}{l h:Nat}{w w':World}(hs:y.Sep l h)(hin:y.In w l h)(hh:h<=w.heap.size)(hk:Keeps (zbw y.ka y.ks.length) w w'):PropsIn w' l h y.pa y.pc y.ps/\RunesIn w' l h y.ta y.tc y.ts/\∀ k∈y.ks,k.In w' l h:=by
 obtain⟨_,_,a,m,_,f,h1,h2,hp,ht,hkb,hf0,hfm,hfh,hks⟩:=hs;have hmono:=mono_of hfm;have hin':=NT.In_iff.1 hin
 have hmh:m<=h:=by
  have:=hmono y.ks.length zQ1 0 (Nat.zero_le _);omega
 have hne:∀ k,zbw y.ka y.ks.length k->a<=k/\k < m:=fun k ⟨hn,o,ho⟩=>hkb k o ho hn;have hagA:Agree l a w w':=hk.agree (by omega) (fun k k1 k2 hb=>by have:=hne k hb;omega);refine⟨(RowIn.agree (RowIn.narrow hin'.1 hp) hagA).mono zQ1 (by omega),⟨(RowIn.agree (RowIn.narrow hin'.2.1.1 ht) hagA).mono zQ1 (by omega),hin'.2.1.2⟩,fun k hk'=>?_⟩;obtain⟨j,hj,rfl⟩:=List.getElem_of_mem hk';have e:y.ks.getD j default=y.ks[j]:=by simp[List.getD,List.getElem?_eq_getElem hj]
 have hkj:=(hks _ hj).narrow (hin'.2.2.2 _ (zbd _ _ hj));rw[e] at hkj;have n1:=hmono j (by omega) 0 (Nat.zero_le _);have n2:=hmono y.ks.length zQ1 (j+1) (by omega);have n3:=hfm j hj;exact (hkj.agree (hk.agree (by omega) (fun k k1 k2 hb=>by have:=hne k hb;omega))).mono (by omega) (by omega)
theorem zbx{y:NT}{l h:Nat}{w:World}(hin:y.In w l h):∀ k,zbw y.ka y.ks.length k->l<=k/\k < h:=fun k ⟨hn,o,ho⟩=>by
 obtain⟨b',o',h1,h2,h3,_⟩:=(NT.In_iff.1 hin).2.2.1.2 hn;rw[ho] at h1;injection h1 with h1;injection h1 with h1 _
 subst h1;exact⟨h2,h3⟩
end Go.Proofs.YtccobobnmpafbaaGreatDoor
