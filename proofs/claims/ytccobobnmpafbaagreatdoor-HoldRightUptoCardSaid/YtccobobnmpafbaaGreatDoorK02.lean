/- A REGION THAT DRAWS ITS ORDER: an operation that only reads may be taken first where what it reads is kept by every operation that may come ahead of it ('need'); of the others (a store that waits for it) nothing is asked. -/
import Derived.OrdersHeld
import Derived.RegionTactic
import Derived.Test.YtccobobnmpafbaaGreatDoorK01
import Derived.Deep.QuietTactic
import Derived.BigQuiet
import Derived.Deep.RegionWith
set_option maxRecDepth 100000
set_option maxHeartbeats 100000000
namespace Go.Proofs.YtccobobnmpafbaaGreatDoor
open Go
section
variable {P:Program} {ops:Array Oper} {Q:Exit->Act->World->Prop} {md:Region.Mode} {S:World->Prop} {need:Nat->Bool}
def zdc(P:Program)(md:Region.Mode)(ops:Array Oper)(Q:Exit->Act->World->Prop)(S:World->Prop)(need:Nat->Bool):Nat->Array Bool->Act->World->Prop
 | 0,listed,a,w=>Region.ready md ops listed=[]/\Q .normal a w
 | fuel+1,listed,a,w =>
  (Region.ready md ops listed=[]->Q .normal a w) /\
  ∀ i∈Region.ready md ops listed,wpOp P ops Q i (fun a' w'=>(need i=true->S w')/\zdc P md ops Q S need fuel (listed.setIfInBounds i true) a' w') a w
theorem wpAny_of_N:∀(fuel:Nat) (listed:Array Bool) (a:Act) (w:World),zdc P md ops Q S need fuel listed a w->wpAny P md ops Q fuel listed a w
 | 0,_,_,_,h=>h
 | fuel+1,_,_,_,h=>⟨h.1,fun i hi=>wpOp_mono (fun a' w' h'=>wpAny_of_N fuel _ a' w' h'.2) (h.2 i hi)⟩
theorem wpAnyN_first{i:Nat}{oi:Oper}{v:Value}(hi:ops[i]? = some oi)(hsel:∀(j:Nat) (o:Oper) cs b,ops[j]? = some o->o.op≠.select cs b)(hQ:∀ c a w,Q (.panic c) (a.put oi.dst v) w->Q (.panic c) a w) :
  ∀(fuel:Nat) (listed:Array Bool) (a:Act) (w:World),
   (∀ j oj,ops[j]? = some oj->j≠i->listed.getD j true=false->(∀ e∈oj.after,Region.binds md e=true->e.on≠i)->oi.apart ops oj=true/\need j=true) ->
   i∈Region.ready md ops listed->YieldsIf P ops S oi v a->S w ->
   zdc P md ops Q S need fuel (listed.setIfInBounds i true) (a.put oi.dst v) w->zdc P md ops Q S need (fuel+1) listed a w:=by
 intro fuel
 induction fuel with
 | zero =>
  intro listed a w _ hr hy hS H;refine⟨fun h=>(by rw[h] at hr;cases hr),fun j hj=>?_⟩
  by_cases hji:j=i
  ·subst hji;exact hy.wpOp hi hS ⟨fun _=>hS,H⟩
  ·have h1:=ready_mono hj hji;rw[H.1] at h1
   cases h1
 | succ fuel ih =>
  intro listed a w hfree hr hy hS H;have hun:=(mem_ready.1 hr).1;refine⟨fun h=>(by rw[h] at hr;cases hr),fun j hj=>?_⟩
  by_cases hji:j=i
  ·subst hji;exact hy.wpOp hi hS ⟨fun _=>hS,H⟩
  ·have h1:=H.2 j (ready_mono hj hji);obtain⟨hjun,oj,hoj,hall⟩:=mem_ready.1 hj
   have hnot:∀ e∈oj.after,Region.binds md e=true->e.on≠i:=fun e he hb heq=>by
    have h2:=hall e he hb;rw[heq] at h2
    rcases Nat.lt_or_ge i listed.size with h' | h'
    ·simp[h'] at hun h2;rw[hun] at h2;cases h2
    ·simp[Array.getElem?_eq_none h'] at h2
   have hap:=hfree j oj hoj hji hjun hnot;have h2:=wpOp_putIf hoj hap.1 (fun cs b=>hsel i oi cs b hi) (fun cs b=>hsel j oj cs b hoj) hQ hy h1
   have hfree':∀ k ok,ops[k]? = some ok->k≠i->(listed.setIfInBounds j true).getD k true=false ->
     (∀ e∈ok.after,Region.binds md e=true->e.on≠i)->oi.apart ops ok=true/\need k=true:=fun k ok hk hki hku hno=>by
    refine hfree k ok hk hki ?_ hno
    by_cases hjk:j=k
    ·subst hjk;exact hjun
    ·rw[getD_set_ne true hjk] at hku;exact hku
   refine wpOp_mono (fun a' w' h3=>⟨fun _=>h3.2.1 hap.2,ih (listed.setIfInBounds j true) a' w' hfree' (ready_mono hr (Ne.symm hji)) h3.1 (h3.2.1 hap.2) ?_⟩) h2;rw[Array.setIfInBounds_comm _ _ hji];exact h3.2.2
def needsAll(need:Nat->Bool)(md:Region.Mode)(ops:Array Oper)(listed:Array Bool)(i:Nat):Bool :=
 (List.range ops.size).all fun j=>j == i || listed.getD j true || need j || ((ops.getD j default).after.any fun e=>Region.binds md e && e.on == i)
theorem needsAll_spec{listed:Array Bool}{i:Nat}(h:needsAll need md ops listed i=true)(j:Nat)(oj:Oper)(hj:ops[j]? = some oj)(hji:j≠i)(hun:listed.getD j true=false)(hno:∀ e∈oj.after,Region.binds md e=true->e.on≠i):need j=true:=by
 have hlt:j < ops.size:=by
  rcases Nat.lt_or_ge j ops.size with h1 | h1
  ·exact h1
  ·rw[Array.getElem?_eq_none h1] at hj;cases hj
 unfold needsAll at h;rw[List.all_eq_true] at h;have h1:=h j (List.mem_range.2 hlt)
 have e1:ops.getD j default=oj:=by
  rw[Array.getD_eq_getD_getElem?,hj];rfl
 rw[e1,hun] at h1;simp only[Bool.or_eq_true,Bool.false_eq_true,or_false,beq_iff_eq] at h1
 rcases h1 with (h1 | h1) | h1
 ·exact absurd h1 hji
 ·exact h1
 ·rw[Array.any_eq_true'] at h1;obtain⟨e,he,h2⟩:=h1;rw[Bool.and_eq_true] at h2;exact absurd (by simpa using h2.2) (hno e he h2.1)
theorem wpAnyN_take{i:Nat}{oi:Oper}{v:Value}{fuel:Nat}{listed:Array Bool}{a:Act}{w:World}(hi:ops[i]? = some oi)(hs:Region.noSelect ops=true)(hf:Region.free md ops listed i=true)(hn:needsAll need md ops listed i=true)(hr:(Region.ready md ops listed).contains i=true)(hQ:∀ c a w,Q (.panic c) (a.put oi.dst v) w->Q (.panic c) a w)(hy:YieldsIf P ops S oi v a)(hS:S w)(h:zdc P md ops Q S need fuel (listed.setIfInBounds i true) (a.put oi.dst v) w):zdc P md ops Q S need (fuel+1) listed a w :=
 wpAnyN_first hi (Region.noSelect_spec hs) hQ fuel listed a w (fun j oj hj hji hun hno=>⟨Region.free_spec hi hf j oj hj hji hun hno,needsAll_spec hn j oj hj hji hun hno⟩) (by simpa using hr) hy hS h
theorem zdh{i:Nat}{oi:Oper}{v:Value}{fuel:Nat}{listed:Array Bool}{a:Act}{w:World}(hi:ops[i]? = some oi)(hb:(Region.noSelect ops && Region.free md ops listed i && needsAll need md ops listed i && (Region.ready md ops listed).contains i)=true)(hy:YieldsIf P ops S oi v a)(hS:S w)(h:zdc P md ops Q S need fuel (listed.setIfInBounds i true) (a.put oi.dst v) w)(hQ:∀ c a w,Q (.panic c) (a.put oi.dst v) w->Q (.panic c) a w:=by exact fun _ _ _ h=>h):zdc P md ops Q S need (fuel+1) listed a w:=by
 simp only[Bool.and_eq_true] at hb;exact wpAnyN_take hi hb.1.1.1 hb.1.1.2 hb.1.2 hb.2 hQ hy hS h
theorem zdf{i:Nat}{o:Oper}{fuel:Nat}{listed:Array Bool}{a:Act}{w:World}(hr:Region.ready md ops listed=[i])(ho:ops[i]? = some o)(hw:Region.wanted o (yielded ops a.tmps)=true)(h:∀ K':Act->World->Prop,(∀ a' w',(need i=true->S w')/\zdc P md ops Q S need fuel (listed.setIfInBounds i true) a' w'->K' a' w')->Oper.wp P o a w K' Q) :
  zdc P md ops Q S need (fuel+1) listed a w:=by
 refine⟨(fun h0=>by rw[hr] at h0;cases h0),fun j hj=>?_⟩;rw[hr] at hj;obtain rfl:j=i:=by simpa using hj
 exact wpOp_step ho (fun K' hK=>by rw[if_pos hw];exact h K' hK)
theorem wpAnyN_two{i j:Nat}{oi oj:Oper}{fuel:Nat}{listed:Array Bool}{a:Act}{w:World}(hr:Region.ready md ops listed=[i,j])(hi:ops[i]? = some oi)(wi:Region.wanted oi (yielded ops a.tmps)=true)(hj:ops[j]? = some oj)(wj:Region.wanted oj (yielded ops a.tmps)=true)(h1:∀ K':Act->World->Prop,(∀ a' w',(need i=true->S w')/\zdc P md ops Q S need fuel (listed.setIfInBounds i true) a' w'->K' a' w')->Oper.wp P oi a w K' Q)(h2:∀ K':Act->World->Prop,(∀ a' w',(need j=true->S w')/\zdc P md ops Q S need fuel (listed.setIfInBounds j true) a' w'->K' a' w')->Oper.wp P oj a w K' Q) :
  zdc P md ops Q S need (fuel+1) listed a w:=by
 refine⟨(fun h0=>by rw[hr] at h0;cases h0),fun k hk=>?_⟩;rw[hr] at hk;simp only[List.mem_cons,List.not_mem_nil,or_false] at hk
 rcases hk with rfl | rfl
 ·exact wpOp_step hi (fun K' hK=>by rw[if_pos wi];exact h1 K' hK)
 ·exact wpOp_step hj (fun K' hK=>by rw[if_pos wj];exact h2 K' hK)
theorem zde{listed:Array Bool}{a:Act}{w:World}(hr:Region.ready md ops listed=[])(h:Q .normal a w) :
  ∀ fuel,zdc P md ops Q S need fuel listed a w
 | 0=>⟨hr,h⟩
 | _+1=>⟨fun _=>h,by rw[hr];simp⟩
theorem zdl(S:World->Prop)(need:Nat->Bool){id:Nat}{a:Act}{w:World}(hm:P.follows .mixedOrders=true)(h:zdc P .any ops Q S need ops.size (Array.replicate ops.size false) a w.drew):(Code.region id ops true).wp P Q a w :=
 wp_region_any hm (wpAny_of_N _ _ _ _ h)
end
end Go.Proofs.YtccobobnmpafbaaGreatDoor
namespace Go.Proofs.YtccobobnmpafbaaGreatDoor
open Go Go.RowKit
theorem operwp_of_list{P:Program}{o:Oper}{a:Act}{w:World}{K:Act->World->Prop}{Q:Exit->Act->World->Prop}(hg:o.guard=none)(h:∀ Q':Exit->Act->World->Prop,(∀ a w,K a w->Q' .normal a w)->wpList P #[] Q' [o] a w):Oper.wp P o a w K Q:=by
 have h1:=h (fun e a w=>match e with | .normal=>K a w | .outgrown=>False | .panic c=>Q (.panic c) a w | _=>False) (fun _ _ h=>h);unfold wpList at h1;rw[if_pos (by simp[Region.wanted,hg])] at h1
 rcases h1 with h1 | ⟨_,a',w',h1⟩
 ·unfold Oper.wp at h1 ⊢;generalize (execOp a.eval o).run P w=r at h1 ⊢
  cases r with
  | ok n w' =>
   cases n <;> simp only[Oper.upon] at h1 ⊢
   case value u=>exact h1
   case skip=>exact h1
   case defer d=>exact h1
   case enter f args =>
    refine Calls.mono h1 fun e w'' he=>?_
    cases e with
    | returned u=>exact he
    | panicked c=>exact he
    | outgrown =>
     obtain⟨a',w',h2⟩:=he;exact h2.elim
   case row row args=>exact Rows.mono h1 fun u w'' he=>he
   all_goals exact h1
  | halt x w' =>
   cases x <;> simp only[Oper.upon] at h1 ⊢
   case panic u=>exact h1
   all_goals exact h1
 ·exact h1.elim
theorem wp_append_row{P:Program}{w:World}{o:Oper}{a:Act}{K:Act->World->Prop}{Q:Exit->Act->World->Prop}(hgd:o.guard=none)(s x:Operand)(t:TypeId)(ho:o.op=.call { callee:=.builtin .append,args:=#[s,x],argTypes:=#[t,t] })(base:Nat)(e:TypeId){z:Value}{size bytes:Nat}(ht:P.underlying t=some (.slice e))(hinfo:(P.info? e).map (fun i=>(i.zero,i.size,i.bytes))=some (some z,size,bytes))(hzs:z.cells.size=size)(hsz:0 < size)(v:Value)(n:Nat)(xs:List Value)(hs:a.eval s=v)(hown:w.ownsRow base e size v n xs)(xa:Option Addr)(m c lo hi:Nat)(f:Nat->Nat->Value)(hx:a.eval x=.slice xa m c)(hrow:RowIn w lo hi xa m c size f)(news:List Value)(hl:news.length=m * size)(hnews:∀ i,i < m->∀ j,j < size->news[i * size+j]? = some (f i j))(h1:∀ u∈news,u.oneCell'=true)(h63:n+m<=maxLen)(hbytes:(n+m) * bytes<=140737488355328)(hbase:base<=w.heap.size)(h:∀ v' w',w'.ownsRow base e size v' (n+m) (xs++news)->w.grownBy w' v.ownBlock->(∀ k,v'.ownBlock=some k->v.ownBlock=some k\/w.heap.size<=k)->K (a.put o.dst v') w'):Oper.wp P o a w K Q :=
 operwp_of_list hgd fun _ hQ=>zdi hgd s x t ho base e ht hinfo hzs hsz v n xs hs hown xa m c lo hi f hx hrow news hl hnews h1 h63 hbytes hbase fun v' w' a1 a2 a3=>wpList_nil (hQ _ _ (h v' w' a1 a2 a3))
/-! ### rows told by a list -/
section
variable {α:Type} [Inhabited α] {cells:α->List Value} {k:Nat}
omit [Inhabited α] in
theorem flat_len (hk:∀ x,(cells x).length=k) (l:List α):(l.flatMap cells).length=l.length * k:=by
 induction l with
 | nil=>simp
 | cons p r ih=>simp only[List.flatMap_cons,List.length_append,List.length_cons,ih,hk];rw[Nat.add_mul];omega
theorem flat_at(hk:∀ x,(cells x).length=k)(l:List α):∀ i,i < l.length->∀ j,j < k->(l.flatMap cells)[i * k+j]? = some ((cells (l.getD i default)).getD j undef):=by
 induction l with
 | nil=>intro i hi;cases hi
 | cons p r ih =>
  intro i hi j hj
  cases i with
  | zero =>
   rw[Nat.zero_mul,Nat.zero_add,List.flatMap_cons,List.getElem?_append_left (by rw[hk];exact hj)]
   simp[List.getD,List.getElem?_eq_getElem (show j < (cells p).length by rw[hk];exact hj)]
  | succ i =>
   have:=ih i (by simpa using hi) j hj;rw[List.flatMap_cons,List.getElem?_append_right (by rw[hk,Nat.add_mul];omega),hk,show (i+1) * k+j - k=i * k+j by rw[Nat.add_mul];omega,this]
   simp
end
end Go.Proofs.YtccobobnmpafbaaGreatDoor
namespace Go.Proofs.YtccobobnmpafbaaGreatDoor
open Go Go.RowKit
def IntsIn(w:World)(lo hi:Nat)(a:Option Addr)(c:Nat)(ts:List Int):Prop:=RowIn w lo hi a ts.length c 1 (fun i _=>.int .i64 (ts.getD i 0))
theorem IntsIn.agree{w w':World}{lo hi:Nat}{a:Option Addr}{c:Nat}{ts:List Int}(h:IntsIn w lo hi a c ts)(hag:Agree lo hi w w'):IntsIn w' lo hi a c ts:=RowIn.agree h hag
theorem IntsIn.mono{w:World}{lo hi lo' hi':Nat}{a:Option Addr}{c:Nat}{ts:List Int}(h:IntsIn w lo hi a c ts)(h1:lo'<=lo)(h2:hi<=hi'):IntsIn w lo' hi' a c ts:=RowIn.mono h h1 h2
theorem IntsIn.grew{w w':World}{lo hi:Nat}{a:Option Addr}{c:Nat}{ts:List Int}(h:IntsIn w lo hi a c ts)(hg:Grew w w')(hB:hi<=w.heap.size):IntsIn w' lo hi a c ts:=h.agree (hg.agree hB)
theorem IntsIn.at{w:World}{lo hi:Nat}{a:Option Addr}{c:Nat}{ts:List Int}(h:IntsIn w lo hi a c ts){j:Nat}(hj:j < ts.length) :
  ∃ b o,a=some ⟨b,o,none⟩/\lo<=b/\b < hi/\w.cell? ⟨b,o+j,none⟩=some (.int .i64 (ts.getD j 0)):=by
 obtain⟨b,o,ha,h1,h2,hc⟩:=h.2 (by omega);exact⟨b,o,ha,h1,h2,by simpa using hc j hj 0 (by omega)⟩
theorem zbu{w:World}{lo hi:Nat}:IntsIn w lo hi none 0 []:=zcD
theorem intsIn_owned{w:World}{base:Nat}{e:TypeId}{v:Value}{ts:List Int}(h:w.ownsRow base e 1 v ts.length (ts.map (Value.int .i64))) :
  ∃ a c,v=.slice a ts.length c/\IntsIn w base w.heap.size a c ts:=by
 obtain⟨hl,h⟩:=h
 rcases h with ⟨rfl,hn⟩ | ⟨g,cap,cur,rfl,hg,hh,hcap,hmax,hcur,htk⟩
 ·obtain rfl:ts=[]:=List.length_eq_zero_iff.1 hn;exact⟨none,0,rfl,zbu⟩
 ·refine⟨some ⟨g,0,none⟩,cap,rfl,⟨⟨by simp,hcap,hmax⟩,fun _=>⟨g,0,rfl,hg,?_,fun i hi j hj=>?_⟩⟩⟩
  ·rcases Nat.lt_or_ge g w.heap.size with h1 | h1
   ·exact h1
   ·rw[Array.getElem?_eq_none h1] at hh;cases hh
  ·obtain rfl:j=0:=by omega
   simp only[World.cell?,hh];have h2:(cur.toList.take (ts.length * 1))[i]? = some (Value.int .i64 (ts.getD i 0)):=by rw[htk];simp[List.getD,hi]
   rw[List.getElem?_take] at h2;simp only[Nat.mul_one,hi,if_true] at h2
   simpa using h2
theorem infoInt:(Tryz.prog.info? 3).map (fun i=>(i.zero,i.size,i.bytes))=some (some (.int .i64 0),1,8):=by kernel_rfl
theorem ints_at(ts:List Int):∀ i,i < ts.length->∀ j,j < 1->(ts.map (Value.int .i64))[i * 1+j]? = some (.int .i64 (ts.getD i 0)):=fun i hi j hj=>by
 obtain rfl:j=0:=by omega
 simp[List.getD,hi]
theorem cloneInts_any(a:Option Addr)(c:Nat)(l:List Int)(w:World)(lo hi:Nat)(hr:IntsIn w lo hi a c l)(hh:hi<=w.heap.size)(hl:l.length<=1048576) :
  Calls Tryz.prog 67 #[.slice a l.length c] w fun e w'=>∃ v,e=.returned v/\Grew w w'/\w'.ownsRow w.heap.size 3 1 v l.length ((List.map (Value.int .i64)) l):=by
 have qT:∀(w:World) (a:Option Addr) (n c n' c':Nat),(binOp .eql 27 (.slice a n c) (.slice none n' c')).run Tryz.prog w=.ok (.bool a.isNone) w:=fun w a n c n' c'=>Lib.run_eql_slice_nil w _ _ a n c n' c' Tryz.underlying27
 cases a with
 | none =>
  obtain⟨hz,rfl⟩:=hr.1.1 rfl;obtain rfl:l=[]:=List.length_eq_zero_iff.1 hz;clear hr
  go_enter Tryz.func67,Tryz.ntmps67
  go_wp2_with fail
  go_ret
  exact⟨_,rfl,Grew.refl _,World.ownsRow_nil _ _ _ _⟩
 | some ad =>
  have hr':=hr.grew (Grew.alloc1 w (.cells #[] 3)) hh
  go_enter Tryz.func67,Tryz.ntmps67
  go_wp2_with (at_builtin;refine zdi rfl (.tmp 5) (.tmp 6) 27 rfl w.heap.size 3 Tryz.underlying27 infoInt rfl (by decide) (.slice (some ⟨w.heap.size,0,none⟩) 0 0) 0 [] rfl (zb3 w 3 1) (some ad) l.length c lo hi _ rfl hr' (l.map (Value.int .i64)) (by simp) (ints_at l) (ints_oneCell _ _) (by unfold maxLen;omega) (by omega) (by simp) ?_;intro v' w1 hown' hgrow hblk;obtain⟨va',vc',rfl⟩:=zb2 hown')
  go_ret
  rw[Nat.zero_add,List.nil_append] at hown';exact⟨_,rfl,(Grew.alloc1 _ _).grown hgrow (fun k hk=>by simp only[Value.ownBlock,Option.some.injEq] at hk;omega),hown'⟩
def NT.Bx(n:NT)(b:Nat)(w:World):Prop:=w.cell? ⟨b,0,none⟩=some (.bool n.lf)/\w.cell? ⟨b,1,none⟩=some (.slice n.pa n.ps.length n.pc)/\w.cell? ⟨b,2,none⟩=some (.slice n.ta n.ts.length n.tc)/\w.cell? ⟨b,3,none⟩=some (.slice n.ka n.ks.length n.kc)
theorem NT.Bx.keep{n:NT}{b:Nat}{w w':World}{S:Nat->Prop}(h:n.Bx b w)(hg:Keeps S w w')(hb:b < w.heap.size)(hS:¬ S b):n.Bx b w':=by
 have q:∀ j,w'.cell? ⟨b,j,none⟩=w.cell? ⟨b,j,none⟩:=fun j=>hg.cell (p:=⟨b,j,none⟩) hb hS;unfold NT.Bx at h ⊢;simp only[q];exact h
theorem NT.Bx.grew{n:NT}{b:Nat}{w w':World}(h:n.Bx b w)(hg:Grew w w')(hb:b < w.heap.size):n.Bx b w':=h.keep (hg.keeps Noth) hb (fun h=>h)
structure PN where
 a:Option Addr
 c:Nat
 l:List Int
instance:Inhabited PN:=⟨⟨none,0,[]⟩⟩
def PN.val(p:PN):Value:=.slice p.a p.l.length p.c
def PIn(w:World)(s:Nat)(O:Nat->Prop)(p:PN):Prop:=∃ lo hi,IntsIn w lo hi p.a p.c p.l/\hi<=w.heap.size/\∀ k,lo<=k->k < hi->s < k/\¬ O k
theorem PIn.moves{w w':World}{s:Nat}{O O':Nat->Prop}{p:PN}(h:PIn w s O p)(hk:Moves O w O' w'):PIn w' s O' p:=by
 obtain⟨lo,hi,h1,h2,h3⟩:=h;exact⟨lo,hi,h1.agree (hk.1.agree h2 (fun k a b=>(h3 k a b).2)),Nat.le_trans h2 hk.1.size,fun k a b=>⟨(h3 k a b).1,hk.notin (h3 k a b).2 (by omega)⟩⟩
theorem PIn.lies{w:World}{s:Nat}{O:Nat->Prop}{p:PN}(h:PIn w s O p):IntsIn w 0 w.heap.size p.a p.c p.l:=by
 obtain⟨lo,hi,h1,h2,_⟩:=h;exact h1.mono (Nat.zero_le _) h2
/-! the paths of a tree at a path -/
mutual
def T.paths (p:List Int):T->List (List Int)
 | .mk _ _ _ ks=>p::T.pathsAll p 0 ks
def T.pathsAll (p:List Int) (i:Nat):List T->List (List Int)
 | []=>[]
 | k::r=>T.paths (p++[(i:Int)]) k++T.pathsAll p (i+1) r
end
theorem T.bulkAll_append(a b:List T):T.bulkAll (a++b)=T.bulkAll a+T.bulkAll b:=by
 induction a with
 | nil=>simp[T.bulkAll]
 | cons x r ih=>simp[T.bulkAll,ih];omega
def SoftRow(w:World)(a:Option Addr)(n:Nat):Prop:=0 < n->∀ p,a=some p->∀ j,w.frozen? ⟨p.block,j,none⟩=false
def OwnRow(w:World)(lo hi:Nat)(a:Option Addr)(n c k:Nat)(f:Nat->Nat->Value):Prop:=RowIn w lo hi a n c k f/\SoftRow w a n
theorem OwnRow.agree{w w':World}{lo hi:Nat}{a:Option Addr}{n c k:Nat}{f:Nat->Nat->Value}(h:OwnRow w lo hi a n c k f)(hag:Agree lo hi w w'):OwnRow w' lo hi a n c k f:=by
 refine⟨h.1.agree hag,fun hn p hp j=>?_⟩;obtain⟨b,o,ha,h1,h2,_⟩:=h.1.2 hn;rw[ha] at hp;obtain rfl:=Option.some.inj hp;exact (World.frozen?_of_block (w:=w) (a:=⟨b,j,none⟩) (hag b h1 h2)).trans (h.2 hn _ ha j)
theorem OwnRow.mono{w:World}{lo hi lo' hi':Nat}{a:Option Addr}{n c k:Nat}{f:Nat->Nat->Value}(h:OwnRow w lo hi a n c k f)(h1:lo'<=lo)(h2:hi<=hi'):OwnRow w lo' hi' a n c k f:=⟨h.1.mono h1 h2,h.2⟩
theorem OwnRow.grew{w w':World}{lo hi:Nat}{a:Option Addr}{n c k:Nat}{f:Nat->Nat->Value}(h:OwnRow w lo hi a n c k f)(hg:Grew w w')(hB:hi<=w.heap.size):OwnRow w' lo hi a n c k f:=h.agree (hg.agree hB)
theorem zbZ{w:World}{base:Nat}{e:TypeId}{size n c:Nat}{a:Option Addr}{xs:List Value}{f:Nat->Nat->Value}(h:w.ownsRow base e size (.slice a n c) n xs)(hf:∀ i,i < n->∀ j,j < size->xs[i * size+j]? = some (f i j)) :
  OwnRow w base w.heap.size a n c size f:=by
 obtain⟨hl,h⟩:=h
 rcases h with ⟨hv,hn⟩ | ⟨g,cap,cur,hv,hg,hh,hcap,hmax,hcur,htk⟩
 ·injection hv with h1 h2 h3
  subst h1 h2 h3;exact⟨⟨⟨fun _=>⟨rfl,rfl⟩,by omega,by unfold maxLen;omega⟩,fun h=>(by omega)⟩,fun h=>(by omega)⟩
 ·injection hv with h1 h2 h3
  subst h1 h3;refine⟨⟨⟨by simp,hcap,hmax⟩,fun _=>⟨g,0,rfl,hg,?_,fun i hi j hj=>?_⟩⟩,fun _ p hp j=>?_⟩
  ·rcases Nat.lt_or_ge g w.heap.size with h1 | h1
   ·exact h1
   ·rw[Array.getElem?_eq_none h1] at hh;cases hh
  ·simp only[World.cell?,hh];have h2:=hf i hi j hj
   have h3:i * size+j < n * size:=by
    have:(i+1) * size<=n * size:=Nat.mul_le_mul_right _ hi;rw[Nat.add_mul] at this;omega
   rw[<- htk,List.getElem?_take,if_pos h3] at h2
   simpa using h2
  ·obtain rfl:=Option.some.inj hp
   simp[World.frozen?,hh]
theorem zaw{w:World}{p:Addr}{u v:Value}(h:w.cell? p=some u):(w.setCell p v).cell? p=some v:=World.cell?_setCell_same _ _ _ h
theorem zav{w:World}{p q:Addr}{v:Value}(h:p≠q):(w.setCell p v).cell? q=w.cell? q:=World.cell?_setCell_other _ _ _ _ h
theorem zau{w:World}{b x y:Nat}{v:Value}(h:x≠y):(w.setCell ⟨b,x,none⟩ v).cell? ⟨b,y,none⟩=w.cell? ⟨b,y,none⟩:=zav (fun he=>h (by injection he))
theorem zaf{w:World}{p:Addr}{u:Value}{lo hi:Nat}(h:p.block < lo\/hi<=p.block):Agree lo hi w (w.setCell p u):=fun k h1 h2=>Below.heap_setCell _ _ _ _ (by omega)
theorem Agree.trans{lo hi:Nat}{a b c:World}(h:Agree lo hi a b)(k:Agree lo hi b c):Agree lo hi a c:=fun x h1 h2=>(k x h1 h2).trans (h x h1 h2)
theorem OwnRow.put{w:World}{lo hi b o n c j:Nat}{f:Nat->Nat->Value}(h:OwnRow w lo hi (some ⟨b,o,none⟩) n c 4 f)(hj:j < n)(u0 u1 u2 u3:Value) :
  OwnRow ((((w.setCell ⟨b,o+j * 4,none⟩ u0).setCell ⟨b,o+j * 4+1,none⟩ u1).setCell ⟨b,o+j * 4+2,none⟩ u2).setCell ⟨b,o+j * 4+3,none⟩ u3) lo hi (some ⟨b,o,none⟩) n c 4
   (fun i t=>if i=j then (match t with | 0=>u0 | 1=>u1 | 2=>u2 | _=>u3) else f i t):=by
 obtain⟨⟨h1,h2⟩,hs⟩:=h;refine⟨⟨h1,fun hn=>?_⟩,fun hn p hp i=>?_⟩
 ·obtain⟨b',o',hb,h3,h4,hc⟩:=h2 hn
  obtain⟨rfl,rfl⟩:b=b'/\o=o':=by
   injection hb with hb;injection hb with hb1 hb2;exact⟨hb1,hb2⟩
  refine⟨b,o,rfl,h3,h4,fun i hi t ht=>?_⟩;have e0:=hc j hj 0 (by omega);have e1:=hc j hj 1 (by omega);have e2:=hc j hj 2 (by omega);have e3:=hc j hj 3 (by omega);rw[Nat.add_zero] at e0
  by_cases hij:i=j
  ·subst hij;simp only[if_true]
   match t,ht with
   | 0,_ =>
    rw[zau (by omega),zau (by omega),zau (by omega)];exact zaw e0
   | 1,_ =>
    rw[zau (by omega),zau (by omega)];exact zaw (by rw[zau (by omega)];exact e1)
   | 2,_ =>
    rw[zau (by omega)];exact zaw (by rw[zau (by omega),zau (by omega)];exact e2)
   | 3,_ =>
    exact zaw (by rw[zau (by omega),zau (by omega),zau (by omega)];exact e3)
  ·dsimp only
   rw[if_neg hij,zau (by omega),zau (by omega),zau (by omega),zau (by omega)];exact hc i hi t ht
 ·simp only[World.frozen?_setCell];exact hs hn p hp i
/-! ### trees that may be written -/
mutual
def NT.Soft (w:World):NT->Prop
 | .mk _ pa _ ps ta _ ts ka _ ks=>SoftRow w pa ps.length/\SoftRow w ta ts.length/\SoftRow w ka ks.length/\NT.SoftAll w ks
def NT.SoftAll (w:World):List NT->Prop
 | []=>True
 | k::r=>NT.Soft w k/\NT.SoftAll w r
end
theorem NT.SoftAll_iff{w:World}{ks:List NT}:NT.SoftAll w ks ↔ ∀ k∈ks,k.Soft w:=by
 induction ks with
 | nil=>simp[NT.SoftAll]
 | cons x r ih=>simp[NT.SoftAll,ih]
theorem NT.Soft_iff{w:World}{n:NT}:n.Soft w ↔ SoftRow w n.pa n.ps.length/\SoftRow w n.ta n.ts.length/\SoftRow w n.ka n.ks.length/\∀ k∈n.ks,k.Soft w:=by
 cases n
 simp only[NT.Soft,NT.SoftAll_iff,NT.pa_mk,NT.ps_mk,NT.ta_mk,NT.ts_mk,NT.ka_mk,NT.ks_mk]
def NT.Own(w:World)(lo hi:Nat)(n:NT):Prop:=n.In w lo hi/\n.Soft w
theorem NT.Own.mono{w:World}{lo hi lo' hi':Nat}{n:NT}(h:n.Own w lo hi)(h1:lo'<=lo)(h2:hi<=hi'):n.Own w lo' hi':=⟨h.1.mono h1 h2,h.2⟩
theorem NT.Own_iff{w:World}{lo hi:Nat}{n:NT}:n.Own w lo hi ↔ (OwnRow w lo hi n.pa n.ps.length n.pc 2 (fun i j=>zca (n.ps.getD i default) j))/\(OwnRow w lo hi n.ta n.ts.length n.tc 1 (fun i _=>.int .i32 (n.ts.getD i 0)))/\(∀ r∈n.ts,-2147483648<=r/\r<=2147483647) /\
  (OwnRow w lo hi n.ka n.ks.length n.kc 4 (fun i j=>(n.ks.getD i default).cell j))/\∀ k∈n.ks,k.Own w lo hi:=by
 unfold NT.Own OwnRow;rw[NT.In_iff,NT.Soft_iff];unfold PropsIn RunesIn KidsIn
 constructor
 ·rintro⟨⟨h1,⟨h2,h3⟩,h4,h5⟩,h6,h7,h8,h9⟩;exact⟨⟨h1,h6⟩,⟨h2,h7⟩,h3,⟨h4,h8⟩,fun k hk=>⟨h5 k hk,h9 k hk⟩⟩
 ·rintro⟨⟨h1,h6⟩,⟨h2,h7⟩,h3,⟨h4,h8⟩,h5⟩;exact⟨⟨h1,⟨h2,h3⟩,h4,fun k hk=>(h5 k hk).1⟩,h6,h7,h8,fun k hk=>(h5 k hk).2⟩
theorem NT.Own.agree{w w':World}{lo hi:Nat}{n:NT}(h:n.Own w lo hi)(hag:Agree lo hi w w'):n.Own w' lo hi:=by
 induction n using NT.ind with
 | h n ih =>
  rw[NT.Own_iff] at h ⊢;exact⟨h.1.agree hag,h.2.1.agree hag,h.2.2.1,h.2.2.2.1.agree hag,fun k hk=>ih k hk (h.2.2.2.2 k hk)⟩
theorem NT.Own.grew{w w':World}{lo hi:Nat}{n:NT}(h:n.Own w lo hi)(hg:Grew w w')(hB:hi<=w.heap.size):n.Own w' lo hi:=h.agree (hg.agree hB)
/-! ### memory that is written with what is of the same kind -/
def Kind:Value->Value
 | .bool _=>.bool false
 | .int k _=>.int k 0
 | .string _=>.string .empty
 | v=>v
def Like(hi:Nat)(w w':World):Prop:=∀ p:Addr,p.block < hi->(w'.cell? p).map Kind=(w.cell? p).map Kind/\w'.frozen? p=w.frozen? p
theorem Like.refl(hi:Nat)(w:World):Like hi w w:=fun _ _=>⟨rfl,rfl⟩
theorem Like.trans{hi:Nat}{a b c:World}(h:Like hi a b)(k:Like hi b c):Like hi a c:=fun p hp=>⟨(k p hp).1.trans (h p hp).1,(k p hp).2.trans (h p hp).2⟩
theorem Like.agree{hi:Nat}{a b:World}(h:Agree 0 hi a b):Like hi a b:=fun p hp=>⟨by rw[World.cell?_of_block (w:=a) (h p.block (Nat.zero_le _) hp)],World.frozen?_of_block (w:=a) (h p.block (Nat.zero_le _) hp)⟩
theorem Like.grew{hi:Nat}{a b:World}(h:Grew a b)(hB:hi<=a.heap.size):Like hi a b:=Like.agree (h.agree hB)
theorem Like.set{hi:Nat}{a b:World}(h:Like hi a b){p:Addr}{u v:Value}(hc:b.cell? p=some v)(hk:Kind u=Kind v):Like hi a (b.setCell p u):=by
 intro q hq;refine⟨?_,by rw[World.frozen?_setCell];exact (h q hq).2⟩
 by_cases e:p=q
 ·subst e;rw[zaw hc,Option.map_some,hk,<- Option.map_some,<- hc];exact (h p hq).1
 ·rw[zav e];exact (h q hq).1
theorem kind_bool{v:Value}{b:Bool}(h:Kind v=.bool b):∃ b',v=.bool b':=by
 cases v <;> simp[Kind] at h ⊢
theorem kind_int{v:Value}{k:IntKind}{b:Int}(h:Kind v=.int k b):∃ b',v=.int k b':=by
 cases v <;> simp[Kind] at h ⊢
 exact h.1
theorem kind_string{v:Value}{b:ByteArray}(h:Kind v=.string b):∃ b',v=.string b':=by
 cases v <;> simp[Kind] at h ⊢
theorem kind_slice{v:Value}{a:Option Addr}{n c:Nat}(h:Kind v=.slice a n c):v=.slice a n c:=by
 cases v <;> simp[Kind] at h ⊢
 exact h
theorem zbG{α β:Type}{f:α->β}{o:Option α}{b:β}(h:o.map f=some b):∃ v,o=some v/\f v=b:=by
 cases o with
 | none=>cases h
 | some v=>exact⟨v,rfl,Option.some.inj h⟩
theorem Like.bool{hi:Nat}{a b:World}(h:Like hi a b){p:Addr}(hp:p.block < hi){x:Bool}(hc:a.cell? p=some (.bool x)):∃ y,b.cell? p=some (.bool y):=by
 have h1:=(h p hp).1;rw[hc,Option.map_some] at h1;obtain⟨v,hv,hk⟩:=zbG h1;obtain⟨y,rfl⟩:=kind_bool hk;exact⟨y,hv⟩
theorem Like.int{hi:Nat}{a b:World}(h:Like hi a b){p:Addr}(hp:p.block < hi){k:IntKind}{x:Int}(hc:a.cell? p=some (.int k x)):∃ y,b.cell? p=some (.int k y):=by
 have h1:=(h p hp).1;rw[hc,Option.map_some] at h1;obtain⟨v,hv,hk⟩:=zbG h1;obtain⟨y,rfl⟩:=kind_int hk;exact⟨y,hv⟩
theorem Like.string{hi:Nat}{a b:World}(h:Like hi a b){p:Addr}(hp:p.block < hi){x:ByteArray}(hc:a.cell? p=some (.string x)):∃ y,b.cell? p=some (.string y):=by
 have h1:=(h p hp).1;rw[hc,Option.map_some] at h1;obtain⟨v,hv,hk⟩:=zbG h1;obtain⟨y,rfl⟩:=kind_string hk;exact⟨y,hv⟩
theorem Like.slice{hi:Nat}{a b:World}(h:Like hi a b){p:Addr}(hp:p.block < hi){x:Option Addr}{n c:Nat}(hc:a.cell? p=some (.slice x n c)):b.cell? p=some (.slice x n c):=by
 have h1:=(h p hp).1;rw[hc,Option.map_some] at h1;obtain⟨v,hv,hk⟩:=zbG h1;rw[hv,kind_slice hk]
theorem same02_any(a b:Option Addr)(c d:Nat)(xs ys:List Int)(w:World)(lo hi lo' hi':Nat)(hx:IntsIn w lo hi a c xs)(hy:IntsIn w lo' hi' b d ys)(hl:xs.length<=1048576)(hl2:ys.length<=1048576)(hh:hi<=w.heap.size)(hh':hi'<=w.heap.size) :
  Calls Tryz.prog 52 #[.slice a xs.length c,.slice b ys.length d] w fun e w'=>e=.returned (.bool (decide (xs=ys)))/\Grew w w':=by
 by_cases hne:xs.length=ys.length
 ·have heq:((xs.length:Int) != ys.length)=false:=by simp[hne]
  have HL:=zQ0 hne;have hle:xs.length<=ys.length:=by omega
  clear hne
  go_enter Tryz.func52,Tryz.ntmps52
  go_wp2_with fail
  go_loopw [13] (fun i wr=>∃(k:Nat),k<=xs.length/\i=.int .i64 k/\Grew w wr/\xs.take k=ys.take k) (fun i _=>xs.length - (intOf i).toNat)
  case atStart=>exact⟨0,by omega,rfl,Grew.refl _,by simp⟩
  case round =>
   obtain⟨k,hk1,rfl,hg,he⟩:=hrel;have HE:=zQ0 he;clear he
   by_cases hlt:k < xs.length
   ·obtain⟨b1,o1,rfl,_,_,hc1⟩:=(hx.grew hg hh).at hlt;obtain⟨b2,o2,rfl,_,_,hc2⟩:=(hy.grew hg hh').at (j:=k) (by omega);have hy1:(k:Int) < (ys.length:Int):=by omega
    by_cases hxy:xs.getD k 0=ys.getD k 0
    ·have ht:(xs.getD k 0 != ys.getD k 0)=false:=by rw[hxy];simp
     have HX:Hid (xs.take (k+1)=ys.take (k+1)):=by
      show _=_
      rw[zc3 xs k hlt,zc3 ys k (by omega),HE.out,hxy]
     clear hxy;generalize xs.getD k 0=p at *;generalize ys.getD k 0=q at *;go_wp2_with fail
     go_quiet (fail)
     go_wp2_with fail
     go_roundw
     case rel=>exact⟨k+1,by omega,by go_num,hg.drewN _,HX.out⟩
     case measure=>simp[intOf];omega
    ·have ht:(xs.getD k 0 != ys.getD k 0)=true:=by simpa using hxy
     have hne:=zbQ hxy;have HN:Hid (decide (xs=ys)=false):=by show _=_;simp[hne]
     clear hxy hne;generalize xs.getD k 0=p at *;generalize ys.getD k 0=q at *;go_wp2_with fail
     go_quiet (fail)
     go_wp2_with fail
     go_ret
     exact⟨zcy (by rw[HN.out]),hg.drewN _⟩
   ·have HN:Hid (decide (xs=ys)=true):=by
     show _=_
     have:=HE.out;rw[List.take_of_length_le (by omega),List.take_of_length_le (by have:=HL.out;omega)] at this
     simp[this]
    go_wp2_with fail
    go_ret
    exact⟨zcy (by rw[HN.out]),hg⟩
 ·have heq:((xs.length:Int) != ys.length)=true:=by simp;omega
  have HN:Hid (decide (xs=ys)=false):=by
   show _=_
   simp only[decide_eq_false_iff_not];intro e;exact hne (by rw[e])
  clear hne
  go_enter Tryz.func52,Tryz.ntmps52
  go_wp2_with fail
  go_ret
  exact⟨zcy (by rw[HN.out]),Grew.refl _⟩
def RetPath(l:List Int)(w:World)(e:Ending)(w':World):Prop:=∃ q:PN,e=.returned (.slice q.a q.l.length q.c)/\Grew w w'/\IntsIn w' w.heap.size w'.heap.size q.a q.c q.l/\Hid (q.l=l)
theorem retPath_own{l:List Int}{w w':World}{e:Ending}{v:Value}(he:e=.returned v)(hg:Grew w w')(h:w'.ownsRow w.heap.size 3 1 v l.length (l.map (Value.int .i64))):RetPath l w e w':=by
 obtain⟨a,c,rfl,hi⟩:=intsIn_owned h;exact⟨⟨a,c,l⟩,he,hg,hi,rfl⟩
theorem zaU(a:Option Addr)(c:Nat)(l:List Int)(w:World)(hr:IntsIn w 0 w.heap.size a c l)(hl:l.length<=1048576):Calls Tryz.prog 67 #[.slice a l.length c] w (RetPath l w) :=
 (cloneInts_any a c l w _ _ hr zQ1 hl).mono fun _ _ ⟨_,he,hg,ho⟩=>retPath_own he hg ho
theorem IntsIn.set{w:World}{lo hi b o c:Nat}{ts:List Int}(h:IntsIn w lo hi (some ⟨b,o,none⟩) c ts){j:Nat}(hj:j < ts.length)(v:Int):IntsIn (w.setCell ⟨b,o+j,none⟩ (.int .i64 v)) lo hi (some ⟨b,o,none⟩) c (ts.set j v):=by
 refine⟨by simpa using h.1,fun hn=>?_⟩;obtain⟨b',o',hab,h1,h2,hc⟩:=h.2 (by omega);obtain⟨rfl,rfl⟩:b=b'/\o=o':=by injection hab with e;injection e with e1 e2;exact⟨e1,e2⟩
 refine⟨b,o,rfl,h1,h2,fun i hi j' hj'=>?_⟩;obtain rfl:j'=0:=by omega
 have hi2:i < ts.length:=by simpa using hi
 have h0:=hc i hi2 0 (by omega);rw[show o+i * 1+0=o+i by omega] at h0 ⊢
 by_cases e:i=j
 ·subst e;rw[World.cell?_setCell_same _ _ _ h0]
  simp[List.getD,hi2]
 ·rw[zau (by omega),h0]
  simp[List.getD,Ne.symm e]
end Go.Proofs.YtccobobnmpafbaaGreatDoor
