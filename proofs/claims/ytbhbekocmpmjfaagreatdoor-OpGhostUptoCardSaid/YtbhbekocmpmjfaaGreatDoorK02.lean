/- append onto a slice of the call's own, from whatever slice that lies in the world. -/
import Derived.Test.YtbhbekocmpmjfaaGreatDoorK01
import Derived.Laws.AppendOwnNone
import Derived.ArgAppend
import Derived.Test.YtbhbekocmpmjfaaGreatDoorChecked
import Derived.Outline
import Derived.Lib.SliceRun
import Derived.OrdersHeld
import Derived.RegionTactic
namespace Go.Proofs.YtbhbekocmpmjfaaGreatDoor
open Go Go.RowKit
theorem ownsRow_mono {w:World} {base base':Nat} {e:TypeId} {size:Nat} {v:Value} {n:Nat} {xs:List Value} (h:w.ownsRow base e size v n xs) (hb:base'≤base):w.ownsRow base' e size v n xs:=by
 obtain ⟨h1,h2⟩:=h;refine ⟨h1,?_⟩
 rcases h2 with h2 | ⟨g,cap,cur,hv,hg,r⟩
 ·exact Or.inl h2
 ·exact Or.inr ⟨g,cap,cur,hv,by omega,r⟩
theorem zdk {P:Program} {w:World} {ops:Array Oper} {rest:List Oper} {o:Oper} {a:Act} {Q:Exit→Act→World→Prop} (hgd:o.guard=none) (s x:Operand) (t:TypeId)
  (ho:o.op=.call { callee:=.builtin .append,args:=#[s,x],argTypes:=#[t,t] })
  (base:Nat) (e:TypeId) {z:Value} {size bytes:Nat} (ht:P.underlying t=some (.slice e)) (hinfo:(P.info? e).map (fun i=>(i.zero,i.size,i.bytes))=some (some z,size,bytes)) (hzs:z.cells.size=size) (hsz:0 < size)
  (v:Value) (n:Nat) (xs:List Value) (hs:a.eval s=v) (hown:w.ownsRow base e size v n xs)
  (xa:Option Addr) (m c lo hi:Nat) (f:Nat→Nat→Value) (hx:a.eval x=.slice xa m c) (hrow:RowIn w lo hi xa m c size f) (news:List Value) (hl:news.length=m * size)
  (hnews:∀ i,i < m→∀ j,j < size→news[i * size+j]? = some (f i j)) (h1:∀ u∈news,u.oneCell'=true)
  (h63:n+m≤maxLen) (hbytes:(n+m) * bytes≤140737488355328) (hbase:base≤w.heap.size)
  (h:∀ v' w',w'.ownsRow base e size v' (n+m) (xs++news)→w.grownBy w' v.ownBlock→(∀ k,v'.ownBlock=some k→v.ownBlock=some k∨w.heap.size≤k)→wpList P ops Q rest (a.put o.dst v') w'):wpList P ops Q (o::rest) a w:=by
 obtain ⟨i0,hi0,hz0,hz1,hz2⟩:=info_parts hinfo
 cases xa with
 | none =>
  obtain ⟨rfl,rfl⟩:=hrow.1.1 rfl;obtain rfl:news=[]:=by simpa using hl
  refine wpList_append_own_none hgd s x t ho base e i0 size ht hi0 v n xs hs hown hx ?_;exact h v w (by simpa using hown) (World.grownBy.refl _ _) (fun k hk=>Or.inl hk)
 | some ad =>
  have hcells:∀ j u,news[j]? = some u→w.cell? (ad.add j)=some u:=by
   intro j u hj
   rcases Nat.eq_zero_or_pos m with hm | hm
   ·subst hm;obtain rfl:news=[]:=by simpa using hl
    simp at hj
   ·obtain ⟨b,off,hab,_,_,hc⟩:=hrow.2 hm;obtain rfl:ad=⟨b,off,none⟩:=Option.some.inj hab
    have hjl:j < m * size:=by
     rw [← hl]
     rcases Nat.lt_or_ge j news.length with h2 | h2
     ·exact h2
     ·rw [List.getElem?_eq_none h2] at hj;cases hj
    have hq:j / size < m:=Nat.div_lt_of_lt_mul (by rw [Nat.mul_comm];exact hjl);have hr:j % size < size:=Nat.mod_lt _ hsz;have e1:j / size * size+j % size=j:=by rw [Nat.mul_comm];exact Nat.div_add_mod j size
    have h3:=hc (j / size) hq (j % size) hr;have h4:=hnews (j / size) hq (j % size) hr;rw [e1] at h4;rw [h4] at hj;obtain rfl:=Option.some.inj hj;rw [Nat.add_assoc,e1] at h3;unfold Addr.add
    split
    ·rename_i h0;subst h0;exact h3
    ·exact h3
  rcases hown.2 with ⟨rfl,rfl⟩ | ⟨g,cap,cur,rfl,hbg,hg,hnc,hcm,hcs,htake⟩
  ·refine wpList_append_own w hgd s x t ho w.heap.size e i0 z size bytes ht hi0 hz0 hz1 hz2 hzs hsz _ 0 xs hs ⟨hown.1,Or.inl ⟨rfl,rfl⟩⟩ ad m c news hx hl hcells h1 h63 hbytes zQ1 (fun v' w' h2 h3 _=>h v' w' (ownsRow_mono h2 hbase) h3 (fun k hk=>Or.inr (h2.lt k hk).1))
  ·by_cases hroom:n+m≤cap
   ·exact wpList_append_fits w hgd s x t ho base e i0 size ht hi0 hz1 g n cap xs hs hown ad m c news hx hl hcells h1 hroom (fun w' h2 h3=>h _ w' h2 h3 (fun k hk=>Or.inl hk))
   ·exact wpList_append_grows w hgd s x t ho e i0 z size bytes ht hi0 hz0 hz1 hz2 hzs hsz _ n cap xs hs (by simp) hown.1 (fun b hb=>by obtain rfl:=Option.some.inj hb;exact hown.cells rfl) ad m c news hx hl hcells h1 (by omega) h63 hbytes
     (fun v' w' h2 h3=>h v' w' (ownsRow_mono h2 hbase) ⟨h3.os,h3.tape,h3.output,h3.size,fun k hk _=>h3.block k hk (by simp)⟩ (fun k hk=>Or.inr (h2.lt k hk).1))
theorem wpList_append_runes {P:Program} {w:World} {ops:Array Oper} {rest:List Oper} {o:Oper} {a:Act} {Q:Exit→Act→World→Prop} (hgd:o.guard=none) (s x:Operand) (t:TypeId)
  (ho:o.op=.call { callee:=.builtin .append,args:=#[s,x],argTypes:=#[t,t] })
  (base:Nat) (e:TypeId) {bytes:Nat} (ht:P.underlying t=some (.slice e)) (hinfo:(P.info? e).map (fun i=>(i.zero,i.size,i.bytes))=some (some (.int .i32 0),1,bytes))
  (v:Value) (n:Nat) (xs:List Value) (hs:a.eval s=v) (hown:w.ownsRow base e 1 v n xs)
  (xa:Option Addr) (ts:List Int) (c lo hi:Nat) (hx:a.eval x=.slice xa ts.length c) (hrow:RunesIn w lo hi xa c ts)
  (h63:n+ts.length≤maxLen) (hbytes:(n+ts.length) * bytes≤140737488355328) (hbase:base≤w.heap.size)
  (h:∀ v' w',w'.ownsRow base e 1 v' (n+ts.length) (xs++ts.map (Value.int .i32))→w.grownBy w' v.ownBlock→(∀ k,v'.ownBlock=some k→v.ownBlock=some k∨w.heap.size≤k)→wpList P ops Q rest (a.put o.dst v') w'):wpList P ops Q (o::rest) a w :=
 zdk hgd s x t ho base e ht hinfo rfl (by decide) v n xs hs hown xa ts.length c lo hi _ hx hrow.1 (ts.map (Value.int .i32)) (by simp)
  (fun i hi j hj=>by
   obtain rfl:j=0:=by omega
   simp [List.getD,hi]) (ints_oneCell _ _) h63 hbytes hbase h
theorem zb4 {w:World} {base:Nat} {e:TypeId} {size:Nat} {v:Value} {n:Nat} {xs:List Value} (h:w.ownsRow base e size v n xs):∃ a c,v=.slice a n c:=by
 rcases h.2 with ⟨rfl,rfl⟩ | ⟨g,cap,cur,rfl,_⟩
 ·exact ⟨_,_,rfl⟩
 ·exact ⟨_,_,rfl⟩
theorem ownsRow_other {w:World} {base:Nat} {e:TypeId} {size:Nat} {v:Value} {n:Nat} {xs:List Value} (h:w.ownsRow base e size v n xs) {a:Addr} (ha:v.ownBlock≠some a.block) (u:Value):(w.setCell a u).ownsRow base e size v n xs:=by
 obtain ⟨h1,h2⟩:=h;refine ⟨h1,?_⟩
 rcases h2 with h2 | ⟨g,cap,cur,hv,hg,hh,r⟩
 ·exact Or.inl h2
 ·subst hv;refine Or.inr ⟨g,cap,cur,rfl,hg,?_,r⟩;rw [Below.heap_setCell _ _ _ _ (fun e=>ha (by rw [← e];rfl))];exact hh
theorem zbn {w w':World} {row:Option Nat} (h:w.grownBy w' row) {O:Nat→Prop} (hO:∀ k,row=some k→O k):Keeps O w w' :=
 ⟨h.os,h.tape,h.output,h.size,fun k hk hn=>h.block k hk (fun e=>hn (hO k e.symm))⟩
theorem zb7 {w w':World} {base:Nat} {e:TypeId} {size:Nat} {v:Value} {n:Nat} {xs:List Value} (h:w.ownsRow base e size v n xs) (hg:Grew w w'):w'.ownsRow base e size v n xs:=by
 obtain ⟨h1,h2⟩:=h;refine ⟨h1,?_⟩
 rcases h2 with h2 | ⟨g,cap,cur,hv,hg2,hh,r⟩
 ·exact Or.inl h2
 ·have hlt:g < w.heap.size:=by
   rcases Nat.lt_or_ge g w.heap.size with h1 | h1
   ·exact h1
   ·rw [Array.getElem?_eq_none h1] at hh;cases hh
  exact Or.inr ⟨g,cap,cur,hv,hg2,(hg.block g hlt).trans hh,r⟩
theorem runesIn_owned {w:World} {base:Nat} {e:TypeId} {v:Value} {ts:List Int} (h:w.ownsRow base e 1 v ts.length (ts.map (Value.int .i32))) (hr:∀ r∈ts,-2147483648≤r∧r≤2147483647) :
  ∃ a c,v=.slice a ts.length c∧RunesIn w base w.heap.size a c ts:=by
 obtain ⟨hl,h⟩:=h
 rcases h with ⟨rfl,hn⟩ | ⟨g,cap,cur,rfl,hg,hh,hcap,hmax,hcur,htk⟩
 ·obtain rfl:ts=[]:=List.length_eq_zero_iff.1 hn;exact ⟨none,0,rfl,zcD,hr⟩
 ·refine ⟨some ⟨g,0,none⟩,cap,rfl,⟨⟨by simp,hcap,hmax⟩,fun _=>⟨g,0,rfl,hg,?_,fun i hi j hj=>?_⟩⟩,hr⟩
  ·rcases Nat.lt_or_ge g w.heap.size with h1 | h1
   ·exact h1
   ·rw [Array.getElem?_eq_none h1] at hh;cases hh
  ·obtain rfl:j=0:=by omega
   simp only [World.cell?,hh];have h2:(cur.toList.take (ts.length * 1))[i]? = some (Value.int .i32 (ts.getD i 0)):=by rw [htk];simp [List.getD,hi]
   rw [List.getElem?_take] at h2;simp only [Nat.mul_one,hi,if_true] at h2
   simpa using h2
theorem infoRuneC:(Tryz.prog.info? 21).map (fun i=>(i.zero,i.size,i.bytes))=some (some (.int .i32 0),1,4):=by kernel_rfl
theorem infoPropC:(Tryz.prog.info? 132).map (fun i=>(i.zero,i.size,i.bytes))=some (some (.agg #[.string .empty,.string .empty]),2,32):=by kernel_rfl
theorem infoNodeC:(Tryz.prog.info? 26).map (fun i=>(i.zero,i.size,i.bytes))=some (some (.agg #[.bool false,.slice none 0 0,.slice none 0 0,.slice none 0 0]),4,80):=by kernel_rfl
theorem zb6 (w:World) (e:TypeId) (size:Nat):(w.alloc (.cells #[] e)).ownsRow w.heap.size e size (.slice (some ⟨w.heap.size,0,none⟩) 0 0) 0 [] :=
 ⟨by simp,Or.inr ⟨w.heap.size,0,#[],rfl,Nat.le_refl _,heap_alloc_new _ _,Nat.le_refl _,Nat.zero_le _,by simp,by simp⟩⟩
def zaJ (ps:List zac):List Value:=ps.flatMap fun p=>[.string p.1,.string p.2]
def zaD (ks:List NT):List Value:=ks.flatMap fun k=>[.bool k.lf,.slice k.pa k.ps.length k.pc,.slice k.ta k.ts.length k.tc,.slice k.ka k.ks.length k.kc]
theorem cellsOfProps_len (ps:List zac):(zaJ ps).length=ps.length * 2:=by
 induction ps with
 | nil=>rfl
 | cons p r ih=>simp [zaJ] at ih ⊢;omega
theorem zaG (ks:List NT):(zaD ks).length=ks.length * 4:=by
 induction ks with
 | nil=>rfl
 | cons p r ih=>simp [zaD] at ih ⊢;omega
theorem zaK (ps:List zac):∀ i,i < ps.length→∀ j,j < 2→(zaJ ps)[i * 2+j]? = some (zce (ps.getD i default) j):=by
 induction ps with
 | nil=>intro i hi;cases hi
 | cons p r ih =>
  intro i hi j hj
  cases i with
  | zero =>
   match j,hj with
   | 0,_=>rfl
   | 1,_=>rfl
  | succ i =>
   have:=ih i (by simpa using hi) j hj;have e:(i+1) * 2+j=(i * 2+j)+1+1:=by omega
   rw [e]
   simpa [zaJ] using this
theorem zaF (ks:List NT):∀ i,i < ks.length→∀ j,j < 4→(zaD ks)[i * 4+j]? = some ((ks.getD i default).cell j):=by
 induction ks with
 | nil=>intro i hi;cases hi
 | cons p r ih =>
  intro i hi j hj
  cases i with
  | zero =>
   match j,hj with
   | 0,_=>rfl
   | 1,_=>rfl
   | 2,_=>rfl
   | 3,_=>rfl
  | succ i =>
   have:=ih i (by simpa using hi) j hj;have e:(i+1) * 4+j=(i * 4+j)+1+1+1+1:=by omega
   rw [e]
   simpa [zaD] using this
theorem cellsOfProps_one (ps:List zac):∀ u∈zaJ ps,u.oneCell'=true:=by
 intro u hu;simp only [zaJ,List.mem_flatMap,List.mem_cons,List.mem_nil_iff,or_false] at hu;obtain ⟨p,_,rfl | rfl⟩:=hu <;> rfl
theorem zaH (ks:List NT):∀ u∈zaD ks,u.oneCell'=true:=by
 intro u hu;simp only [zaD,List.mem_flatMap,List.mem_cons,List.mem_nil_iff,or_false] at hu;obtain ⟨p,_,rfl | rfl | rfl | rfl⟩:=hu <;> rfl
set_option maxHeartbeats 400000 in
theorem cloneRunes_any (a:Option Addr) (c:Nat) (l:List Int) (w:World) (lo hi:Nat) (hr:RunesIn w lo hi a c l) (hh:hi≤w.heap.size) (hl:l.length≤1048576) :
  Calls Tryz.prog 126 #[.slice a l.length c] w fun e w'=>∃ v,e=.returned v∧Grew w w'∧w'.ownsRow w.heap.size 21 1 v l.length ((List.map (Value.int .i32)) l):=by
 have qT:∀ (w:World) (a:Option Addr) (n c n' c':Nat),(binOp .eql 23 (.slice a n c) (.slice none n' c')).run Tryz.prog w=.ok (.bool a.isNone) w:=fun w a n c n' c'=>Lib.run_eql_slice_nil w _ _ a n c n' c' Tryz.underlying23
 cases a with
 | none =>
  obtain ⟨hz,rfl⟩:=hr.1.1.1 rfl;obtain rfl:l=[]:=List.length_eq_zero_iff.1 hz;clear hr
  go_enter Tryz.func126,Tryz.ntmps126
  go_wp2_with fail
  go_ret
  exact ⟨_,rfl,Grew.refl _,World.ownsRow_nil _ _ _ _⟩
 | some ad =>
  have hr':=hr.grew (Grew.alloc1 w (.cells #[] 21)) hh
  go_enter Tryz.func126,Tryz.ntmps126
  go_wp2_with (at_builtin;refine wpList_append_runes rfl (.tmp 5) (.tmp 6) 23 rfl w.heap.size 21 Tryz.underlying23 infoRuneC (.slice (some ⟨w.heap.size,0,none⟩) 0 0) 0 [] rfl (zb6 w 21 1) (some ad) l c lo hi rfl hr' (by unfold maxLen;omega) (by omega) (by simp) ?_;intro v' w1 hown' hgrow hblk;obtain ⟨va',vc',rfl⟩:=zb4 hown')
  go_ret
  rw [Nat.zero_add,List.nil_append] at hown';exact ⟨_,rfl,(Grew.alloc1 _ _).grown hgrow (fun k hk=>by simp only [Value.ownBlock,Option.some.injEq] at hk;omega),hown'⟩
set_option maxHeartbeats 400000 in
theorem zaW (a:Option Addr) (c:Nat) (l:List zac) (w:World) (lo hi:Nat) (hr:PropsIn w lo hi a c l) (hh:hi≤w.heap.size) (hl:l.length≤1048576) :
  Calls Tryz.prog 107 #[.slice a l.length c] w fun e w'=>∃ v,e=.returned v∧Grew w w'∧w'.ownsRow w.heap.size 132 2 v l.length (zaJ l):=by
 have qT:∀ (w:World) (a:Option Addr) (n c n' c':Nat),(binOp .eql 22 (.slice a n c) (.slice none n' c')).run Tryz.prog w=.ok (.bool a.isNone) w:=fun w a n c n' c'=>Lib.run_eql_slice_nil w _ _ a n c n' c' Tryz.underlying22
 cases a with
 | none =>
  obtain ⟨hz,rfl⟩:=hr.1.1 rfl;obtain rfl:l=[]:=List.length_eq_zero_iff.1 hz;clear hr
  go_enter Tryz.func107,Tryz.ntmps107
  go_wp2_with fail
  go_ret
  exact ⟨_,rfl,Grew.refl _,World.ownsRow_nil _ _ _ _⟩
 | some ad =>
  have hr':=hr.grew (Grew.alloc1 w (.cells #[] 132)) hh
  go_enter Tryz.func107,Tryz.ntmps107
  go_wp2_with (at_builtin;refine zdk rfl (.tmp 5) (.tmp 6) 22 rfl w.heap.size 132 Tryz.underlying22 infoPropC rfl (by decide) (.slice (some ⟨w.heap.size,0,none⟩) 0 0) 0 [] rfl (zb6 w 132 2) (some ad) l.length c lo hi _ rfl hr' (zaJ l) (cellsOfProps_len l) (zaK l) (cellsOfProps_one l) (by unfold maxLen;omega) (by omega) (by simp) ?_;intro v' w1 hown' hgrow hblk;obtain ⟨va',vc',rfl⟩:=zb4 hown')
  go_ret
  rw [Nat.zero_add,List.nil_append] at hown';exact ⟨_,rfl,(Grew.alloc1 _ _).grown hgrow (fun k hk=>by simp only [Value.ownBlock,Option.some.injEq] at hk;omega),hown'⟩
set_option maxHeartbeats 400000 in
theorem cloneNodes_any (a:Option Addr) (c:Nat) (l:List NT) (w:World) (lo hi:Nat) (hr:KidsIn w lo hi a c l) (hh:hi≤w.heap.size) (hl:l.length≤1048576) :
  Calls Tryz.prog 127 #[.slice a l.length c] w fun e w'=>∃ v,e=.returned v∧Grew w w'∧w'.ownsRow w.heap.size 26 4 v l.length (zaD l):=by
 have qT:∀ (w:World) (a:Option Addr) (n c n' c':Nat),(binOp .eql 24 (.slice a n c) (.slice none n' c')).run Tryz.prog w=.ok (.bool a.isNone) w:=fun w a n c n' c'=>Lib.run_eql_slice_nil w _ _ a n c n' c' Tryz.underlying24
 cases a with
 | none =>
  obtain ⟨hz,rfl⟩:=hr.1.1.1 rfl;obtain rfl:l=[]:=List.length_eq_zero_iff.1 hz;clear hr
  go_enter Tryz.func127,Tryz.ntmps127
  go_wp2_with fail
  go_ret
  exact ⟨_,rfl,Grew.refl _,World.ownsRow_nil _ _ _ _⟩
 | some ad =>
  have hr':=hr.grew (Grew.alloc1 w (.cells #[] 26)) hh
  go_enter Tryz.func127,Tryz.ntmps127
  go_wp2_with (at_builtin;refine zdk rfl (.tmp 5) (.tmp 6) 24 rfl w.heap.size 26 Tryz.underlying24 infoNodeC rfl (by decide) (.slice (some ⟨w.heap.size,0,none⟩) 0 0) 0 [] rfl (zb6 w 26 4) (some ad) l.length c lo hi _ rfl hr'.1 (zaD l) (zaG l) (zaF l) (zaH l) (by unfold maxLen;omega) (by omega) (by simp) ?_;intro v' w1 hown' hgrow hblk;obtain ⟨va',vc',rfl⟩:=zb4 hown')
  go_ret
  rw [Nat.zero_add,List.nil_append] at hown';exact ⟨_,rfl,(Grew.alloc1 _ _).grown hgrow (fun k hk=>by simp only [Value.ownBlock,Option.some.injEq] at hk;omega),hown'⟩
end Go.Proofs.YtbhbekocmpmjfaaGreatDoor
/- A REGION THAT DRAWS ITS ORDER: an operation that only reads may be taken first where what it reads is kept by every operation that may come ahead of it ('need'); of the others (a store that waits for it) nothing is asked. -/
namespace Go.Proofs.YtbhbekocmpmjfaaGreatDoor
open Go
section
variable {P:Program} {ops:Array Oper} {Q:Exit→Act→World→Prop} {md:Region.Mode} {S:World→Prop} {need:Nat→Bool}
def zdb (P:Program) (md:Region.Mode) (ops:Array Oper) (Q:Exit→Act→World→Prop) (S:World→Prop) (need:Nat→Bool):Nat→Array Bool→Act→World→Prop
 | 0,listed,a,w=>Region.ready md ops listed=[]∧Q .normal a w
 | fuel+1,listed,a,w =>
  (Region.ready md ops listed=[]→Q .normal a w) ∧
  ∀ i∈Region.ready md ops listed,wpOp P ops Q i (fun a' w'=>(need i=true→S w')∧zdb P md ops Q S need fuel (listed.setIfInBounds i true) a' w') a w
theorem wpAny_of_N:∀ (fuel:Nat) (listed:Array Bool) (a:Act) (w:World),zdb P md ops Q S need fuel listed a w→wpAny P md ops Q fuel listed a w
 | 0,_,_,_,h=>h
 | fuel+1,_,_,_,h=>⟨h.1,fun i hi=>wpOp_mono (fun a' w' h'=>wpAny_of_N fuel _ a' w' h'.2) (h.2 i hi)⟩
theorem wpAnyN_first {i:Nat} {oi:Oper} {v:Value} (hi:ops[i]? = some oi) (hsel:∀ (j:Nat) (o:Oper) cs b,ops[j]? = some o→o.op≠.select cs b)
  (hQ:∀ c a w,Q (.panic c) (a.put oi.dst v) w→Q (.panic c) a w) :
  ∀ (fuel:Nat) (listed:Array Bool) (a:Act) (w:World),
   (∀ j oj,ops[j]? = some oj→j≠i→listed.getD j true=false→(∀ e∈oj.after,Region.binds md e=true→e.on≠i)→oi.apart ops oj=true∧need j=true) →
   i∈Region.ready md ops listed→YieldsIf P ops S oi v a→S w →
   zdb P md ops Q S need fuel (listed.setIfInBounds i true) (a.put oi.dst v) w→zdb P md ops Q S need (fuel+1) listed a w:=by
 intro fuel
 induction fuel with
 | zero =>
  intro listed a w _ hr hy hS H;refine ⟨fun h=>(by rw [h] at hr;cases hr),fun j hj=>?_⟩
  by_cases hji:j=i
  ·subst hji;exact hy.wpOp hi hS ⟨fun _=>hS,H⟩
  ·have h1:=ready_mono hj hji;rw [H.1] at h1
   cases h1
 | succ fuel ih =>
  intro listed a w hfree hr hy hS H;have hun:=(mem_ready.1 hr).1;refine ⟨fun h=>(by rw [h] at hr;cases hr),fun j hj=>?_⟩
  by_cases hji:j=i
  ·subst hji;exact hy.wpOp hi hS ⟨fun _=>hS,H⟩
  ·have h1:=H.2 j (ready_mono hj hji);obtain ⟨hjun,oj,hoj,hall⟩:=mem_ready.1 hj
   have hnot:∀ e∈oj.after,Region.binds md e=true→e.on≠i:=fun e he hb heq=>by
    have h2:=hall e he hb;rw [heq] at h2
    rcases Nat.lt_or_ge i listed.size with h' | h'
    ·simp [h'] at hun h2;rw [hun] at h2;cases h2
    ·simp [Array.getElem?_eq_none h'] at h2
   have hap:=hfree j oj hoj hji hjun hnot;have h2:=wpOp_putIf hoj hap.1 (fun cs b=>hsel i oi cs b hi) (fun cs b=>hsel j oj cs b hoj) hQ hy h1
   have hfree':∀ k ok,ops[k]? = some ok→k≠i→(listed.setIfInBounds j true).getD k true=false →
     (∀ e∈ok.after,Region.binds md e=true→e.on≠i)→oi.apart ops ok=true∧need k=true:=fun k ok hk hki hku hno=>by
    refine hfree k ok hk hki ?_ hno
    by_cases hjk:j=k
    ·subst hjk;exact hjun
    ·rw [getD_set_ne true hjk] at hku;exact hku
   refine wpOp_mono (fun a' w' h3=>⟨fun _=>h3.2.1 hap.2,ih (listed.setIfInBounds j true) a' w' hfree' (ready_mono hr (Ne.symm hji)) h3.1 (h3.2.1 hap.2) ?_⟩) h2;rw [Array.setIfInBounds_comm _ _ hji];exact h3.2.2
def needsAll (need:Nat→Bool) (md:Region.Mode) (ops:Array Oper) (listed:Array Bool) (i:Nat):Bool :=
 (List.range ops.size).all fun j=>j == i || listed.getD j true || need j || ((ops.getD j default).after.any fun e=>Region.binds md e && e.on == i)
theorem needsAll_spec {listed:Array Bool} {i:Nat} (h:needsAll need md ops listed i=true) (j:Nat) (oj:Oper) (hj:ops[j]? = some oj) (hji:j≠i) (hun:listed.getD j true=false)
  (hno:∀ e∈oj.after,Region.binds md e=true→e.on≠i):need j=true:=by
 have hlt:j < ops.size:=by
  rcases Nat.lt_or_ge j ops.size with h1 | h1
  ·exact h1
  ·rw [Array.getElem?_eq_none h1] at hj;cases hj
 unfold needsAll at h;rw [List.all_eq_true] at h;have h1:=h j (List.mem_range.2 hlt)
 have e1:ops.getD j default=oj:=by
  rw [Array.getD_eq_getD_getElem?,hj];rfl
 rw [e1,hun] at h1;simp only [Bool.or_eq_true,Bool.false_eq_true,or_false,beq_iff_eq] at h1
 rcases h1 with (h1 | h1) | h1
 ·exact absurd h1 hji
 ·exact h1
 ·rw [Array.any_eq_true'] at h1;obtain ⟨e,he,h2⟩:=h1;rw [Bool.and_eq_true] at h2;exact absurd (by simpa using h2.2) (hno e he h2.1)
theorem wpAnyN_take {i:Nat} {oi:Oper} {v:Value} {fuel:Nat} {listed:Array Bool} {a:Act} {w:World} (hi:ops[i]? = some oi)
  (hs:Region.noSelect ops=true) (hf:Region.free md ops listed i=true) (hn:needsAll need md ops listed i=true) (hr:(Region.ready md ops listed).contains i=true)
  (hQ:∀ c a w,Q (.panic c) (a.put oi.dst v) w→Q (.panic c) a w) (hy:YieldsIf P ops S oi v a) (hS:S w)
  (h:zdb P md ops Q S need fuel (listed.setIfInBounds i true) (a.put oi.dst v) w):zdb P md ops Q S need (fuel+1) listed a w :=
 wpAnyN_first hi (Region.noSelect_spec hs) hQ fuel listed a w (fun j oj hj hji hun hno=>⟨Region.free_spec hi hf j oj hj hji hun hno,needsAll_spec hn j oj hj hji hun hno⟩) (by simpa using hr) hy hS h
theorem zdg {i:Nat} {oi:Oper} {v:Value} {fuel:Nat} {listed:Array Bool} {a:Act} {w:World} (hi:ops[i]? = some oi) (hb:(Region.noSelect ops && Region.free md ops listed i && needsAll need md ops listed i && (Region.ready md ops listed).contains i)=true) (hy:YieldsIf P ops S oi v a) (hS:S w)
  (h:zdb P md ops Q S need fuel (listed.setIfInBounds i true) (a.put oi.dst v) w) (hQ:∀ c a w,Q (.panic c) (a.put oi.dst v) w→Q (.panic c) a w:=by exact fun _ _ _ h=>h):zdb P md ops Q S need (fuel+1) listed a w:=by
 simp only [Bool.and_eq_true] at hb;exact wpAnyN_take hi hb.1.1.1 hb.1.1.2 hb.1.2 hb.2 hQ hy hS h
theorem zde {i:Nat} {o:Oper} {fuel:Nat} {listed:Array Bool} {a:Act} {w:World} (hr:Region.ready md ops listed=[i]) (ho:ops[i]? = some o) (hw:Region.wanted o (yielded ops a.tmps)=true)
  (h:∀ K':Act→World→Prop,(∀ a' w',(need i=true→S w')∧zdb P md ops Q S need fuel (listed.setIfInBounds i true) a' w'→K' a' w')→Oper.wp P o a w K' Q) :
  zdb P md ops Q S need (fuel+1) listed a w:=by
 refine ⟨(fun h0=>by rw [hr] at h0;cases h0),fun j hj=>?_⟩;rw [hr] at hj;obtain rfl:j=i:=by simpa using hj
 exact wpOp_step ho (fun K' hK=>by rw [if_pos hw];exact h K' hK)
theorem zdd {listed:Array Bool} {a:Act} {w:World} (hr:Region.ready md ops listed=[]) (h:Q .normal a w) :
  ∀ fuel,zdb P md ops Q S need fuel listed a w
 | 0=>⟨hr,h⟩
 | _+1=>⟨fun _=>h,by rw [hr];simp⟩
theorem zdp (S:World→Prop) (need:Nat→Bool) {id:Nat} {a:Act} {w:World} (hm:P.follows .mixedOrders=true)
  (h:zdb P .any ops Q S need ops.size (Array.replicate ops.size false) a w.drew):(Code.region id ops true).wp P Q a w :=
 wp_region_any hm (wpAny_of_N _ _ _ _ h)
end
end Go.Proofs.YtbhbekocmpmjfaaGreatDoor
/- append inside a region that draws its order: the laws of App in the form of one operation. Rows of whatever elements, told by a list of their cells. No program is named here. -/
namespace Go.Proofs.YtbhbekocmpmjfaaGreatDoor
open Go Go.RowKit
theorem zbW {P:Program} {o:Oper} {a:Act} {w:World} {K:Act→World→Prop} {Q:Exit→Act→World→Prop} (hg:o.guard=none)
  (h:∀ Q':Exit→Act→World→Prop,(∀ a w,K a w→Q' .normal a w)→wpList P #[] Q' [o] a w):Oper.wp P o a w K Q:=by
 have h1:=h (fun e a w=>match e with | .normal=>K a w | .outgrown=>False | .panic c=>Q (.panic c) a w | _=>False) (fun _ _ h=>h);unfold wpList at h1;rw [if_pos (by simp [Region.wanted,hg])] at h1
 rcases h1 with h1 | ⟨_,a',w',h1⟩
 ·unfold Oper.wp at h1 ⊢;generalize (execOp a.eval o).run P w=r at h1 ⊢
  cases r with
  | ok n w' =>
   cases n <;> simp only [Oper.upon] at h1 ⊢
   case value u=>exact h1
   case skip=>exact h1
   case defer d=>exact h1
   case enter f args =>
    refine Calls.mono h1 fun e w'' he=>?_
    cases e with
    | returned u=>exact he
    | panicked c=>exact he
    | outgrown =>
     obtain ⟨a',w',h2⟩:=he;exact h2.elim
   case row row args=>exact Rows.mono h1 fun u w'' he=>he
   all_goals exact h1
  | halt x w' =>
   cases x <;> simp only [Oper.upon] at h1 ⊢
   case panic u=>exact h1
   all_goals exact h1
 ·exact h1.elim
theorem wp_append_row {P:Program} {w:World} {o:Oper} {a:Act} {K:Act→World→Prop} {Q:Exit→Act→World→Prop} (hgd:o.guard=none) (s x:Operand) (t:TypeId)
  (ho:o.op=.call { callee:=.builtin .append,args:=#[s,x],argTypes:=#[t,t] })
  (base:Nat) (e:TypeId) {z:Value} {size bytes:Nat} (ht:P.underlying t=some (.slice e)) (hinfo:(P.info? e).map (fun i=>(i.zero,i.size,i.bytes))=some (some z,size,bytes)) (hzs:z.cells.size=size) (hsz:0 < size)
  (v:Value) (n:Nat) (xs:List Value) (hs:a.eval s=v) (hown:w.ownsRow base e size v n xs)
  (xa:Option Addr) (m c lo hi:Nat) (f:Nat→Nat→Value) (hx:a.eval x=.slice xa m c) (hrow:RowIn w lo hi xa m c size f) (news:List Value) (hl:news.length=m * size)
  (hnews:∀ i,i < m→∀ j,j < size→news[i * size+j]? = some (f i j)) (h1:∀ u∈news,u.oneCell'=true)
  (h63:n+m≤maxLen) (hbytes:(n+m) * bytes≤140737488355328) (hbase:base≤w.heap.size)
  (h:∀ v' w',w'.ownsRow base e size v' (n+m) (xs++news)→w.grownBy w' v.ownBlock→(∀ k,v'.ownBlock=some k→v.ownBlock=some k∨w.heap.size≤k)→K (a.put o.dst v') w'):Oper.wp P o a w K Q :=
 zbW hgd fun _ hQ=>zdk hgd s x t ho base e ht hinfo hzs hsz v n xs hs hown xa m c lo hi f hx hrow news hl hnews h1 h63 hbytes hbase fun v' w' a1 a2 a3=>wpList_nil (hQ _ _ (h v' w' a1 a2 a3))
/-! ### rows told by a list -/
section
variable {α:Type} [Inhabited α] {cells:α→List Value} {k:Nat}
omit [Inhabited α] in
theorem flat_len (hk:∀ x,(cells x).length=k) (l:List α):(l.flatMap cells).length=l.length * k:=by
 induction l with
 | nil=>simp
 | cons p r ih=>simp only [List.flatMap_cons,List.length_append,List.length_cons,ih,hk];rw [Nat.add_mul];omega
theorem flat_at (hk:∀ x,(cells x).length=k) (l:List α):∀ i,i < l.length→∀ j,j < k→(l.flatMap cells)[i * k+j]? = some ((cells (l.getD i default)).getD j undef):=by
 induction l with
 | nil=>intro i hi;cases hi
 | cons p r ih =>
  intro i hi j hj
  cases i with
  | zero =>
   rw [Nat.zero_mul,Nat.zero_add,List.flatMap_cons,List.getElem?_append_left (by rw [hk];exact hj)]
   simp [List.getD,List.getElem?_eq_getElem (show j < (cells p).length by rw [hk];exact hj)]
  | succ i =>
   have:=ih i (by simpa using hi) j hj;rw [List.flatMap_cons,List.getElem?_append_right (by rw [hk,Nat.add_mul];omega),hk,show (i+1) * k+j - k=i * k+j by rw [Nat.add_mul];omega,this]
   simp
omit [Inhabited α] in
theorem flat_one (ho:∀ x,∀ u∈cells x,u.oneCell'=true) (l:List α):∀ u∈l.flatMap cells,u.oneCell'=true:=by
 intro u hu;obtain ⟨p,_,h⟩:=List.mem_flatMap.1 hu;exact ho p u h
end
end Go.Proofs.YtbhbekocmpmjfaaGreatDoor
/- PATHS: rows of ints; slices.Clone of one; append onto one. -/
namespace Go.Proofs.YtbhbekocmpmjfaaGreatDoor
open Go Go.RowKit
def IntsIn (w:World) (lo hi:Nat) (a:Option Addr) (c:Nat) (ts:List Int):Prop:=RowIn w lo hi a ts.length c 1 (fun i _=>.int .i64 (ts.getD i 0))
theorem IntsIn.agree {w w':World} {lo hi:Nat} {a:Option Addr} {c:Nat} {ts:List Int} (h:IntsIn w lo hi a c ts) (hag:Agree lo hi w w'):IntsIn w' lo hi a c ts:=RowIn.agree h hag
theorem IntsIn.mono {w:World} {lo hi lo' hi':Nat} {a:Option Addr} {c:Nat} {ts:List Int} (h:IntsIn w lo hi a c ts) (h1:lo'≤lo) (h2:hi≤hi'):IntsIn w lo' hi' a c ts:=RowIn.mono h h1 h2
theorem IntsIn.grew {w w':World} {lo hi:Nat} {a:Option Addr} {c:Nat} {ts:List Int} (h:IntsIn w lo hi a c ts) (hg:Grew w w') (hB:hi≤w.heap.size):IntsIn w' lo hi a c ts:=h.agree (hg.agree hB)
theorem IntsIn.at {w:World} {lo hi:Nat} {a:Option Addr} {c:Nat} {ts:List Int} (h:IntsIn w lo hi a c ts) {j:Nat} (hj:j < ts.length) :
  ∃ b o,a=some ⟨b,o,none⟩∧lo≤b∧b < hi∧w.cell? ⟨b,o+j,none⟩=some (.int .i64 (ts.getD j 0)):=by
 obtain ⟨b,o,ha,h1,h2,hc⟩:=h.2 (by omega);exact ⟨b,o,ha,h1,h2,by simpa using hc j hj 0 (by omega)⟩
theorem zbv {w:World} {lo hi:Nat}:IntsIn w lo hi none 0 []:=zcD
theorem zbw {w:World} {base:Nat} {e:TypeId} {v:Value} {ts:List Int} (h:w.ownsRow base e 1 v ts.length (ts.map (Value.int .i64))) :
  ∃ a c,v=.slice a ts.length c∧IntsIn w base w.heap.size a c ts:=by
 obtain ⟨hl,h⟩:=h
 rcases h with ⟨rfl,hn⟩ | ⟨g,cap,cur,rfl,hg,hh,hcap,hmax,hcur,htk⟩
 ·obtain rfl:ts=[]:=List.length_eq_zero_iff.1 hn;exact ⟨none,0,rfl,zbv⟩
 ·refine ⟨some ⟨g,0,none⟩,cap,rfl,⟨⟨by simp,hcap,hmax⟩,fun _=>⟨g,0,rfl,hg,?_,fun i hi j hj=>?_⟩⟩⟩
  ·rcases Nat.lt_or_ge g w.heap.size with h1 | h1
   ·exact h1
   ·rw [Array.getElem?_eq_none h1] at hh;cases hh
  ·obtain rfl:j=0:=by omega
   simp only [World.cell?,hh];have h2:(cur.toList.take (ts.length * 1))[i]? = some (Value.int .i64 (ts.getD i 0)):=by rw [htk];simp [List.getD,hi]
   rw [List.getElem?_take] at h2;simp only [Nat.mul_one,hi,if_true] at h2
   simpa using h2
theorem infoInt:(Tryz.prog.info? 3).map (fun i=>(i.zero,i.size,i.bytes))=some (some (.int .i64 0),1,8):=by kernel_rfl
theorem infoPath:(Tryz.prog.info? 27).map (fun i=>(i.zero,i.size,i.bytes))=some (some (.slice none 0 0),1,24):=by kernel_rfl
theorem ints_at (ts:List Int):∀ i,i < ts.length→∀ j,j < 1→(ts.map (Value.int .i64))[i * 1+j]? = some (.int .i64 (ts.getD i 0)):=fun i hi j hj=>by
 obtain rfl:j=0:=by omega
 simp [List.getD,hi]
set_option maxHeartbeats 400000 in
theorem zaU (a:Option Addr) (c:Nat) (l:List Int) (w:World) (lo hi:Nat) (hr:IntsIn w lo hi a c l) (hh:hi≤w.heap.size) (hl:l.length≤1048576) :
  Calls Tryz.prog 89 #[.slice a l.length c] w fun e w'=>∃ v,e=.returned v∧Grew w w'∧w'.ownsRow w.heap.size 3 1 v l.length ((List.map (Value.int .i64)) l):=by
 have qT:∀ (w:World) (a:Option Addr) (n c n' c':Nat),(binOp .eql 27 (.slice a n c) (.slice none n' c')).run Tryz.prog w=.ok (.bool a.isNone) w:=fun w a n c n' c'=>Lib.run_eql_slice_nil w _ _ a n c n' c' Tryz.underlying27
 cases a with
 | none =>
  obtain ⟨hz,rfl⟩:=hr.1.1 rfl;obtain rfl:l=[]:=List.length_eq_zero_iff.1 hz;clear hr
  go_enter Tryz.func89,Tryz.ntmps89
  go_wp2_with fail
  go_ret
  exact ⟨_,rfl,Grew.refl _,World.ownsRow_nil _ _ _ _⟩
 | some ad =>
  have hr':=hr.grew (Grew.alloc1 w (.cells #[] 3)) hh
  go_enter Tryz.func89,Tryz.ntmps89
  go_wp2_with (at_builtin;refine zdk rfl (.tmp 5) (.tmp 6) 27 rfl w.heap.size 3 Tryz.underlying27 infoInt rfl (by decide) (.slice (some ⟨w.heap.size,0,none⟩) 0 0) 0 [] rfl (zb6 w 3 1) (some ad) l.length c lo hi _ rfl hr' (l.map (Value.int .i64)) (by simp) (ints_at l) (ints_oneCell _ _) (by unfold maxLen;omega) (by omega) (by simp) ?_;intro v' w1 hown' hgrow hblk;obtain ⟨va',vc',rfl⟩:=zb4 hown')
  go_ret
  rw [Nat.zero_add,List.nil_append] at hown';exact ⟨_,rfl,(Grew.alloc1 _ _).grown hgrow (fun k hk=>by simp only [Value.ownBlock,Option.some.injEq] at hk;omega),hown'⟩
theorem wp_append_full {w:World} {o:Oper} {a:Act} {K:Act→World→Prop} {Q:Exit→Act→World→Prop} (hgd:o.guard=none) (s x:Operand)
  (ho:o.op=.call { callee:=.builtin .append,args:=#[s,x],argTypes:=#[27,27] })
  (pa:Option Addr) (pc:Nat) (p:List Int) (lo hi:Nat) (hp:IntsIn w lo hi pa pc p) (hs:a.eval s=.slice pa p.length p.length) (hl:p.length≤1048576)
  (b:Nat) (i:Int) (hx:a.eval x=.slice (some ⟨b,0,none⟩) 1 1) (hc:w.cell? ⟨b,0,none⟩=some (.int .i64 i))
  (h:∀ v' w',w'.ownsRow w.heap.size 3 1 v' (p++[i]).length ((p++[i]).map (Value.int .i64))→Grew w w'→K (a.put o.dst v') w'):Oper.wp Tryz.prog o a w K Q :=
 zbW hgd fun _ hQ=>by
  obtain ⟨i0,hi0,hz0,hz1,hz2⟩:=info_parts infoInt;refine wpList_append_grows w hgd s x 27 ho 3 i0 (.int .i64 0) 1 8 Tryz.underlying27 hi0 hz0 hz1 hz2 rfl (by decide) pa p.length p.length (p.map (Value.int .i64)) hs (fun h=>⟨(hp.1.1 h).1,(hp.1.1 h).1⟩) (by simp) (fun ad had j u hj=>?_) ⟨b,0,none⟩ 1 1 [.int .i64 i] hx rfl (fun j u hj=>?_) (by simp [Value.oneCell']) (by omega) (by unfold maxLen;omega) (by omega) (fun v' w' h1 h2=>wpList_nil (hQ _ _ (h v' w' ?_ ?_)))
  ·have hjl:j < p.length:=by
    rcases Nat.lt_or_ge j p.length with h2 | h2
    ·exact h2
    ·rw [List.getElem?_eq_none (by simpa using h2)] at hj;cases hj
   obtain ⟨b2,o2,hab,_,_,hc2⟩:=hp.at hjl;obtain rfl:ad=⟨b2,o2,none⟩:=by rw [had] at hab;exact Option.some.inj hab
   rw [Addr.add_lit,hc2,← hj]
   simp [List.getD,hjl]
  ·cases j with
   | zero=>rw [Addr.add_lit];simpa using hc.trans hj
   | succ j=>simp at hj
  ·simpa using h1
  ·exact (Grew.refl w).grown h2 (fun k hk=>by cases hk)
def NT.Bx (n:NT) (b:Nat) (w:World):Prop:=w.cell? ⟨b,0,none⟩=some (.bool n.lf)∧w.cell? ⟨b,1,none⟩=some (.slice n.pa n.ps.length n.pc)∧w.cell? ⟨b,2,none⟩=some (.slice n.ta n.ts.length n.tc)∧w.cell? ⟨b,3,none⟩=some (.slice n.ka n.ks.length n.kc)
theorem NT.Bx.keep {n:NT} {b:Nat} {w w':World} {S:Nat→Prop} (h:n.Bx b w) (hg:Keeps S w w') (hb:b < w.heap.size) (hS:¬ S b):n.Bx b w':=by
 have q:∀ j,w'.cell? ⟨b,j,none⟩=w.cell? ⟨b,j,none⟩:=fun j=>hg.cell (p:=⟨b,j,none⟩) hb hS;unfold NT.Bx at h ⊢;simp only [q];exact h
theorem NT.Bx.grew {n:NT} {b:Nat} {w w':World} (h:n.Bx b w) (hg:Grew w w') (hb:b < w.heap.size):n.Bx b w':=h.keep (hg.keeps Noth) hb (fun h=>h)
structure PN where
 a:Option Addr
 c:Nat
 l:List Int
instance:Inhabited PN:=⟨⟨none,0,[]⟩⟩
def PN.val (p:PN):Value:=.slice p.a p.l.length p.c
def PIn (w:World) (s:Nat) (O:Nat→Prop) (p:PN):Prop:=∃ lo hi,IntsIn w lo hi p.a p.c p.l∧hi≤w.heap.size∧∀ k,lo≤k→k < hi→s < k∧¬ O k
theorem PIn.moves {w w':World} {s:Nat} {O O':Nat→Prop} {p:PN} (h:PIn w s O p) (hk:Moves O w O' w'):PIn w' s O' p:=by
 obtain ⟨lo,hi,h1,h2,h3⟩:=h;exact ⟨lo,hi,h1.agree (hk.1.agree h2 (fun k a b=>(h3 k a b).2)),Nat.le_trans h2 hk.1.size,fun k a b=>⟨(h3 k a b).1,hk.notin (h3 k a b).2 (by omega)⟩⟩
theorem PIn.lies {w:World} {s:Nat} {O:Nat→Prop} {p:PN} (h:PIn w s O p):IntsIn w 0 w.heap.size p.a p.c p.l:=by
 obtain ⟨lo,hi,h1,h2,_⟩:=h;exact h1.mono (Nat.zero_le _) h2
/-! the paths of a tree at a path -/
mutual
def T.paths (p:List Int):T→List (List Int)
 | .mk _ _ _ ks=>p::T.pathsAll p 0 ks
def T.pathsAll (p:List Int) (i:Nat):List T→List (List Int)
 | []=>[]
 | k::r=>T.paths (p++[(i:Int)]) k++T.pathsAll p (i+1) r
end
theorem T.paths_eq (p:List Int) (t:T):t.paths p=p::T.pathsAll p 0 t.ks:=by cases t;simp [T.paths]
theorem T.pathsAll_append (p:List Int) (a b:List T):∀ i,T.pathsAll p i (a++b)=T.pathsAll p i a++T.pathsAll p (i+a.length) b:=by
 induction a with
 | nil=>intro i;simp [T.pathsAll]
 | cons x r ih=>intro i;simp [T.pathsAll,ih,Nat.add_assoc,Nat.add_comm 1]
theorem T.paths_le (t:T):∀ p,(t.paths p).length≤t.bulk:=by
 induction t using T.ind with
 | h t ih =>
  intro p
  have:∀ l:List T,(∀ k∈l,∀ p,(k.paths p).length≤k.bulk)→∀ i,(T.pathsAll p i l).length≤T.bulkAll l:=by
   intro l
   induction l with
   | nil=>intro _ i;simp [T.pathsAll]
   | cons x r ihr =>
    intro h i;have h1:=h x (by simp) (p++[(i:Int)]);have h2:=ihr (fun k hk=>h k (by simp [hk])) (i+1);simp only [T.pathsAll,T.bulkAll,List.length_append];omega
  have h1:=this t.ks ih 0;rw [T.paths_eq,T.bulk_eq,List.length_cons];omega
theorem T.pathsAll_le (p:List Int) (l:List T):∀ i,(T.pathsAll p i l).length≤T.bulkAll l:=by
 induction l with
 | nil=>intro i;simp [T.pathsAll]
 | cons x r ih =>
  intro i;have h1:=x.paths_le (p++[(i:Int)]);have h2:=ih (i+1);simp only [T.pathsAll,T.bulkAll,List.length_append];omega
theorem T.bulkAll_append (a b:List T):T.bulkAll (a++b)=T.bulkAll a+T.bulkAll b:=by
 induction a with
 | nil=>simp [T.bulkAll]
 | cons x r ih=>simp [T.bulkAll,ih];omega
theorem T.bulkAll_take (l:List NT) (j:Nat) (h:j < l.length):T.bulkAll ((l.map NT.er).take j)+(l.getD j default).er.bulk≤T.bulkAll (l.map NT.er):=by
 conv=>rhs;rw [← List.take_append_drop j (l.map NT.er),T.bulkAll_append,kids_drop l j h,T.bulkAll]
 omega
theorem T.pathsAll_take (p:List Int) (l:List NT) (j:Nat) (h:j < l.length):T.pathsAll p 0 ((l.map NT.er).take (j+1))=T.pathsAll p 0 ((l.map NT.er).take j)++(l.getD j default).er.paths (p++[(j:Int)]):=by
 rw [kids_take l j h,T.pathsAll_append]
 simp [T.pathsAll,Nat.min_eq_left (Nat.le_of_lt h)]
end Go.Proofs.YtbhbekocmpmjfaaGreatDoor
