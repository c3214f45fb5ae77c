/- THE TREES OF package api AS THEY LIE IN MEMORY: a located tree, its value, that it lies in a world between two block numbers; what a world keeps from another one. No program is named here. -/
import Derived.WalkKit
import Derived.Lib.Hide
import Derived.Deep.Draws
import Derived.Laws.IdiomStrings
import Derived.WalkLawsBesides
import Derived.Test.YtccobobnmpafbaaGreatDoorChecked
import Derived.Outline
import Derived.Laws.AppendOwnNone
import Derived.ArgAppend
import Derived.Lib.SliceRun
set_option maxRecDepth 100000
set_option maxHeartbeats 100000000
namespace Go.Proofs.YtccobobnmpafbaaGreatDoor
open Go Go.RowKit
theorem zQ0 {p : Prop} (h : p) : Go.RowKit.Hid p := h
theorem zQ1 {n : Nat} : n <= n := Nat.le_refl n
theorem zQ2 {l : List Go.Value} {ds} {d : Nat} {v : Go.Value} : Go.Act.put ⟨l.toArray,ds⟩ (some d) v = ⟨(l.set d v).toArray,ds⟩ := by simp [Go.Act.put]
theorem zcz{k:IntKind}{a b:Int}(h:a=b):Ending.returned (.int k a)=Ending.returned (.int k b):=by rw[h]
theorem zcy{a b:Bool}(h:a=b):Ending.returned (.bool a)=Ending.returned (.bool b):=by rw[h]
theorem ret_val{a b:Value}(h:a=b):Ending.returned a=Ending.returned b:=by rw[h]
abbrev zab:=ByteArray × ByteArray
inductive T where
 | mk (lf:Bool) (ps:List zab) (ts:List Int) (ks:List T)
instance:Inhabited T:=⟨.mk false [] [] []⟩
noncomputable instance:DecidableEq T:=fun a b=>Classical.propDecidable (a=b)
namespace T
def lf:T->Bool | .mk lf _ _ _=>lf
def ps:T->List zab | .mk _ ps _ _=>ps
def ts:T->List Int | .mk _ _ ts _=>ts
def ks:T->List T | .mk _ _ _ ks=>ks
end T
@[simp] theorem T.lf_mk {a b c d}:(T.mk a b c d).lf=a:=rfl
@[simp] theorem T.ps_mk {a b c d}:(T.mk a b c d).ps=b:=rfl
@[simp] theorem T.ts_mk {a b c d}:(T.mk a b c d).ts=c:=rfl
@[simp] theorem T.ks_mk {a b c d}:(T.mk a b c d).ks=d:=rfl
theorem T.eta(t:T):T.mk t.lf t.ps t.ts t.ks=t:=by cases t;rfl
theorem T.ind{p:T->Prop}(h:∀ n:T,(∀ k∈n.ks,p k)->p n):∀ n,p n:=by
 intro n;refine T.rec (motive_1:=p) (motive_2:=fun l=>∀ k∈l,p k) ?_ ?_ ?_ n
 ·intro lf ps ts ks ih;exact h _ ih
 ·intro k hk;cases hk
 ·intro x r hx hr k hk
  rcases List.mem_cons.1 hk with rfl | hk
  ·exact hx
  ·exact hr k hk
inductive NT where
 | mk (lf:Bool) (pa:Option Addr) (pc:Nat) (ps:List zab) (ta:Option Addr) (tc:Nat) (ts:List Int) (ka:Option Addr) (kc:Nat) (ks:List NT)
instance:Inhabited NT:=⟨.mk false none 0 [] none 0 [] none 0 []⟩
namespace NT
def lf:NT->Bool | .mk lf _ _ _ _ _ _ _ _ _=>lf
def pa:NT->Option Addr | .mk _ pa _ _ _ _ _ _ _ _=>pa
def pc:NT->Nat | .mk _ _ pc _ _ _ _ _ _ _=>pc
def ps:NT->List zab | .mk _ _ _ ps _ _ _ _ _ _=>ps
def ta:NT->Option Addr | .mk _ _ _ _ ta _ _ _ _ _=>ta
def tc:NT->Nat | .mk _ _ _ _ _ tc _ _ _ _=>tc
def ts:NT->List Int | .mk _ _ _ _ _ _ ts _ _ _=>ts
def ka:NT->Option Addr | .mk _ _ _ _ _ _ _ ka _ _=>ka
def kc:NT->Nat | .mk _ _ _ _ _ _ _ _ kc _=>kc
def ks:NT->List NT | .mk _ _ _ _ _ _ _ _ _ ks=>ks
end NT
@[simp] theorem NT.lf_mk {a b c d e f g h i j}:(NT.mk a b c d e f g h i j).lf=a:=rfl
@[simp] theorem NT.pa_mk {a b c d e f g h i j}:(NT.mk a b c d e f g h i j).pa=b:=rfl
@[simp] theorem NT.pc_mk {a b c d e f g h i j}:(NT.mk a b c d e f g h i j).pc=c:=rfl
@[simp] theorem NT.ps_mk {a b c d e f g h i j}:(NT.mk a b c d e f g h i j).ps=d:=rfl
@[simp] theorem NT.ta_mk {a b c d e f g h i j}:(NT.mk a b c d e f g h i j).ta=e:=rfl
@[simp] theorem NT.tc_mk {a b c d e f g h i j}:(NT.mk a b c d e f g h i j).tc=f:=rfl
@[simp] theorem NT.ts_mk {a b c d e f g h i j}:(NT.mk a b c d e f g h i j).ts=g:=rfl
@[simp] theorem NT.ka_mk {a b c d e f g h i j}:(NT.mk a b c d e f g h i j).ka=h:=rfl
@[simp] theorem NT.kc_mk {a b c d e f g h i j}:(NT.mk a b c d e f g h i j).kc=i:=rfl
@[simp] theorem NT.ks_mk {a b c d e f g h i j}:(NT.mk a b c d e f g h i j).ks=j:=rfl
def NT.er:NT->T
 | .mk lf _ _ ps _ _ ts _ _ ks=>.mk lf ps ts (NT.ers ks)
 where NT.ers:List NT->List T
 | []=>[]
 | k::r=>NT.er k::NT.ers r
def NT.val(n:NT):Value:=.agg #[.bool n.lf,.slice n.pa n.ps.length n.pc,.slice n.ta n.ts.length n.tc,.slice n.ka n.ks.length n.kc]
def NT.cell(n:NT)(j:Nat):Value:=match j with
 | 0=>.bool n.lf
 | 1=>.slice n.pa n.ps.length n.pc
 | 2=>.slice n.ta n.ts.length n.tc
 | _=>.slice n.ka n.ks.length n.kc
def RowIn(w:World)(lo hi:Nat)(a:Option Addr)(n c k:Nat)(f:Nat->Nat->Value):Prop :=
 ((a=none->n=0/\c=0)/\n<=c/\c<=maxLen)/\(0 < n->∃ b o,a=some ⟨b,o,none⟩/\lo<=b/\b < hi/\∀ i,i < n->∀ j,j < k->w.cell? ⟨b,o+i * k+j,none⟩=some (f i j))
def zca(p:zab)(j:Nat):Value:=match j with
 | 0=>.string p.1
 | _=>.string p.2
def PropsIn(w:World)(lo hi:Nat)(a:Option Addr)(c:Nat)(ps:List zab):Prop:=RowIn w lo hi a ps.length c 2 (fun i j=>zca (ps.getD i default) j)
def RunesIn(w:World)(lo hi:Nat)(a:Option Addr)(c:Nat)(ts:List Int):Prop:=RowIn w lo hi a ts.length c 1 (fun i _=>.int .i32 (ts.getD i 0))/\∀ r∈ts,-2147483648<=r/\r<=2147483647
mutual
def NT.In (w:World) (lo hi:Nat):NT->Prop
 | .mk _ pa pc ps ta tc ts ka kc ks=>PropsIn w lo hi pa pc ps/\RunesIn w lo hi ta tc ts/\RowIn w lo hi ka ks.length kc 4 (fun i j=>(ks.getD i default).cell j)/\NT.InAll w lo hi ks
def NT.InAll (w:World) (lo hi:Nat):List NT->Prop
 | []=>True
 | k::r=>NT.In w lo hi k/\NT.InAll w lo hi r
end
def KidsIn(w:World)(lo hi:Nat)(a:Option Addr)(c:Nat)(ks:List NT):Prop:=RowIn w lo hi a ks.length c 4 (fun i j=>(ks.getD i default).cell j)/\∀ k∈ks,k.In w lo hi
theorem NT.InAll_iff{w:World}{lo hi:Nat}{ks:List NT}:NT.InAll w lo hi ks ↔ ∀ k∈ks,k.In w lo hi:=by
 induction ks with
 | nil=>simp[NT.InAll]
 | cons x r ih=>simp[NT.InAll,ih]
theorem NT.In_iff{w:World}{lo hi:Nat}{n:NT}:n.In w lo hi ↔ PropsIn w lo hi n.pa n.pc n.ps/\RunesIn w lo hi n.ta n.tc n.ts/\KidsIn w lo hi n.ka n.kc n.ks:=by
 cases n
 simp only[NT.In,NT.InAll_iff,KidsIn,NT.pa_mk,NT.pc_mk,NT.ps_mk,NT.ta_mk,NT.tc_mk,NT.ts_mk,NT.ka_mk,NT.kc_mk,NT.ks_mk]
theorem NT.ind{p:NT->Prop}(h:∀ n:NT,(∀ k∈n.ks,p k)->p n):∀ n,p n:=by
 intro n;refine NT.rec (motive_1:=p) (motive_2:=fun l=>∀ k∈l,p k) ?_ ?_ ?_ n
 ·intro lf pa pc ps ta tc ts ka kc ks ih;exact h _ ih
 ·intro k hk;cases hk
 ·intro x r hx hr k hk
  rcases List.mem_cons.1 hk with rfl | hk
  ·exact hx
  ·exact hr k hk
@[simp] theorem NT.er_lf (n:NT):n.er.lf=n.lf:=by cases n;rfl
@[simp] theorem NT.er_ps (n:NT):n.er.ps=n.ps:=by cases n;rfl
@[simp] theorem NT.er_ts (n:NT):n.er.ts=n.ts:=by cases n;rfl
theorem NT.ers_eq(l:List NT):NT.er.NT.ers l=l.map NT.er:=by
 induction l with
 | nil=>rfl
 | cons x r ih=>simp[NT.er.NT.ers,ih]
@[simp] theorem NT.er_ks (n:NT):n.er.ks=n.ks.map NT.er:=by cases n;exact NT.ers_eq _
theorem NT.er_eq(n:NT):n.er=T.mk n.lf n.ps n.ts (n.ks.map NT.er):=by
 rw[<- T.eta n.er];simp
/-! ### what is kept -/
structure Keeps (S:Nat->Prop) (w w':World):Prop where
 os:w'.os=w.os
 tape:w'.tape=w.tape
 output:w'.output=w.output
 size:w.heap.size<=w'.heap.size
 block:∀ k,k < w.heap.size->¬ S k->w'.heap[k]? = w.heap[k]?
def Noth:Nat->Prop:=fun _=>False
theorem Keeps.refl(S:Nat->Prop)(w:World):Keeps S w w:=⟨rfl,rfl,rfl,Nat.le_refl _,fun _ _ _=>rfl⟩
theorem Keeps.trans{S:Nat->Prop}{a b c:World}(h:Keeps S a b)(k:Keeps S b c):Keeps S a c :=
 ⟨k.os.trans h.os,k.tape.trans h.tape,k.output.trans h.output,Nat.le_trans h.size k.size,fun i hi hs=>(k.block i (Nat.lt_of_lt_of_le hi h.size) hs).trans (h.block i hi hs)⟩
theorem Keeps.wider{S T:Nat->Prop}{a b:World}(h:Keeps S a b)(hT:∀ k,k < a.heap.size->S k->T k):Keeps T a b :=
 ⟨h.os,h.tape,h.output,h.size,fun i hi hs=>h.block i hi (fun hk=>hs (hT i hi hk))⟩
theorem Keeps.alloc{S:Nat->Prop}{a w:World}(h:Keeps S a w)(o:Obj):Keeps S a (w.alloc o) :=
 h.trans ⟨rfl,rfl,rfl,by simp,fun k hk _=>Below.heap_alloc _ _ _ hk⟩
theorem Keeps.drew{S:Nat->Prop}{a w:World}(h:Keeps S a w):Keeps S a w.drew:=⟨h.os,h.tape,h.output,h.size,h.block⟩
theorem Keeps.setCell{S:Nat->Prop}{a w:World}(h:Keeps S a w){p:Addr}(hp:a.heap.size<=p.block\/S p.block)(u:Value):Keeps S a (w.setCell p u):=by
 refine⟨h.os,h.tape,h.output,by simpa [World.setCell] using h.size,fun k hk hs=>?_⟩;rw[Below.heap_setCell _ _ _ _ (by rintro rfl;rcases hp with hp | hp;exact absurd hk (by omega);exact hs hp)];exact h.block k hk hs
theorem Keeps.below{S:Nat->Prop}{B:Nat}{w w':World}(h:Keeps S w w')(hB:B<=w.heap.size)(hS:∀ k,k < B->¬ S k):Below B w w' :=
 ⟨h.os,h.tape,h.output,h.size,fun k hk=>h.block k (by omega) (hS k hk)⟩
theorem Keeps.of_below{S:Nat->Prop}{w w':World}(h:Below w.heap.size w w'):Keeps S w w':=⟨h.os,h.tape,h.output,h.size,fun k hk _=>h.block k hk⟩
theorem Keeps.cell{S:Nat->Prop}{w w':World}(h:Keeps S w w'){p:Addr}(hp:p.block < w.heap.size)(hS:¬ S p.block):w'.cell? p=w.cell? p :=
 World.cell?_of_block (w:=w) (h.block p.block hp hS)
theorem Keeps.frozen{S:Nat->Prop}{w w':World}(h:Keeps S w w'){p:Addr}(hp:p.block < w.heap.size)(hS:¬ S p.block):w'.frozen? p=w.frozen? p :=
 World.frozen?_of_block (w:=w) (h.block p.block hp hS)
def Grew(w w':World):Prop:=Below w.heap.size w w'
theorem Grew.refl(w:World):Grew w w:=Below.refl _ _
theorem Grew.size{a b:World}(h:Grew a b):a.heap.size<=b.heap.size:=Below.size h
theorem Grew.trans{a b c:World}(h:Grew a b)(k:Grew b c):Grew a c:=Below.trans h (Below.mono k h.size)
theorem Grew.alloc{a w:World}(h:Grew a w)(o:Obj):Grew a (w.alloc o):=Below.alloc h h.size o
theorem Grew.drew{a w:World}(h:Grew a w):Grew a w.drew:=Below.drew h
theorem Grew.drewN{a w:World}(h:Grew a w)(n:Nat):Grew a (w.drewN n):=⟨h.os,h.tape,h.output,h.size,h.block⟩
theorem Grew.setCell{a w:World}(h:Grew a w){p:Addr}(hp:a.heap.size<=p.block)(u:Value):Grew a (w.setCell p u):=Below.setCell h hp u
theorem Grew.cell{a b:World}(h:Grew a b){p:Addr}(hp:p.block < a.heap.size):b.cell? p=a.cell? p:=Below.cell h hp
theorem Grew.frozen{a b:World}(h:Grew a b){p:Addr}(hp:p.block < a.heap.size):b.frozen? p=a.frozen? p:=Below.frozen h hp
theorem Grew.grown{a w w':World}{row:Option Nat}(h:Grew a w)(hg:w.grownBy w' row)(hr:∀ k,row=some k->a.heap.size<=k):Grew a w':=Below.grown h hg h.size hr
theorem Grew.keeps{a b:World}(h:Grew a b)(S:Nat->Prop):Keeps S a b:=Keeps.of_below h
theorem Grew.alloc1(w:World)(o:Obj):Grew w (w.alloc o):=(Grew.refl w).alloc o
theorem Keeps.grew{a b:World}(h:Keeps Noth a b):Grew a b:=h.below zQ1 (fun _ _ hk=>hk)
theorem Grew.keep{a b c:World}{S:Nat->Prop}(h:Grew a b)(k:Keeps S b c)(hS:∀ x,S x->a.heap.size<=x):Grew a c :=
 Below.trans h (k.below h.size (fun x h1 h2=>by have:=hS x h2;omega))
def Moves(O:Nat->Prop)(w:World)(O':Nat->Prop)(w':World):Prop:=Keeps O w w'/\∀ k,O' k->O k\/w.heap.size<=k
theorem Moves.refl(O:Nat->Prop)(w:World):Moves O w O w:=⟨Keeps.refl _ _,fun _ h=>Or.inl h⟩
theorem Moves.trans{O O' O'':Nat->Prop}{a b c:World}(h:Moves O a O' b)(k:Moves O' b O'' c):Moves O a O'' c:=by
 refine⟨⟨k.1.os.trans h.1.os,k.1.tape.trans h.1.tape,k.1.output.trans h.1.output,Nat.le_trans h.1.size k.1.size,fun i hi hs=>?_⟩,fun i hi=>?_⟩
 ·refine (k.1.block i (Nat.lt_of_lt_of_le hi h.1.size) (fun h'=>?_)).trans (h.1.block i hi hs)
  rcases h.2 i h' with h1 | h1
  ·exact hs h1
  ·omega
 ·rcases k.2 i hi with h1 | h1
  ·exact h.2 i h1
  ·exact Or.inr (Nat.le_trans h.1.size h1)
theorem Moves.grew{O:Nat->Prop}{a b:World}(h:Grew a b):Moves O a O b:=⟨Keeps.of_below h,fun _ h=>Or.inl h⟩
theorem Moves.notin{O O':Nat->Prop}{a b:World}(h:Moves O a O' b){k:Nat}(h1:¬ O k)(h2:k < a.heap.size):¬ O' k:=by
 intro h3
 rcases h.2 k h3 with h4 | h4
 ·exact h1 h4
 ·omega
theorem Keeps.own{b:Nat}{a w:World}(h:Keeps (·=b) a w)(o:Nat)(u:Value):Keeps (·=b) a (w.setCell ⟨b,o,none⟩ u):=h.setCell (Or.inr rfl) u
theorem box4{w w1:World}{c0 c1 c2 c3:Value}{t:TypeId}(g:Grew (w.alloc (.cells #[c0,c1,c2,c3] t)) w1) :
  w1.cell? ⟨w.heap.size,0,none⟩=some c0/\w1.cell? ⟨w.heap.size,1,none⟩=some c1/\w1.cell? ⟨w.heap.size,2,none⟩=some c2/\w1.cell? ⟨w.heap.size,3,none⟩=some c3/\w.heap.size < w1.heap.size:=by
 have hz:w.heap.size < (w.alloc (.cells #[c0,c1,c2,c3] t)).heap.size:=by simp
 refine⟨?_,?_,?_,?_,Nat.lt_of_lt_of_le hz g.size⟩
 all_goals
  rw[g.cell (by exact hz),World.cell?_alloc_new]
  rfl
theorem box2{w w1:World}{c0 c1 c2 c3:Value}{o:Obj}{t:TypeId}(g:Grew ((w.alloc o).alloc (.cells #[c0,c1,c2,c3] t)) w1) :
  w1.cell? ⟨w.heap.size+1,0,none⟩=some c0/\w1.cell? ⟨w.heap.size+1,1,none⟩=some c1/\w1.cell? ⟨w.heap.size+1,2,none⟩=some c2/\w1.cell? ⟨w.heap.size+1,3,none⟩=some c3:=by
 have h:=box4 g;simp only[World.size_alloc] at h;exact⟨h.1,h.2.1,h.2.2.1,h.2.2.2.1⟩
def Agree(lo hi:Nat)(w w':World):Prop:=∀ k,lo<=k->k < hi->w'.heap[k]? = w.heap[k]?
theorem Agree.cell{lo hi:Nat}{w w':World}(h:Agree lo hi w w'){p:Addr}(h1:lo<=p.block)(h2:p.block < hi):w'.cell? p=w.cell? p :=
 World.cell?_of_block (w:=w) (h p.block h1 h2)
theorem Below.agree{B lo hi:Nat}{w w':World}(h:Below B w w')(hB:hi<=B):Agree lo hi w w':=fun k _ h2=>h.block k (by omega)
theorem Keeps.agree{S:Nat->Prop}{lo hi:Nat}{w w':World}(h:Keeps S w w')(hB:hi<=w.heap.size)(hS:∀ k,lo<=k->k < hi->¬ S k):Agree lo hi w w' :=
 fun k h1 h2=>h.block k (by omega) (hS k h1 h2)
theorem Grew.agree{lo hi:Nat}{w w':World}(h:Grew w w')(hB:hi<=w.heap.size):Agree lo hi w w':=Below.agree h hB
theorem RowIn.agree{w w':World}{lo hi:Nat}{a:Option Addr}{n c k:Nat}{f:Nat->Nat->Value}(h:RowIn w lo hi a n c k f)(hag:Agree lo hi w w'):RowIn w' lo hi a n c k f:=by
 refine⟨h.1,fun hn=>?_⟩;obtain⟨b,o,ha,h1,h2,hc⟩:=h.2 hn;exact⟨b,o,ha,h1,h2,fun i hi j hj=>(hag.cell (p:=⟨b,o+i * k+j,none⟩) h1 h2).trans (hc i hi j hj)⟩
theorem RowIn.mono{w:World}{lo hi lo' hi':Nat}{a:Option Addr}{n c k:Nat}{f:Nat->Nat->Value}(h:RowIn w lo hi a n c k f)(h1:lo'<=lo)(h2:hi<=hi'):RowIn w lo' hi' a n c k f:=by
 refine⟨h.1,fun hn=>?_⟩;obtain⟨b,o,ha,g1,g2,hc⟩:=h.2 hn;exact⟨b,o,ha,by omega,by omega,hc⟩
theorem PropsIn.agree{w w':World}{lo hi:Nat}{a:Option Addr}{c:Nat}{ps:List zab}(h:PropsIn w lo hi a c ps)(hag:Agree lo hi w w'):PropsIn w' lo hi a c ps:=RowIn.agree h hag
theorem PropsIn.mono{w:World}{lo hi lo' hi':Nat}{a:Option Addr}{c:Nat}{ps:List zab}(h:PropsIn w lo hi a c ps)(h1:lo'<=lo)(h2:hi<=hi'):PropsIn w lo' hi' a c ps:=RowIn.mono h h1 h2
theorem RunesIn.agree{w w':World}{lo hi:Nat}{a:Option Addr}{c:Nat}{ts:List Int}(h:RunesIn w lo hi a c ts)(hag:Agree lo hi w w'):RunesIn w' lo hi a c ts:=⟨RowIn.agree h.1 hag,h.2⟩
theorem RunesIn.mono{w:World}{lo hi lo' hi':Nat}{a:Option Addr}{c:Nat}{ts:List Int}(h:RunesIn w lo hi a c ts)(h1:lo'<=lo)(h2:hi<=hi'):RunesIn w lo' hi' a c ts:=⟨RowIn.mono h.1 h1 h2,h.2⟩
theorem NT.In.agree{w w':World}{lo hi:Nat}{n:NT}(h:n.In w lo hi)(hag:Agree lo hi w w'):n.In w' lo hi:=by
 induction n using NT.ind with
 | h n ih =>
  rw[NT.In_iff] at h ⊢;exact⟨h.1.agree hag,h.2.1.agree hag,h.2.2.1.agree hag,fun k hk=>ih k hk (h.2.2.2 k hk)⟩
theorem NT.In.mono{w:World}{lo hi lo' hi':Nat}{n:NT}(h:n.In w lo hi)(h1:lo'<=lo)(h2:hi<=hi'):n.In w lo' hi':=by
 induction n using NT.ind with
 | h n ih =>
  rw[NT.In_iff] at h ⊢;exact⟨h.1.mono h1 h2,h.2.1.mono h1 h2,h.2.2.1.mono h1 h2,fun k hk=>ih k hk (h.2.2.2 k hk)⟩
theorem KidsIn.agree{w w':World}{lo hi:Nat}{a:Option Addr}{c:Nat}{ks:List NT}(h:KidsIn w lo hi a c ks)(hag:Agree lo hi w w'):KidsIn w' lo hi a c ks:=⟨h.1.agree hag,fun k hk=>(h.2 k hk).agree hag⟩
theorem KidsIn.mono{w:World}{lo hi lo' hi':Nat}{a:Option Addr}{c:Nat}{ks:List NT}(h:KidsIn w lo hi a c ks)(h1:lo'<=lo)(h2:hi<=hi'):KidsIn w lo' hi' a c ks:=⟨h.1.mono h1 h2,fun k hk=>(h.2 k hk).mono h1 h2⟩
theorem NT.In.grew{w w':World}{lo hi:Nat}{n:NT}(h:n.In w lo hi)(hg:Grew w w')(hB:hi<=w.heap.size):n.In w' lo hi:=h.agree (hg.agree hB)
def NT.Ok(w:World)(n:NT):Prop:=n.In w 0 w.heap.size
theorem NT.Ok.grew{w w':World}{n:NT}(h:n.Ok w)(hg:Grew w w'):n.Ok w':=NT.In.mono (NT.In.grew h hg zQ1) zQ1 hg.size
theorem NT.In.ok{w:World}{lo hi:Nat}{n:NT}(h:n.In w lo hi)(hB:hi<=w.heap.size):n.Ok w:=h.mono (Nat.zero_le _) hB
theorem PropsIn.at{w:World}{lo hi:Nat}{a:Option Addr}{c:Nat}{ps:List zab}(h:PropsIn w lo hi a c ps){j:Nat}(hj:j < ps.length) :
  ∃ b o,a=some ⟨b,o,none⟩/\lo<=b/\b < hi/\w.cell? ⟨b,o+j * 2,none⟩=some (.string (ps.getD j default).1)/\w.cell? ⟨b,o+j * 2+1,none⟩=some (.string (ps.getD j default).2):=by
 obtain⟨b,o,ha,h1,h2,hc⟩:=h.2 (by omega);exact⟨b,o,ha,h1,h2,hc j hj 0 (by omega),hc j hj 1 (by omega)⟩
theorem RunesIn.at{w:World}{lo hi:Nat}{a:Option Addr}{c:Nat}{ts:List Int}(h:RunesIn w lo hi a c ts){j:Nat}(hj:j < ts.length) :
  ∃ b o,a=some ⟨b,o,none⟩/\lo<=b/\b < hi/\w.cell? ⟨b,o+j,none⟩=some (.int .i32 (ts.getD j 0))/\-2147483648<=ts.getD j 0/\ts.getD j 0<=2147483647:=by
 obtain⟨b,o,ha,h1,h2,hc⟩:=h.1.2 (by omega);have:=hc j hj 0 (by omega);have hm:=h.2 (ts.getD j 0) (by simp[List.getD,List.getElem?_eq_getElem hj]);exact⟨b,o,ha,h1,h2,by simpa using this,hm.1,hm.2⟩
theorem KidsIn.at{w:World}{lo hi:Nat}{a:Option Addr}{c:Nat}{ks:List NT}(h:KidsIn w lo hi a c ks){j:Nat}(hj:j < ks.length) :
  ∃ b o,a=some ⟨b,o,none⟩/\lo<=b/\b < hi/\w.cell? ⟨b,o+j * 4,none⟩=some (.bool (ks.getD j default).lf) /\
   w.cell? ⟨b,o+j * 4+1,none⟩=some (.slice (ks.getD j default).pa (ks.getD j default).ps.length (ks.getD j default).pc) /\
   w.cell? ⟨b,o+j * 4+2,none⟩=some (.slice (ks.getD j default).ta (ks.getD j default).ts.length (ks.getD j default).tc) /\
   w.cell? ⟨b,o+j * 4+3,none⟩=some (.slice (ks.getD j default).ka (ks.getD j default).ks.length (ks.getD j default).kc):=by
 obtain⟨b,o,ha,h1,h2,hc⟩:=h.1.2 (by omega);exact⟨b,o,ha,h1,h2,hc j hj 0 (by omega),hc j hj 1 (by omega),hc j hj 2 (by omega),hc j hj 3 (by omega)⟩
theorem PropsIn.grew{w w':World}{lo hi:Nat}{a:Option Addr}{c:Nat}{ps:List zab}(h:PropsIn w lo hi a c ps)(hg:Grew w w')(hB:hi<=w.heap.size):PropsIn w' lo hi a c ps:=h.agree (hg.agree hB)
theorem RunesIn.grew{w w':World}{lo hi:Nat}{a:Option Addr}{c:Nat}{ps:List Int}(h:RunesIn w lo hi a c ps)(hg:Grew w w')(hB:hi<=w.heap.size):RunesIn w' lo hi a c ps:=h.agree (hg.agree hB)
theorem KidsIn.grew{w w':World}{lo hi:Nat}{a:Option Addr}{c:Nat}{ps:List NT}(h:KidsIn w lo hi a c ps)(hg:Grew w w')(hB:hi<=w.heap.size):KidsIn w' lo hi a c ps:=h.agree (hg.agree hB)
theorem NT.Ok.of{w:World}{n:NT}(hp:PropsIn w 0 w.heap.size n.pa n.pc n.ps)(ht:RunesIn w 0 w.heap.size n.ta n.tc n.ts)(hk:KidsIn w 0 w.heap.size n.ka n.kc n.ks):n.Ok w:=NT.In_iff.2 ⟨hp,ht,hk⟩
/-! ### bulk -/
def zcb:List zab->Nat
 | []=>0
 | p::r=>1+p.1.size+p.2.size+zcb r
mutual
def T.bulk:T->Nat
 | .mk _ ps ts ks=>1+zcb ps+ts.length+T.bulkAll ks
def T.bulkAll:List T->Nat
 | []=>0
 | k::r=>T.bulk k+T.bulkAll r
end
theorem T.bulk_eq(n:T):n.bulk=1+zcb n.ps+n.ts.length+T.bulkAll n.ks:=by cases n;simp[T.bulk]
theorem zcc(ps:List zab):ps.length<=zcb ps:=by
 induction ps with
 | nil=>simp[zcb]
 | cons p r ih=>simp[zcb];omega
theorem T.bulk_pos(n:T):1<=n.bulk:=by rw[T.bulk_eq];omega
theorem T.bulkAll_len(ks:List T):ks.length<=T.bulkAll ks:=by
 induction ks with
 | nil=>simp[T.bulkAll]
 | cons p r ih=>have:=T.bulk_pos p;simp[T.bulkAll];omega
theorem T.bulk_mem{ks:List T}{k:T}(h:k∈ks):k.bulk<=T.bulkAll ks:=by
 induction ks with
 | nil=>cases h
 | cons p r ih =>
  rcases List.mem_cons.1 h with rfl | h
  ·simp[T.bulkAll]
  ·have:=ih h;simp[T.bulkAll];omega
theorem T.bulk_kid{n k:T}(h:k∈n.ks):k.bulk < n.bulk:=by
 have:=T.bulk_mem h;have:=n.bulk_eq;omega
theorem propsBulk_mem{ps:List zab}{p:zab}(h:p∈ps):1+p.1.size+p.2.size<=zcb ps:=by
 induction ps with
 | nil=>cases h
 | cons p r ih =>
  rcases List.mem_cons.1 h with rfl | h
  ·simp[zcb]
  ·have:=ih h;simp[zcb];omega
theorem NT.lens(n:NT):n.ps.length+n.ts.length+n.ks.length < n.er.bulk:=by
 have h1:=zcc n.er.ps;have h2:=T.bulkAll_len n.er.ks;rw[T.bulk_eq];simp only[NT.er_ps,NT.er_ts,NT.er_ks,List.length_map] at *;omega
theorem zaZ{α:Type}[Inhabited α](l:List α)(k:Nat)(h:k < l.length):l.drop k=l.getD k default::l.drop (k+1):=by
 rw[List.drop_eq_getElem_cons h];simp[List.getD,List.getElem?_eq_getElem h]
theorem zc2{α:Type}[Inhabited α](l:List α)(k:Nat)(h:k < l.length):l.take (k+1)=l.take k++[l.getD k default]:=by
 rw[List.take_succ_eq_append_getElem h];simp[List.getD,List.getElem?_eq_getElem h]
theorem zc3(l:List Int)(k:Nat)(h:k < l.length):l.take (k+1)=l.take k++[l.getD k 0]:=zc2 l k h
theorem zbQ{α:Type}{l m:List α}{k:Nat}{d:α}(h:l.getD k d≠m.getD k d):l≠m:=fun e=>h (by rw[e])
theorem zbd{α:Type}[Inhabited α](l:List α)(k:Nat)(h:k < l.length):l.getD k default∈l:=by
 simp[List.getD,List.getElem?_eq_getElem h]
theorem kids_drop(l:List NT)(k:Nat)(h:k < l.length):(l.map NT.er).drop k=(l.getD k default).er::(l.map NT.er).drop (k+1):=by
 rw[<- List.map_drop,<- List.map_drop,zaZ l k h,List.map_cons]
theorem kids_drop_end(l:List NT)(k:Nat)(h:l.length<=k):(l.map NT.er).drop k=[]:=List.drop_of_length_le (by simpa using h)
theorem kids_take(l:List NT)(k:Nat)(h:k < l.length):(l.map NT.er).take (k+1)=(l.map NT.er).take k++[(l.getD k default).er]:=by
 rw[<- List.map_take,<- List.map_take,zc2 l k h,List.map_append];rfl
theorem er_mem{l:List NT}{x:NT}(h:x∈l):x.er∈l.map NT.er:=List.mem_map_of_mem h
end Go.Proofs.YtccobobnmpafbaaGreatDoor
namespace Go.Proofs.YtccobobnmpafbaaGreatDoor
open Go Go.RowKit
def leftP:List zab->Int->Int
 | [],m=>m
 | p::r,m=>leftP r (m - ((p.1.size / 64:Nat)+(p.2.size / 64:Nat):Int))
mutual
def zbB:T->Int->Int
 | .mk _ ps ts ks,m=>if leftP ps (m - (1+ts.length+ps.length)) < 0 then -1 else leftK ks (leftP ps (m - (1+ts.length+ps.length)))
def leftK:List T->Int->Int
 | [],m=>m
 | k::r,m=>if zbB k m < 0 then -1 else leftK r (zbB k m)
end
theorem leftT_eq(n:T)(m:Int):zbB n m=if leftP n.ps (m - (1+n.ts.length+n.ps.length)) < 0 then -1 else leftK n.ks (leftP n.ps (m - (1+n.ts.length+n.ps.length))):=by
 cases n;rw[zbB];rfl
theorem leftT_er(n:NT)(m:Int):zbB n.er m=if leftP n.ps (m - (1+n.ts.length+n.ps.length)) < 0 then -1 else leftK (n.ks.map NT.er) (leftP n.ps (m - (1+n.ts.length+n.ps.length))):=by
 rw[leftT_eq,NT.er_ps,NT.er_ts,NT.er_ks]
theorem leftP_le(ps:List zab):∀ m,leftP ps m<=m:=by
 induction ps with
 | nil=>intro m;simp[leftP]
 | cons p r ih=>intro m;have:=ih (m - ((p.1.size / 64:Nat)+(p.2.size / 64:Nat):Int));simp only[leftP];omega
theorem leftT_both(n:T):∀ m,0<=m->-1<=zbB n m/\zbB n m<=m:=by
 induction n using T.ind with
 | h n ih =>
  have hk:∀(ks:List T),(∀ k∈ks,∀ m,0<=m->-1<=zbB k m/\zbB k m<=m)->∀ m,0<=m->-1<=leftK ks m/\leftK ks m<=m:=by
   intro ks
   induction ks with
   | nil=>intro _ m hm;simp only[leftK];omega
   | cons x r ihr =>
    intro h m hm;have h1:=h x (by simp) m hm;have h2:=ihr (fun k hk=>h k (by simp[hk]));simp only[leftK]
    split
    ·omega
    ·have:=h2 (zbB x m) (by omega);omega
  intro m hm;rw[leftT_eq];have h1:=leftP_le n.ps (m - (1+n.ts.length+n.ps.length))
  split
  ·omega
  ·have:=hk n.ks ih (leftP n.ps (m - (1+n.ts.length+n.ps.length))) (by omega);omega
def few(n:T)(m:Int):Bool:=decide (0<=zbB n m)
theorem zcC{w:World}{c:Array Value}{t:TypeId}{n cp k:Nat}{f:Nat->Nat->Value}(hn:n<=cp)(hm:cp<=maxLen)(h:∀ i,i < n->∀ j,j < k->c[i * k+j]? = some (f i j)):RowIn (w.alloc (.cells c t)) w.heap.size (w.heap.size+1) (some ⟨w.heap.size,0,none⟩) n cp k f:=by
 refine⟨⟨by simp,hn,hm⟩,fun _=>⟨w.heap.size,0,rfl,Nat.le_refl _,by omega,fun i hi j hj=>?_⟩⟩;rw[World.cell?_alloc_new,show 0+i * k+j=i * k+j by omega];exact h i hi j hj
theorem zcD{w:World}{lo hi:Nat}{k:Nat}{f:Nat->Nat->Value}:RowIn w lo hi none 0 0 k f:=⟨⟨fun _=>⟨rfl,rfl⟩,Nat.le_refl _,Nat.zero_le _⟩,fun h=>absurd h (by simp)⟩
theorem propsIn_nil{w:World}{lo hi:Nat}:PropsIn w lo hi none 0 []:=zcD
theorem zcI{w:World}{lo hi:Nat}:RunesIn w lo hi none 0 []:=⟨zcD,by simp⟩
theorem zby{w:World}{lo hi:Nat}:KidsIn w lo hi none 0 []:=⟨zcD,by simp⟩
theorem ownsRow_mono{w:World}{base base':Nat}{e:TypeId}{size:Nat}{v:Value}{n:Nat}{xs:List Value}(h:w.ownsRow base e size v n xs)(hb:base'<=base):w.ownsRow base' e size v n xs:=by
 obtain⟨h1,h2⟩:=h;refine⟨h1,?_⟩
 rcases h2 with h2 | ⟨g,cap,cur,hv,hg,r⟩
 ·exact Or.inl h2
 ·exact Or.inr ⟨g,cap,cur,hv,by omega,r⟩
theorem zdi{P:Program}{w:World}{ops:Array Oper}{rest:List Oper}{o:Oper}{a:Act}{Q:Exit->Act->World->Prop}(hgd:o.guard=none)(s x:Operand)(t:TypeId)(ho:o.op=.call { callee:=.builtin .append,args:=#[s,x],argTypes:=#[t,t] })(base:Nat)(e:TypeId){z:Value}{size bytes:Nat}(ht:P.underlying t=some (.slice e))(hinfo:(P.info? e).map (fun i=>(i.zero,i.size,i.bytes))=some (some z,size,bytes))(hzs:z.cells.size=size)(hsz:0 < size)(v:Value)(n:Nat)(xs:List Value)(hs:a.eval s=v)(hown:w.ownsRow base e size v n xs)(xa:Option Addr)(m c lo hi:Nat)(f:Nat->Nat->Value)(hx:a.eval x=.slice xa m c)(hrow:RowIn w lo hi xa m c size f)(news:List Value)(hl:news.length=m * size)(hnews:∀ i,i < m->∀ j,j < size->news[i * size+j]? = some (f i j))(h1:∀ u∈news,u.oneCell'=true)(h63:n+m<=maxLen)(hbytes:(n+m) * bytes<=140737488355328)(hbase:base<=w.heap.size)(h:∀ v' w',w'.ownsRow base e size v' (n+m) (xs++news)->w.grownBy w' v.ownBlock->(∀ k,v'.ownBlock=some k->v.ownBlock=some k\/w.heap.size<=k)->wpList P ops Q rest (a.put o.dst v') w'):wpList P ops Q (o::rest) a w:=by
 obtain⟨i0,hi0,hz0,hz1,hz2⟩:=info_parts hinfo
 cases xa with
 | none =>
  obtain⟨rfl,rfl⟩:=hrow.1.1 rfl;obtain rfl:news=[]:=by simpa using hl
  refine wpList_append_own_none hgd s x t ho base e i0 size ht hi0 v n xs hs hown hx ?_;exact h v w (by simpa using hown) (World.grownBy.refl _ _) (fun k hk=>Or.inl hk)
 | some ad =>
  have hcells:∀ j u,news[j]? = some u->w.cell? (ad.add j)=some u:=by
   intro j u hj
   rcases Nat.eq_zero_or_pos m with hm | hm
   ·subst hm;obtain rfl:news=[]:=by simpa using hl
    simp at hj
   ·obtain⟨b,off,hab,_,_,hc⟩:=hrow.2 hm;obtain rfl:ad=⟨b,off,none⟩:=Option.some.inj hab
    have hjl:j < m * size:=by
     rw[<- hl]
     rcases Nat.lt_or_ge j news.length with h2 | h2
     ·exact h2
     ·rw[List.getElem?_eq_none h2] at hj;cases hj
    have hq:j / size < m:=Nat.div_lt_of_lt_mul (by rw[Nat.mul_comm];exact hjl);have hr:j % size < size:=Nat.mod_lt _ hsz;have e1:j / size * size+j % size=j:=by rw[Nat.mul_comm];exact Nat.div_add_mod j size
    have h3:=hc (j / size) hq (j % size) hr;have h4:=hnews (j / size) hq (j % size) hr;rw[e1] at h4;rw[h4] at hj;obtain rfl:=Option.some.inj hj;rw[Nat.add_assoc,e1] at h3;unfold Addr.add
    split
    ·rename_i h0;subst h0;exact h3
    ·exact h3
  rcases hown.2 with ⟨rfl,rfl⟩ | ⟨g,cap,cur,rfl,hbg,hg,hnc,hcm,hcs,htake⟩
  ·refine wpList_append_own w hgd s x t ho w.heap.size e i0 z size bytes ht hi0 hz0 hz1 hz2 hzs hsz _ 0 xs hs ⟨hown.1,Or.inl ⟨rfl,rfl⟩⟩ ad m c news hx hl hcells h1 h63 hbytes zQ1 (fun v' w' h2 h3 _=>h v' w' (ownsRow_mono h2 hbase) h3 (fun k hk=>Or.inr (h2.lt k hk).1))
  ·by_cases hroom:n+m<=cap
   ·exact wpList_append_fits w hgd s x t ho base e i0 size ht hi0 hz1 g n cap xs hs hown ad m c news hx hl hcells h1 hroom (fun w' h2 h3=>h _ w' h2 h3 (fun k hk=>Or.inl hk))
   ·exact wpList_append_grows w hgd s x t ho e i0 z size bytes ht hi0 hz0 hz1 hz2 hzs hsz _ n cap xs hs (by simp) hown.1 (fun b hb=>by obtain rfl:=Option.some.inj hb;exact hown.cells rfl) ad m c news hx hl hcells h1 (by omega) h63 hbytes
     (fun v' w' h2 h3=>h v' w' (ownsRow_mono h2 hbase) ⟨h3.os,h3.tape,h3.output,h3.size,fun k hk _=>h3.block k hk (by simp)⟩ (fun k hk=>Or.inr (h2.lt k hk).1))
theorem wpList_append_runes{P:Program}{w:World}{ops:Array Oper}{rest:List Oper}{o:Oper}{a:Act}{Q:Exit->Act->World->Prop}(hgd:o.guard=none)(s x:Operand)(t:TypeId)(ho:o.op=.call { callee:=.builtin .append,args:=#[s,x],argTypes:=#[t,t] })(base:Nat)(e:TypeId){bytes:Nat}(ht:P.underlying t=some (.slice e))(hinfo:(P.info? e).map (fun i=>(i.zero,i.size,i.bytes))=some (some (.int .i32 0),1,bytes))(v:Value)(n:Nat)(xs:List Value)(hs:a.eval s=v)(hown:w.ownsRow base e 1 v n xs)(xa:Option Addr)(ts:List Int)(c lo hi:Nat)(hx:a.eval x=.slice xa ts.length c)(hrow:RunesIn w lo hi xa c ts)(h63:n+ts.length<=maxLen)(hbytes:(n+ts.length) * bytes<=140737488355328)(hbase:base<=w.heap.size)(h:∀ v' w',w'.ownsRow base e 1 v' (n+ts.length) (xs++ts.map (Value.int .i32))->w.grownBy w' v.ownBlock->(∀ k,v'.ownBlock=some k->v.ownBlock=some k\/w.heap.size<=k)->wpList P ops Q rest (a.put o.dst v') w'):wpList P ops Q (o::rest) a w :=
 zdi hgd s x t ho base e ht hinfo rfl (by decide) v n xs hs hown xa ts.length c lo hi _ hx hrow.1 (ts.map (Value.int .i32)) (by simp)
  (fun i hi j hj=>by
   obtain rfl:j=0:=by omega
   simp[List.getD,hi]) (ints_oneCell _ _) h63 hbytes hbase h
theorem zb2{w:World}{base:Nat}{e:TypeId}{size:Nat}{v:Value}{n:Nat}{xs:List Value}(h:w.ownsRow base e size v n xs):∃ a c,v=.slice a n c:=by
 rcases h.2 with ⟨rfl,rfl⟩ | ⟨g,cap,cur,rfl,_⟩
 ·exact⟨_,_,rfl⟩
 ·exact⟨_,_,rfl⟩
theorem ownsRow_other{w:World}{base:Nat}{e:TypeId}{size:Nat}{v:Value}{n:Nat}{xs:List Value}(h:w.ownsRow base e size v n xs){a:Addr}(ha:v.ownBlock≠some a.block)(u:Value):(w.setCell a u).ownsRow base e size v n xs:=by
 obtain⟨h1,h2⟩:=h;refine⟨h1,?_⟩
 rcases h2 with h2 | ⟨g,cap,cur,hv,hg,hh,r⟩
 ·exact Or.inl h2
 ·subst hv;refine Or.inr ⟨g,cap,cur,rfl,hg,?_,r⟩;rw[Below.heap_setCell _ _ _ _ (fun e=>ha (by rw[<- e];rfl))];exact hh
theorem zbj{w w':World}{row:Option Nat}(h:w.grownBy w' row){O:Nat->Prop}(hO:∀ k,row=some k->O k):Keeps O w w' :=
 ⟨h.os,h.tape,h.output,h.size,fun k hk hn=>h.block k hk (fun e=>hn (hO k e.symm))⟩
theorem zb4{w w':World}{base:Nat}{e:TypeId}{size:Nat}{v:Value}{n:Nat}{xs:List Value}(h:w.ownsRow base e size v n xs)(hg:Grew w w'):w'.ownsRow base e size v n xs:=by
 obtain⟨h1,h2⟩:=h;refine⟨h1,?_⟩
 rcases h2 with h2 | ⟨g,cap,cur,hv,hg2,hh,r⟩
 ·exact Or.inl h2
 ·have hlt:g < w.heap.size:=by
   rcases Nat.lt_or_ge g w.heap.size with h1 | h1
   ·exact h1
   ·rw[Array.getElem?_eq_none h1] at hh;cases hh
  exact Or.inr ⟨g,cap,cur,hv,hg2,(hg.block g hlt).trans hh,r⟩
theorem runesIn_owned{w:World}{base:Nat}{e:TypeId}{v:Value}{ts:List Int}(h:w.ownsRow base e 1 v ts.length (ts.map (Value.int .i32)))(hr:∀ r∈ts,-2147483648<=r/\r<=2147483647) :
  ∃ a c,v=.slice a ts.length c/\RunesIn w base w.heap.size a c ts:=by
 obtain⟨hl,h⟩:=h
 rcases h with ⟨rfl,hn⟩ | ⟨g,cap,cur,rfl,hg,hh,hcap,hmax,hcur,htk⟩
 ·obtain rfl:ts=[]:=List.length_eq_zero_iff.1 hn;exact⟨none,0,rfl,zcD,hr⟩
 ·refine⟨some ⟨g,0,none⟩,cap,rfl,⟨⟨by simp,hcap,hmax⟩,fun _=>⟨g,0,rfl,hg,?_,fun i hi j hj=>?_⟩⟩,hr⟩
  ·rcases Nat.lt_or_ge g w.heap.size with h1 | h1
   ·exact h1
   ·rw[Array.getElem?_eq_none h1] at hh;cases hh
  ·obtain rfl:j=0:=by omega
   simp only[World.cell?,hh];have h2:(cur.toList.take (ts.length * 1))[i]? = some (Value.int .i32 (ts.getD i 0)):=by rw[htk];simp[List.getD,hi]
   rw[List.getElem?_take] at h2;simp only[Nat.mul_one,hi,if_true] at h2
   simpa using h2
theorem infoRuneC:(Tryz.prog.info? 21).map (fun i=>(i.zero,i.size,i.bytes))=some (some (.int .i32 0),1,4):=by kernel_rfl
theorem infoPropC:(Tryz.prog.info? 101).map (fun i=>(i.zero,i.size,i.bytes))=some (some (.agg #[.string .empty,.string .empty]),2,32):=by kernel_rfl
theorem infoNodeC:(Tryz.prog.info? 26).map (fun i=>(i.zero,i.size,i.bytes))=some (some (.agg #[.bool false,.slice none 0 0,.slice none 0 0,.slice none 0 0]),4,80):=by kernel_rfl
theorem zb3(w:World)(e:TypeId)(size:Nat):(w.alloc (.cells #[] e)).ownsRow w.heap.size e size (.slice (some ⟨w.heap.size,0,none⟩) 0 0) 0 [] :=
 ⟨by simp,Or.inr ⟨w.heap.size,0,#[],rfl,Nat.le_refl _,heap_alloc_new _ _,Nat.le_refl _,Nat.zero_le _,by simp,by simp⟩⟩
def zaH(ps:List zab):List Value:=ps.flatMap fun p=>[.string p.1,.string p.2]
def zaB(ks:List NT):List Value:=ks.flatMap fun k=>[.bool k.lf,.slice k.pa k.ps.length k.pc,.slice k.ta k.ts.length k.tc,.slice k.ka k.ks.length k.kc]
theorem cellsOfProps_len(ps:List zab):(zaH ps).length=ps.length * 2:=by
 induction ps with
 | nil=>rfl
 | cons p r ih=>simp[zaH] at ih ⊢;omega
theorem zaE(ks:List NT):(zaB ks).length=ks.length * 4:=by
 induction ks with
 | nil=>rfl
 | cons p r ih=>simp[zaB] at ih ⊢;omega
theorem zaI(ps:List zab):∀ i,i < ps.length->∀ j,j < 2->(zaH ps)[i * 2+j]? = some (zca (ps.getD i default) j):=by
 induction ps with
 | nil=>intro i hi;cases hi
 | cons p r ih =>
  intro i hi j hj
  cases i with
  | zero =>
   match j,hj with
   | 0,_=>rfl
   | 1,_=>rfl
  | succ i =>
   have:=ih i (by simpa using hi) j hj;have e:(i+1) * 2+j=(i * 2+j)+1+1:=by omega
   rw[e]
   simpa [zaH] using this
theorem zaD(ks:List NT):∀ i,i < ks.length->∀ j,j < 4->(zaB ks)[i * 4+j]? = some ((ks.getD i default).cell j):=by
 induction ks with
 | nil=>intro i hi;cases hi
 | cons p r ih =>
  intro i hi j hj
  cases i with
  | zero =>
   match j,hj with
   | 0,_=>rfl
   | 1,_=>rfl
   | 2,_=>rfl
   | 3,_=>rfl
  | succ i =>
   have:=ih i (by simpa using hi) j hj;have e:(i+1) * 4+j=(i * 4+j)+1+1+1+1:=by omega
   rw[e]
   simpa [zaB] using this
theorem cellsOfProps_one(ps:List zab):∀ u∈zaH ps,u.oneCell'=true:=by
 intro u hu;simp only[zaH,List.mem_flatMap,List.mem_cons,List.mem_nil_iff,or_false] at hu;obtain⟨p,_,rfl | rfl⟩:=hu <;> rfl
theorem zaF(ks:List NT):∀ u∈zaB ks,u.oneCell'=true:=by
 intro u hu;simp only[zaB,List.mem_flatMap,List.mem_cons,List.mem_nil_iff,or_false] at hu;obtain⟨p,_,rfl | rfl | rfl | rfl⟩:=hu <;> rfl
theorem cloneRunes_any(a:Option Addr)(c:Nat)(l:List Int)(w:World)(lo hi:Nat)(hr:RunesIn w lo hi a c l)(hh:hi<=w.heap.size)(hl:l.length<=1048576) :
  Calls Tryz.prog 65 #[.slice a l.length c] w fun e w'=>∃ v,e=.returned v/\Grew w w'/\w'.ownsRow w.heap.size 21 1 v l.length ((List.map (Value.int .i32)) l):=by
 have qT:∀(w:World) (a:Option Addr) (n c n' c':Nat),(binOp .eql 23 (.slice a n c) (.slice none n' c')).run Tryz.prog w=.ok (.bool a.isNone) w:=fun w a n c n' c'=>Lib.run_eql_slice_nil w _ _ a n c n' c' Tryz.underlying23
 cases a with
 | none =>
  obtain⟨hz,rfl⟩:=hr.1.1.1 rfl;obtain rfl:l=[]:=List.length_eq_zero_iff.1 hz;clear hr
  go_enter Tryz.func65,Tryz.ntmps65
  go_wp2_with fail
  go_ret
  exact⟨_,rfl,Grew.refl _,World.ownsRow_nil _ _ _ _⟩
 | some ad =>
  have hr':=hr.grew (Grew.alloc1 w (.cells #[] 21)) hh
  go_enter Tryz.func65,Tryz.ntmps65
  go_wp2_with (at_builtin;refine wpList_append_runes rfl (.tmp 5) (.tmp 6) 23 rfl w.heap.size 21 Tryz.underlying23 infoRuneC (.slice (some ⟨w.heap.size,0,none⟩) 0 0) 0 [] rfl (zb3 w 21 1) (some ad) l c lo hi rfl hr' (by unfold maxLen;omega) (by omega) (by simp) ?_;intro v' w1 hown' hgrow hblk;obtain⟨va',vc',rfl⟩:=zb2 hown')
  go_ret
  rw[Nat.zero_add,List.nil_append] at hown';exact⟨_,rfl,(Grew.alloc1 _ _).grown hgrow (fun k hk=>by simp only[Value.ownBlock,Option.some.injEq] at hk;omega),hown'⟩
theorem zaV(a:Option Addr)(c:Nat)(l:List zab)(w:World)(lo hi:Nat)(hr:PropsIn w lo hi a c l)(hh:hi<=w.heap.size)(hl:l.length<=1048576) :
  Calls Tryz.prog 64 #[.slice a l.length c] w fun e w'=>∃ v,e=.returned v/\Grew w w'/\w'.ownsRow w.heap.size 101 2 v l.length (zaH l):=by
 have qT:∀(w:World) (a:Option Addr) (n c n' c':Nat),(binOp .eql 22 (.slice a n c) (.slice none n' c')).run Tryz.prog w=.ok (.bool a.isNone) w:=fun w a n c n' c'=>Lib.run_eql_slice_nil w _ _ a n c n' c' Tryz.underlying22
 cases a with
 | none =>
  obtain⟨hz,rfl⟩:=hr.1.1 rfl;obtain rfl:l=[]:=List.length_eq_zero_iff.1 hz;clear hr
  go_enter Tryz.func64,Tryz.ntmps64
  go_wp2_with fail
  go_ret
  exact⟨_,rfl,Grew.refl _,World.ownsRow_nil _ _ _ _⟩
 | some ad =>
  have hr':=hr.grew (Grew.alloc1 w (.cells #[] 101)) hh
  go_enter Tryz.func64,Tryz.ntmps64
  go_wp2_with (at_builtin;refine zdi rfl (.tmp 5) (.tmp 6) 22 rfl w.heap.size 101 Tryz.underlying22 infoPropC rfl (by decide) (.slice (some ⟨w.heap.size,0,none⟩) 0 0) 0 [] rfl (zb3 w 101 2) (some ad) l.length c lo hi _ rfl hr' (zaH l) (cellsOfProps_len l) (zaI l) (cellsOfProps_one l) (by unfold maxLen;omega) (by omega) (by simp) ?_;intro v' w1 hown' hgrow hblk;obtain⟨va',vc',rfl⟩:=zb2 hown')
  go_ret
  rw[Nat.zero_add,List.nil_append] at hown';exact⟨_,rfl,(Grew.alloc1 _ _).grown hgrow (fun k hk=>by simp only[Value.ownBlock,Option.some.injEq] at hk;omega),hown'⟩
theorem cloneNodes_any(a:Option Addr)(c:Nat)(l:List NT)(w:World)(lo hi:Nat)(hr:KidsIn w lo hi a c l)(hh:hi<=w.heap.size)(hl:l.length<=1048576) :
  Calls Tryz.prog 66 #[.slice a l.length c] w fun e w'=>∃ v,e=.returned v/\Grew w w'/\w'.ownsRow w.heap.size 26 4 v l.length (zaB l):=by
 have qT:∀(w:World) (a:Option Addr) (n c n' c':Nat),(binOp .eql 24 (.slice a n c) (.slice none n' c')).run Tryz.prog w=.ok (.bool a.isNone) w:=fun w a n c n' c'=>Lib.run_eql_slice_nil w _ _ a n c n' c' Tryz.underlying24
 cases a with
 | none =>
  obtain⟨hz,rfl⟩:=hr.1.1.1 rfl;obtain rfl:l=[]:=List.length_eq_zero_iff.1 hz;clear hr
  go_enter Tryz.func66,Tryz.ntmps66
  go_wp2_with fail
  go_ret
  exact⟨_,rfl,Grew.refl _,World.ownsRow_nil _ _ _ _⟩
 | some ad =>
  have hr':=hr.grew (Grew.alloc1 w (.cells #[] 26)) hh
  go_enter Tryz.func66,Tryz.ntmps66
  go_wp2_with (at_builtin;refine zdi rfl (.tmp 5) (.tmp 6) 24 rfl w.heap.size 26 Tryz.underlying24 infoNodeC rfl (by decide) (.slice (some ⟨w.heap.size,0,none⟩) 0 0) 0 [] rfl (zb3 w 26 4) (some ad) l.length c lo hi _ rfl hr'.1 (zaB l) (zaE l) (zaD l) (zaF l) (by unfold maxLen;omega) (by omega) (by simp) ?_;intro v' w1 hown' hgrow hblk;obtain⟨va',vc',rfl⟩:=zb2 hown')
  go_ret
  rw[Nat.zero_add,List.nil_append] at hown';exact⟨_,rfl,(Grew.alloc1 _ _).grown hgrow (fun k hk=>by simp only[Value.ownBlock,Option.some.injEq] at hk;omega),hown'⟩
end Go.Proofs.YtccobobnmpafbaaGreatDoor
