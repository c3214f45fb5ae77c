/- THE TREES OF package api AS THEY LIE IN MEMORY: a located tree, its value, that it lies in a world between two block numbers; what a world keeps from another one. No program is named here. -/
import Derived.WalkKit
import Derived.Lib.Hide
import Derived.Deep.Draws
import Derived.Laws.IdiomStrings
import Derived.WalkLawsBesides
import Derived.Test.YtbhbekocmpmjfaaGreatDoorChecked
import Derived.Outline
namespace Go.Proofs.YtbhbekocmpmjfaaGreatDoor
open Go Go.RowKit
theorem zQ0 {p : Prop} (h : p) : Go.RowKit.Hid p := h
theorem zQ1 {n : Nat} : n ≤ n := Nat.le_refl n
theorem zQ2 {l : List Go.Value} {ds} {d : Nat} {v : Go.Value} : Go.Act.put ⟨l.toArray,ds⟩ (some d) v = ⟨(l.set d v).toArray,ds⟩ := by simp [Go.Act.put]
theorem zcA {k:IntKind} {a b:Int} (h:a=b):Ending.returned (.int k a)=Ending.returned (.int k b):=by rw [h]
theorem zcz {a b:Bool} (h:a=b):Ending.returned (.bool a)=Ending.returned (.bool b):=by rw [h]
theorem ret_val {a b:Value} (h:a=b):Ending.returned a=Ending.returned b:=by rw [h]
abbrev zac:=ByteArray × ByteArray
inductive T where
 | mk (lf:Bool) (ps:List zac) (ts:List Int) (ks:List T)
instance:Inhabited T:=⟨.mk false [] [] []⟩
noncomputable instance:DecidableEq T:=fun a b=>Classical.propDecidable (a=b)
namespace T
def lf:T→Bool | .mk lf _ _ _=>lf
def ps:T→List zac | .mk _ ps _ _=>ps
def ts:T→List Int | .mk _ _ ts _=>ts
def ks:T→List T | .mk _ _ _ ks=>ks
end T
@[simp] theorem T.lf_mk {a b c d}:(T.mk a b c d).lf=a:=rfl
@[simp] theorem T.ps_mk {a b c d}:(T.mk a b c d).ps=b:=rfl
@[simp] theorem T.ts_mk {a b c d}:(T.mk a b c d).ts=c:=rfl
@[simp] theorem T.ks_mk {a b c d}:(T.mk a b c d).ks=d:=rfl
theorem T.eta (t:T):T.mk t.lf t.ps t.ts t.ks=t:=by cases t;rfl
theorem T.ind {p:T→Prop} (h:∀ n:T,(∀ k∈n.ks,p k)→p n):∀ n,p n:=by
 intro n;refine T.rec (motive_1:=p) (motive_2:=fun l=>∀ k∈l,p k) ?_ ?_ ?_ n
 ·intro lf ps ts ks ih;exact h _ ih
 ·intro k hk;cases hk
 ·intro x r hx hr k hk
  rcases List.mem_cons.1 hk with rfl | hk
  ·exact hx
  ·exact hr k hk
inductive NT where
 | mk (lf:Bool) (pa:Option Addr) (pc:Nat) (ps:List zac) (ta:Option Addr) (tc:Nat) (ts:List Int) (ka:Option Addr) (kc:Nat) (ks:List NT)
instance:Inhabited NT:=⟨.mk false none 0 [] none 0 [] none 0 []⟩
namespace NT
def lf:NT→Bool | .mk lf _ _ _ _ _ _ _ _ _=>lf
def pa:NT→Option Addr | .mk _ pa _ _ _ _ _ _ _ _=>pa
def pc:NT→Nat | .mk _ _ pc _ _ _ _ _ _ _=>pc
def ps:NT→List zac | .mk _ _ _ ps _ _ _ _ _ _=>ps
def ta:NT→Option Addr | .mk _ _ _ _ ta _ _ _ _ _=>ta
def tc:NT→Nat | .mk _ _ _ _ _ tc _ _ _ _=>tc
def ts:NT→List Int | .mk _ _ _ _ _ _ ts _ _ _=>ts
def ka:NT→Option Addr | .mk _ _ _ _ _ _ _ ka _ _=>ka
def kc:NT→Nat | .mk _ _ _ _ _ _ _ _ kc _=>kc
def ks:NT→List NT | .mk _ _ _ _ _ _ _ _ _ ks=>ks
end NT
@[simp] theorem NT.lf_mk {a b c d e f g h i j}:(NT.mk a b c d e f g h i j).lf=a:=rfl
@[simp] theorem NT.pa_mk {a b c d e f g h i j}:(NT.mk a b c d e f g h i j).pa=b:=rfl
@[simp] theorem NT.pc_mk {a b c d e f g h i j}:(NT.mk a b c d e f g h i j).pc=c:=rfl
@[simp] theorem NT.ps_mk {a b c d e f g h i j}:(NT.mk a b c d e f g h i j).ps=d:=rfl
@[simp] theorem NT.ta_mk {a b c d e f g h i j}:(NT.mk a b c d e f g h i j).ta=e:=rfl
@[simp] theorem NT.tc_mk {a b c d e f g h i j}:(NT.mk a b c d e f g h i j).tc=f:=rfl
@[simp] theorem NT.ts_mk {a b c d e f g h i j}:(NT.mk a b c d e f g h i j).ts=g:=rfl
@[simp] theorem NT.ka_mk {a b c d e f g h i j}:(NT.mk a b c d e f g h i j).ka=h:=rfl
@[simp] theorem NT.kc_mk {a b c d e f g h i j}:(NT.mk a b c d e f g h i j).kc=i:=rfl
@[simp] theorem NT.ks_mk {a b c d e f g h i j}:(NT.mk a b c d e f g h i j).ks=j:=rfl
def NT.er:NT→T
 | .mk lf _ _ ps _ _ ts _ _ ks=>.mk lf ps ts (NT.ers ks)
 where NT.ers:List NT→List T
 | []=>[]
 | k::r=>NT.er k::NT.ers r
def NT.val (n:NT):Value:=.agg #[.bool n.lf,.slice n.pa n.ps.length n.pc,.slice n.ta n.ts.length n.tc,.slice n.ka n.ks.length n.kc]
def NT.cell (n:NT) (j:Nat):Value:=match j with
 | 0=>.bool n.lf
 | 1=>.slice n.pa n.ps.length n.pc
 | 2=>.slice n.ta n.ts.length n.tc
 | _=>.slice n.ka n.ks.length n.kc
def RowIn (w:World) (lo hi:Nat) (a:Option Addr) (n c k:Nat) (f:Nat→Nat→Value):Prop :=
 ((a=none→n=0∧c=0)∧n≤c∧c≤maxLen)∧(0 < n→∃ b o,a=some ⟨b,o,none⟩∧lo≤b∧b < hi∧∀ i,i < n→∀ j,j < k→w.cell? ⟨b,o+i * k+j,none⟩=some (f i j))
def zce (p:zac) (j:Nat):Value:=match j with
 | 0=>.string p.1
 | _=>.string p.2
def PropsIn (w:World) (lo hi:Nat) (a:Option Addr) (c:Nat) (ps:List zac):Prop:=RowIn w lo hi a ps.length c 2 (fun i j=>zce (ps.getD i default) j)
def RunesIn (w:World) (lo hi:Nat) (a:Option Addr) (c:Nat) (ts:List Int):Prop:=RowIn w lo hi a ts.length c 1 (fun i _=>.int .i32 (ts.getD i 0))∧∀ r∈ts,-2147483648≤r∧r≤2147483647
mutual
def NT.In (w:World) (lo hi:Nat):NT→Prop
 | .mk _ pa pc ps ta tc ts ka kc ks=>PropsIn w lo hi pa pc ps∧RunesIn w lo hi ta tc ts∧RowIn w lo hi ka ks.length kc 4 (fun i j=>(ks.getD i default).cell j)∧NT.InAll w lo hi ks
def NT.InAll (w:World) (lo hi:Nat):List NT→Prop
 | []=>True
 | k::r=>NT.In w lo hi k∧NT.InAll w lo hi r
end
def KidsIn (w:World) (lo hi:Nat) (a:Option Addr) (c:Nat) (ks:List NT):Prop:=RowIn w lo hi a ks.length c 4 (fun i j=>(ks.getD i default).cell j)∧∀ k∈ks,k.In w lo hi
theorem NT.InAll_iff {w:World} {lo hi:Nat} {ks:List NT}:NT.InAll w lo hi ks ↔ ∀ k∈ks,k.In w lo hi:=by
 induction ks with
 | nil=>simp [NT.InAll]
 | cons x r ih=>simp [NT.InAll,ih]
theorem NT.In_iff {w:World} {lo hi:Nat} {n:NT}:n.In w lo hi ↔ PropsIn w lo hi n.pa n.pc n.ps∧RunesIn w lo hi n.ta n.tc n.ts∧KidsIn w lo hi n.ka n.kc n.ks:=by
 cases n
 simp only [NT.In,NT.InAll_iff,KidsIn,NT.pa_mk,NT.pc_mk,NT.ps_mk,NT.ta_mk,NT.tc_mk,NT.ts_mk,NT.ka_mk,NT.kc_mk,NT.ks_mk]
theorem NT.ind {p:NT→Prop} (h:∀ n:NT,(∀ k∈n.ks,p k)→p n):∀ n,p n:=by
 intro n;refine NT.rec (motive_1:=p) (motive_2:=fun l=>∀ k∈l,p k) ?_ ?_ ?_ n
 ·intro lf pa pc ps ta tc ts ka kc ks ih;exact h _ ih
 ·intro k hk;cases hk
 ·intro x r hx hr k hk
  rcases List.mem_cons.1 hk with rfl | hk
  ·exact hx
  ·exact hr k hk
@[simp] theorem NT.er_lf (n:NT):n.er.lf=n.lf:=by cases n;rfl
@[simp] theorem NT.er_ps (n:NT):n.er.ps=n.ps:=by cases n;rfl
@[simp] theorem NT.er_ts (n:NT):n.er.ts=n.ts:=by cases n;rfl
theorem NT.ers_eq (l:List NT):NT.er.NT.ers l=l.map NT.er:=by
 induction l with
 | nil=>rfl
 | cons x r ih=>simp [NT.er.NT.ers,ih]
@[simp] theorem NT.er_ks (n:NT):n.er.ks=n.ks.map NT.er:=by cases n;exact NT.ers_eq _
theorem NT.er_eq (n:NT):n.er=T.mk n.lf n.ps n.ts (n.ks.map NT.er):=by
 rw [← T.eta n.er];simp
/-! ### what is kept -/
structure Keeps (S:Nat→Prop) (w w':World):Prop where
 os:w'.os=w.os
 tape:w'.tape=w.tape
 output:w'.output=w.output
 size:w.heap.size≤w'.heap.size
 block:∀ k,k < w.heap.size→¬ S k→w'.heap[k]? = w.heap[k]?
def Noth:Nat→Prop:=fun _=>False
theorem Keeps.refl (S:Nat→Prop) (w:World):Keeps S w w:=⟨rfl,rfl,rfl,Nat.le_refl _,fun _ _ _=>rfl⟩
theorem Keeps.trans {S:Nat→Prop} {a b c:World} (h:Keeps S a b) (k:Keeps S b c):Keeps S a c :=
 ⟨k.os.trans h.os,k.tape.trans h.tape,k.output.trans h.output,Nat.le_trans h.size k.size,fun i hi hs=>(k.block i (Nat.lt_of_lt_of_le hi h.size) hs).trans (h.block i hi hs)⟩
theorem Keeps.wider {S T:Nat→Prop} {a b:World} (h:Keeps S a b) (hT:∀ k,k < a.heap.size→S k→T k):Keeps T a b :=
 ⟨h.os,h.tape,h.output,h.size,fun i hi hs=>h.block i hi (fun hk=>hs (hT i hi hk))⟩
theorem Keeps.alloc {S:Nat→Prop} {a w:World} (h:Keeps S a w) (o:Obj):Keeps S a (w.alloc o) :=
 h.trans ⟨rfl,rfl,rfl,by simp,fun k hk _=>Below.heap_alloc _ _ _ hk⟩
theorem Keeps.drew {S:Nat→Prop} {a w:World} (h:Keeps S a w):Keeps S a w.drew:=⟨h.os,h.tape,h.output,h.size,h.block⟩
theorem Keeps.setCell {S:Nat→Prop} {a w:World} (h:Keeps S a w) {p:Addr} (hp:a.heap.size≤p.block∨S p.block) (u:Value):Keeps S a (w.setCell p u):=by
 refine ⟨h.os,h.tape,h.output,by simpa [World.setCell] using h.size,fun k hk hs=>?_⟩;rw [Below.heap_setCell _ _ _ _ (by rintro rfl;rcases hp with hp | hp;exact absurd hk (by omega);exact hs hp)];exact h.block k hk hs
theorem Keeps.below {S:Nat→Prop} {B:Nat} {w w':World} (h:Keeps S w w') (hB:B≤w.heap.size) (hS:∀ k,k < B→¬ S k):Below B w w' :=
 ⟨h.os,h.tape,h.output,h.size,fun k hk=>h.block k (by omega) (hS k hk)⟩
theorem Keeps.of_below {S:Nat→Prop} {w w':World} (h:Below w.heap.size w w'):Keeps S w w':=⟨h.os,h.tape,h.output,h.size,fun k hk _=>h.block k hk⟩
theorem Keeps.cell {S:Nat→Prop} {w w':World} (h:Keeps S w w') {p:Addr} (hp:p.block < w.heap.size) (hS:¬ S p.block):w'.cell? p=w.cell? p :=
 World.cell?_of_block (w:=w) (h.block p.block hp hS)
theorem Keeps.frozen {S:Nat→Prop} {w w':World} (h:Keeps S w w') {p:Addr} (hp:p.block < w.heap.size) (hS:¬ S p.block):w'.frozen? p=w.frozen? p :=
 World.frozen?_of_block (w:=w) (h.block p.block hp hS)
def Grew (w w':World):Prop:=Below w.heap.size w w'
theorem Grew.refl (w:World):Grew w w:=Below.refl _ _
theorem Grew.size {a b:World} (h:Grew a b):a.heap.size≤b.heap.size:=Below.size h
theorem Grew.trans {a b c:World} (h:Grew a b) (k:Grew b c):Grew a c:=Below.trans h (Below.mono k h.size)
theorem Grew.alloc {a w:World} (h:Grew a w) (o:Obj):Grew a (w.alloc o):=Below.alloc h h.size o
theorem Grew.drew {a w:World} (h:Grew a w):Grew a w.drew:=Below.drew h
theorem Grew.drewN {a w:World} (h:Grew a w) (n:Nat):Grew a (w.drewN n):=⟨h.os,h.tape,h.output,h.size,h.block⟩
theorem Grew.setCell {a w:World} (h:Grew a w) {p:Addr} (hp:a.heap.size≤p.block) (u:Value):Grew a (w.setCell p u):=Below.setCell h hp u
theorem Grew.cell {a b:World} (h:Grew a b) {p:Addr} (hp:p.block < a.heap.size):b.cell? p=a.cell? p:=Below.cell h hp
theorem Grew.frozen {a b:World} (h:Grew a b) {p:Addr} (hp:p.block < a.heap.size):b.frozen? p=a.frozen? p:=Below.frozen h hp
theorem Grew.grown {a w w':World} {row:Option Nat} (h:Grew a w) (hg:w.grownBy w' row) (hr:∀ k,row=some k→a.heap.size≤k):Grew a w':=Below.grown h hg h.size hr
theorem Grew.keeps {a b:World} (h:Grew a b) (S:Nat→Prop):Keeps S a b:=Keeps.of_below h
theorem Grew.alloc1 (w:World) (o:Obj):Grew w (w.alloc o):=(Grew.refl w).alloc o
theorem Keeps.grew {a b:World} (h:Keeps Noth a b):Grew a b:=h.below zQ1 (fun _ _ hk=>hk)
theorem Grew.keep {a b c:World} {S:Nat→Prop} (h:Grew a b) (k:Keeps S b c) (hS:∀ x,S x→a.heap.size≤x):Grew a c :=
 Below.trans h (k.below h.size (fun x h1 h2=>by have:=hS x h2;omega))
def Moves (O:Nat→Prop) (w:World) (O':Nat→Prop) (w':World):Prop:=Keeps O w w'∧∀ k,O' k→O k∨w.heap.size≤k
theorem Moves.refl (O:Nat→Prop) (w:World):Moves O w O w:=⟨Keeps.refl _ _,fun _ h=>Or.inl h⟩
theorem Moves.trans {O O' O'':Nat→Prop} {a b c:World} (h:Moves O a O' b) (k:Moves O' b O'' c):Moves O a O'' c:=by
 refine ⟨⟨k.1.os.trans h.1.os,k.1.tape.trans h.1.tape,k.1.output.trans h.1.output,Nat.le_trans h.1.size k.1.size,fun i hi hs=>?_⟩,fun i hi=>?_⟩
 ·refine (k.1.block i (Nat.lt_of_lt_of_le hi h.1.size) (fun h'=>?_)).trans (h.1.block i hi hs)
  rcases h.2 i h' with h1 | h1
  ·exact hs h1
  ·omega
 ·rcases k.2 i hi with h1 | h1
  ·exact h.2 i h1
  ·exact Or.inr (Nat.le_trans h.1.size h1)
theorem Moves.grew {O:Nat→Prop} {a b:World} (h:Grew a b):Moves O a O b:=⟨Keeps.of_below h,fun _ h=>Or.inl h⟩
theorem Moves.notin {O O':Nat→Prop} {a b:World} (h:Moves O a O' b) {k:Nat} (h1:¬ O k) (h2:k < a.heap.size):¬ O' k:=by
 intro h3
 rcases h.2 k h3 with h4 | h4
 ·exact h1 h4
 ·omega
theorem Keeps.own {b:Nat} {a w:World} (h:Keeps (·=b) a w) (o:Nat) (u:Value):Keeps (·=b) a (w.setCell ⟨b,o,none⟩ u):=h.setCell (Or.inr rfl) u
theorem box4 {w w1:World} {c0 c1 c2 c3:Value} {t:TypeId} (g:Grew (w.alloc (.cells #[c0,c1,c2,c3] t)) w1) :
  w1.cell? ⟨w.heap.size,0,none⟩=some c0∧w1.cell? ⟨w.heap.size,1,none⟩=some c1∧w1.cell? ⟨w.heap.size,2,none⟩=some c2∧w1.cell? ⟨w.heap.size,3,none⟩=some c3∧w.heap.size < w1.heap.size:=by
 have hz:w.heap.size < (w.alloc (.cells #[c0,c1,c2,c3] t)).heap.size:=by simp
 refine ⟨?_,?_,?_,?_,Nat.lt_of_lt_of_le hz g.size⟩
 all_goals
  rw [g.cell (by exact hz),World.cell?_alloc_new]
  rfl
theorem box2 {w w1:World} {c0 c1 c2 c3:Value} {o:Obj} {t:TypeId} (g:Grew ((w.alloc o).alloc (.cells #[c0,c1,c2,c3] t)) w1) :
  w1.cell? ⟨w.heap.size+1,0,none⟩=some c0∧w1.cell? ⟨w.heap.size+1,1,none⟩=some c1∧w1.cell? ⟨w.heap.size+1,2,none⟩=some c2∧w1.cell? ⟨w.heap.size+1,3,none⟩=some c3:=by
 have h:=box4 g;simp only [World.size_alloc] at h;exact ⟨h.1,h.2.1,h.2.2.1,h.2.2.2.1⟩
def Agree (lo hi:Nat) (w w':World):Prop:=∀ k,lo≤k→k < hi→w'.heap[k]? = w.heap[k]?
theorem Agree.cell {lo hi:Nat} {w w':World} (h:Agree lo hi w w') {p:Addr} (h1:lo≤p.block) (h2:p.block < hi):w'.cell? p=w.cell? p :=
 World.cell?_of_block (w:=w) (h p.block h1 h2)
theorem Below.agree {B lo hi:Nat} {w w':World} (h:Below B w w') (hB:hi≤B):Agree lo hi w w':=fun k _ h2=>h.block k (by omega)
theorem Keeps.agree {S:Nat→Prop} {lo hi:Nat} {w w':World} (h:Keeps S w w') (hB:hi≤w.heap.size) (hS:∀ k,lo≤k→k < hi→¬ S k):Agree lo hi w w' :=
 fun k h1 h2=>h.block k (by omega) (hS k h1 h2)
theorem Grew.agree {lo hi:Nat} {w w':World} (h:Grew w w') (hB:hi≤w.heap.size):Agree lo hi w w':=Below.agree h hB
theorem RowIn.agree {w w':World} {lo hi:Nat} {a:Option Addr} {n c k:Nat} {f:Nat→Nat→Value} (h:RowIn w lo hi a n c k f) (hag:Agree lo hi w w'):RowIn w' lo hi a n c k f:=by
 refine ⟨h.1,fun hn=>?_⟩;obtain ⟨b,o,ha,h1,h2,hc⟩:=h.2 hn;exact ⟨b,o,ha,h1,h2,fun i hi j hj=>(hag.cell (p:=⟨b,o+i * k+j,none⟩) h1 h2).trans (hc i hi j hj)⟩
theorem RowIn.mono {w:World} {lo hi lo' hi':Nat} {a:Option Addr} {n c k:Nat} {f:Nat→Nat→Value} (h:RowIn w lo hi a n c k f) (h1:lo'≤lo) (h2:hi≤hi'):RowIn w lo' hi' a n c k f:=by
 refine ⟨h.1,fun hn=>?_⟩;obtain ⟨b,o,ha,g1,g2,hc⟩:=h.2 hn;exact ⟨b,o,ha,by omega,by omega,hc⟩
theorem PropsIn.agree {w w':World} {lo hi:Nat} {a:Option Addr} {c:Nat} {ps:List zac} (h:PropsIn w lo hi a c ps) (hag:Agree lo hi w w'):PropsIn w' lo hi a c ps:=RowIn.agree h hag
theorem PropsIn.mono {w:World} {lo hi lo' hi':Nat} {a:Option Addr} {c:Nat} {ps:List zac} (h:PropsIn w lo hi a c ps) (h1:lo'≤lo) (h2:hi≤hi'):PropsIn w lo' hi' a c ps:=RowIn.mono h h1 h2
theorem RunesIn.agree {w w':World} {lo hi:Nat} {a:Option Addr} {c:Nat} {ts:List Int} (h:RunesIn w lo hi a c ts) (hag:Agree lo hi w w'):RunesIn w' lo hi a c ts:=⟨RowIn.agree h.1 hag,h.2⟩
theorem RunesIn.mono {w:World} {lo hi lo' hi':Nat} {a:Option Addr} {c:Nat} {ts:List Int} (h:RunesIn w lo hi a c ts) (h1:lo'≤lo) (h2:hi≤hi'):RunesIn w lo' hi' a c ts:=⟨RowIn.mono h.1 h1 h2,h.2⟩
theorem NT.In.agree {w w':World} {lo hi:Nat} {n:NT} (h:n.In w lo hi) (hag:Agree lo hi w w'):n.In w' lo hi:=by
 induction n using NT.ind with
 | h n ih =>
  rw [NT.In_iff] at h ⊢;exact ⟨h.1.agree hag,h.2.1.agree hag,h.2.2.1.agree hag,fun k hk=>ih k hk (h.2.2.2 k hk)⟩
theorem NT.In.mono {w:World} {lo hi lo' hi':Nat} {n:NT} (h:n.In w lo hi) (h1:lo'≤lo) (h2:hi≤hi'):n.In w lo' hi':=by
 induction n using NT.ind with
 | h n ih =>
  rw [NT.In_iff] at h ⊢;exact ⟨h.1.mono h1 h2,h.2.1.mono h1 h2,h.2.2.1.mono h1 h2,fun k hk=>ih k hk (h.2.2.2 k hk)⟩
theorem KidsIn.agree {w w':World} {lo hi:Nat} {a:Option Addr} {c:Nat} {ks:List NT} (h:KidsIn w lo hi a c ks) (hag:Agree lo hi w w'):KidsIn w' lo hi a c ks:=⟨h.1.agree hag,fun k hk=>(h.2 k hk).agree hag⟩
theorem KidsIn.mono {w:World} {lo hi lo' hi':Nat} {a:Option Addr} {c:Nat} {ks:List NT} (h:KidsIn w lo hi a c ks) (h1:lo'≤lo) (h2:hi≤hi'):KidsIn w lo' hi' a c ks:=⟨h.1.mono h1 h2,fun k hk=>(h.2 k hk).mono h1 h2⟩
theorem NT.In.grew {w w':World} {lo hi:Nat} {n:NT} (h:n.In w lo hi) (hg:Grew w w') (hB:hi≤w.heap.size):n.In w' lo hi:=h.agree (hg.agree hB)
def NT.Ok (w:World) (n:NT):Prop:=n.In w 0 w.heap.size
theorem NT.Ok.grew {w w':World} {n:NT} (h:n.Ok w) (hg:Grew w w'):n.Ok w':=NT.In.mono (NT.In.grew h hg zQ1) zQ1 hg.size
theorem NT.In.ok {w:World} {lo hi:Nat} {n:NT} (h:n.In w lo hi) (hB:hi≤w.heap.size):n.Ok w:=h.mono (Nat.zero_le _) hB
theorem PropsIn.at {w:World} {lo hi:Nat} {a:Option Addr} {c:Nat} {ps:List zac} (h:PropsIn w lo hi a c ps) {j:Nat} (hj:j < ps.length) :
  ∃ b o,a=some ⟨b,o,none⟩∧lo≤b∧b < hi∧w.cell? ⟨b,o+j * 2,none⟩=some (.string (ps.getD j default).1)∧w.cell? ⟨b,o+j * 2+1,none⟩=some (.string (ps.getD j default).2):=by
 obtain ⟨b,o,ha,h1,h2,hc⟩:=h.2 (by omega);exact ⟨b,o,ha,h1,h2,hc j hj 0 (by omega),hc j hj 1 (by omega)⟩
theorem RunesIn.at {w:World} {lo hi:Nat} {a:Option Addr} {c:Nat} {ts:List Int} (h:RunesIn w lo hi a c ts) {j:Nat} (hj:j < ts.length) :
  ∃ b o,a=some ⟨b,o,none⟩∧lo≤b∧b < hi∧w.cell? ⟨b,o+j,none⟩=some (.int .i32 (ts.getD j 0))∧-2147483648≤ts.getD j 0∧ts.getD j 0≤2147483647:=by
 obtain ⟨b,o,ha,h1,h2,hc⟩:=h.1.2 (by omega);have:=hc j hj 0 (by omega);have hm:=h.2 (ts.getD j 0) (by simp [List.getD,List.getElem?_eq_getElem hj]);exact ⟨b,o,ha,h1,h2,by simpa using this,hm.1,hm.2⟩
theorem KidsIn.at {w:World} {lo hi:Nat} {a:Option Addr} {c:Nat} {ks:List NT} (h:KidsIn w lo hi a c ks) {j:Nat} (hj:j < ks.length) :
  ∃ b o,a=some ⟨b,o,none⟩∧lo≤b∧b < hi∧w.cell? ⟨b,o+j * 4,none⟩=some (.bool (ks.getD j default).lf) ∧
   w.cell? ⟨b,o+j * 4+1,none⟩=some (.slice (ks.getD j default).pa (ks.getD j default).ps.length (ks.getD j default).pc) ∧
   w.cell? ⟨b,o+j * 4+2,none⟩=some (.slice (ks.getD j default).ta (ks.getD j default).ts.length (ks.getD j default).tc) ∧
   w.cell? ⟨b,o+j * 4+3,none⟩=some (.slice (ks.getD j default).ka (ks.getD j default).ks.length (ks.getD j default).kc):=by
 obtain ⟨b,o,ha,h1,h2,hc⟩:=h.1.2 (by omega);exact ⟨b,o,ha,h1,h2,hc j hj 0 (by omega),hc j hj 1 (by omega),hc j hj 2 (by omega),hc j hj 3 (by omega)⟩
theorem PropsIn.grew {w w':World} {lo hi:Nat} {a:Option Addr} {c:Nat} {ps:List zac} (h:PropsIn w lo hi a c ps) (hg:Grew w w') (hB:hi≤w.heap.size):PropsIn w' lo hi a c ps:=h.agree (hg.agree hB)
theorem RunesIn.grew {w w':World} {lo hi:Nat} {a:Option Addr} {c:Nat} {ps:List Int} (h:RunesIn w lo hi a c ps) (hg:Grew w w') (hB:hi≤w.heap.size):RunesIn w' lo hi a c ps:=h.agree (hg.agree hB)
theorem KidsIn.grew {w w':World} {lo hi:Nat} {a:Option Addr} {c:Nat} {ps:List NT} (h:KidsIn w lo hi a c ps) (hg:Grew w w') (hB:hi≤w.heap.size):KidsIn w' lo hi a c ps:=h.agree (hg.agree hB)
theorem NT.Ok.of {w:World} {n:NT} (hp:PropsIn w 0 w.heap.size n.pa n.pc n.ps) (ht:RunesIn w 0 w.heap.size n.ta n.tc n.ts) (hk:KidsIn w 0 w.heap.size n.ka n.kc n.ks):n.Ok w:=NT.In_iff.2 ⟨hp,ht,hk⟩
/-! ### bulk -/
def zcf:List zac→Nat
 | []=>0
 | p::r=>1+p.1.size+p.2.size+zcf r
mutual
def T.bulk:T→Nat
 | .mk _ ps ts ks=>1+zcf ps+ts.length+T.bulkAll ks
def T.bulkAll:List T→Nat
 | []=>0
 | k::r=>T.bulk k+T.bulkAll r
end
theorem T.bulk_eq (n:T):n.bulk=1+zcf n.ps+n.ts.length+T.bulkAll n.ks:=by cases n;simp [T.bulk]
theorem zcg (ps:List zac):ps.length≤zcf ps:=by
 induction ps with
 | nil=>simp [zcf]
 | cons p r ih=>simp [zcf];omega
theorem T.bulk_pos (n:T):1≤n.bulk:=by rw [T.bulk_eq];omega
theorem T.bulkAll_len (ks:List T):ks.length≤T.bulkAll ks:=by
 induction ks with
 | nil=>simp [T.bulkAll]
 | cons p r ih=>have:=T.bulk_pos p;simp [T.bulkAll];omega
theorem T.bulk_mem {ks:List T} {k:T} (h:k∈ks):k.bulk≤T.bulkAll ks:=by
 induction ks with
 | nil=>cases h
 | cons p r ih =>
  rcases List.mem_cons.1 h with rfl | h
  ·simp [T.bulkAll]
  ·have:=ih h;simp [T.bulkAll];omega
theorem T.bulk_kid {n k:T} (h:k∈n.ks):k.bulk < n.bulk:=by
 have:=T.bulk_mem h;have:=n.bulk_eq;omega
theorem propsBulk_mem {ps:List zac} {p:zac} (h:p∈ps):1+p.1.size+p.2.size≤zcf ps:=by
 induction ps with
 | nil=>cases h
 | cons p r ih =>
  rcases List.mem_cons.1 h with rfl | h
  ·simp [zcf]
  ·have:=ih h;simp [zcf];omega
theorem NT.lens (n:NT):n.ps.length+n.ts.length+n.ks.length < n.er.bulk:=by
 have h1:=zcg n.er.ps;have h2:=T.bulkAll_len n.er.ks;rw [T.bulk_eq];simp only [NT.er_ps,NT.er_ts,NT.er_ks,List.length_map] at *;omega
theorem za0 {α:Type} [Inhabited α] (l:List α) (k:Nat) (h:k < l.length):l.drop k=l.getD k default::l.drop (k+1):=by
 rw [List.drop_eq_getElem_cons h];simp [List.getD,List.getElem?_eq_getElem h]
theorem zc1 {α:Type} [Inhabited α] (l:List α) (k:Nat) (h:k < l.length):l.take (k+1)=l.take k++[l.getD k default]:=by
 rw [List.take_succ_eq_append_getElem h];simp [List.getD,List.getElem?_eq_getElem h]
theorem zc2 (l:List Int) (k:Nat) (h:k < l.length):l.take (k+1)=l.take k++[l.getD k 0]:=zc1 l k h
theorem zbP {α:Type} {l m:List α} {k:Nat} {d:α} (h:l.getD k d≠m.getD k d):l≠m:=fun e=>h (by rw [e])
theorem zbh {α:Type} [Inhabited α] (l:List α) (k:Nat) (h:k < l.length):l.getD k default∈l:=by
 simp [List.getD,List.getElem?_eq_getElem h]
theorem kids_drop (l:List NT) (k:Nat) (h:k < l.length):(l.map NT.er).drop k=(l.getD k default).er::(l.map NT.er).drop (k+1):=by
 rw [← List.map_drop,← List.map_drop,za0 l k h,List.map_cons]
theorem kids_drop_end (l:List NT) (k:Nat) (h:l.length≤k):(l.map NT.er).drop k=[]:=List.drop_of_length_le (by simpa using h)
theorem kids_take (l:List NT) (k:Nat) (h:k < l.length):(l.map NT.er).take (k+1)=(l.map NT.er).take k++[(l.getD k default).er]:=by
 rw [← List.map_take,← List.map_take,zc1 l k h,List.map_append];rfl
theorem er_mem {l:List NT} {x:NT} (h:x∈l):x.er∈l.map NT.er:=List.mem_map_of_mem h
end Go.Proofs.YtbhbekocmpmjfaaGreatDoor
/- WHAT redlineref04.Few SAYS, in plain Lean: how much is left of a number when a tree is taken off it. -/
namespace Go.Proofs.YtbhbekocmpmjfaaGreatDoor
open Go Go.RowKit
def leftP:List zac→Int→Int
 | [],m=>m
 | p::r,m=>leftP r (m - ((p.1.size / 64:Nat)+(p.2.size / 64:Nat):Int))
mutual
def zbB:T→Int→Int
 | .mk _ ps ts ks,m=>if leftP ps (m - (1+ts.length+ps.length)) < 0 then -1 else leftK ks (leftP ps (m - (1+ts.length+ps.length)))
def leftK:List T→Int→Int
 | [],m=>m
 | k::r,m=>if zbB k m < 0 then -1 else leftK r (zbB k m)
end
theorem leftT_eq (n:T) (m:Int):zbB n m=if leftP n.ps (m - (1+n.ts.length+n.ps.length)) < 0 then -1 else leftK n.ks (leftP n.ps (m - (1+n.ts.length+n.ps.length))):=by
 cases n;rw [zbB];rfl
theorem leftT_er (n:NT) (m:Int):zbB n.er m=if leftP n.ps (m - (1+n.ts.length+n.ps.length)) < 0 then -1 else leftK (n.ks.map NT.er) (leftP n.ps (m - (1+n.ts.length+n.ps.length))):=by
 rw [leftT_eq,NT.er_ps,NT.er_ts,NT.er_ks]
theorem leftP_le (ps:List zac):∀ m,leftP ps m≤m:=by
 induction ps with
 | nil=>intro m;simp [leftP]
 | cons p r ih=>intro m;have:=ih (m - ((p.1.size / 64:Nat)+(p.2.size / 64:Nat):Int));simp only [leftP];omega
theorem leftT_both (n:T):∀ m,0≤m→-1≤zbB n m∧zbB n m≤m:=by
 induction n using T.ind with
 | h n ih =>
  have hk:∀ (ks:List T),(∀ k∈ks,∀ m,0≤m→-1≤zbB k m∧zbB k m≤m)→∀ m,0≤m→-1≤leftK ks m∧leftK ks m≤m:=by
   intro ks
   induction ks with
   | nil=>intro _ m hm;simp only [leftK];omega
   | cons x r ihr =>
    intro h m hm;have h1:=h x (by simp) m hm;have h2:=ihr (fun k hk=>h k (by simp [hk]));simp only [leftK]
    split
    ·omega
    ·have:=h2 (zbB x m) (by omega);omega
  intro m hm;rw [leftT_eq];have h1:=leftP_le n.ps (m - (1+n.ts.length+n.ps.length))
  split
  ·omega
  ·have:=hk n.ks ih (leftP n.ps (m - (1+n.ts.length+n.ps.length))) (by omega);omega
def few (n:T) (m:Int):Bool:=decide (0≤zbB n m)
def zcI (s:ByteArray):List Int:=(Conv.runesFrom s s.size 0 #[]).toList.map intOf
theorem decode_lt (s:ByteArray) (i:Nat):(Utf8.decode s i).1 < 2147483648:=by
 have h0:∀ k,(s.get! (i+k)).toNat < 256:=fun k=>UInt8.toNat_lt _;have a0:=h0 0;unfold Utf8.decode;simp only
 repeat' split
 all_goals first | (simp [Utf8.runeError];done) | omega
theorem runesFrom_ints (s:ByteArray):∀ (n i:Nat) (acc:Array Value),(∀ v∈acc.toList,∃ r:Int,v=.int .i32 r∧-2147483648≤r∧r≤2147483647) →
  ∀ v∈(Conv.runesFrom s n i acc).toList,∃ r:Int,v=.int .i32 r∧-2147483648≤r∧r≤2147483647:=by
 intro n
 induction n with
 | zero=>intro i acc h;simpa [Conv.runesFrom] using h
 | succ n ih =>
  intro i acc h;unfold Conv.runesFrom
  split
  ·refine ih _ _ ?_;intro v hv;simp only [Array.toList_push,List.mem_append,List.mem_singleton] at hv
   rcases hv with hv | hv
   ·exact h v hv
   ·have hd:=decode_lt s i;have hv':v=.int .i32 (Int.ofNat (Utf8.decode s i).1):=hv;generalize (Utf8.decode s i).1=d at hd hv';exact ⟨Int.ofNat d,hv',by simp only [Int.ofNat_eq_natCast];omega,by simp only [Int.ofNat_eq_natCast];omega⟩
  ·exact h
theorem runesOf_cell (s:ByteArray) (i:Nat) (h:i < (zcI s).length):(Conv.runesFrom s s.size 0 #[])[i]? = some (.int .i32 ((zcI s).getD i 0)):=by
 have hl:i < (Conv.runesFrom s s.size 0 #[]).toList.length:=by simpa [zcI] using h
 obtain ⟨r,hr,_⟩:=runesFrom_ints s s.size 0 #[] (by simp) _ (List.getElem_mem hl)
 have e1:(Conv.runesFrom s s.size 0 #[])[i]? = some (Conv.runesFrom s s.size 0 #[]).toList[i]:=by
  rw [← Array.getElem?_toList,List.getElem?_eq_getElem hl]
 have e2:(zcI s).getD i 0=intOf (Conv.runesFrom s s.size 0 #[]).toList[i]:=by
  unfold zcI;rw [List.getD_eq_getElem?_getD,List.getElem?_map,List.getElem?_eq_getElem hl];rfl
 rw [e1,e2,hr];rfl
theorem runesOf_range (s:ByteArray):∀ r∈zcI s,-2147483648≤r∧r≤2147483647:=by
 intro r hr;simp only [zcI,List.mem_map] at hr;obtain ⟨v,hv,rfl⟩:=hr;obtain ⟨r,rfl,h⟩:=runesFrom_ints s s.size 0 #[] (by simp) v hv;exact h
theorem conv_runes {P:Program} (w:World) {src dst e:TypeId} (s:ByteArray) (hs:P.underlying src=some .string) (hd:P.underlying dst=some (.slice e)) (he:P.underlying e=some (.int .i32)) (hl:s.size≤1048576) :
  ∃ c w2,(convert src dst (.string s)).run P w=.ok (.slice (some ⟨w.heap.size,0,none⟩) (zcI s).length c) w2∧RunesIn w2 w.heap.size (w.heap.size+1) (some ⟨w.heap.size,0,none⟩) c (zcI s)∧Grew w w2∧w2.heap.size=w.heap.size+1:=by
 have hsz:=size_runesFrom s s.size 0 #[];have hrun:=run_runes_of_string (P:=P) w src dst e s hs hd he (by simp at hsz;omega);have hlen:(zcI s).length=(Conv.runesFrom s s.size 0 #[]).size:=by simp [zcI]
 refine ⟨_,_,by rw [hlen];exact hrun,⟨⟨⟨by simp,by rw [hlen];exact grownCap_ge _ _ _ _,grownCap_le_maxLen _ _ _ _ (by unfold maxLen;simp at hsz;omega)⟩,fun _=>⟨w.heap.size,0,rfl,Nat.le_refl _,by omega,fun i hi j hj=>?_⟩⟩,runesOf_range s⟩,(Grew.refl w).drew.alloc _,by simp⟩;have hz:(w.drew).heap.size=w.heap.size:=rfl;have hc:=World.cell?_alloc_at (w:=w.drew) (Conv.runesFrom s s.size 0 #[]++Array.replicate (grownCap w (Conv.runesFrom s s.size 0 #[]).size 0 e - (Conv.runesFrom s s.size 0 #[]).size) (.int .i32 0)) e w.heap.size (0+i * 1+j) rfl;rw [hc,Array.getElem?_append_left (by rw [hlen] at hi;omega)];have:0+i * 1+j=i:=by omega
 rw [this];exact runesOf_cell s i hi
theorem zcC {w:World} {c:Array Value} {t:TypeId} {n cp k:Nat} {f:Nat→Nat→Value} (hn:n≤cp) (hm:cp≤maxLen) (h:∀ i,i < n→∀ j,j < k→c[i * k+j]? = some (f i j)):RowIn (w.alloc (.cells c t)) w.heap.size (w.heap.size+1) (some ⟨w.heap.size,0,none⟩) n cp k f:=by
 refine ⟨⟨by simp,hn,hm⟩,fun _=>⟨w.heap.size,0,rfl,Nat.le_refl _,by omega,fun i hi j hj=>?_⟩⟩;rw [World.cell?_alloc_new,show 0+i * k+j=i * k+j by omega];exact h i hi j hj
theorem rowIn_new' {w:World} {b lo hi:Nat} (hb:b=w.heap.size) (hlo:lo≤b) (hhi:b < hi) {c:Array Value} {t:TypeId} {n cp k:Nat} {f:Nat→Nat→Value} (hn:n≤cp) (hm:cp≤maxLen) (h:∀ i,i < n→∀ j,j < k→c[i * k+j]? = some (f i j)):RowIn (w.alloc (.cells c t)) lo hi (some ⟨b,0,none⟩) n cp k f:=by
 subst hb;exact (zcC hn hm h).mono hlo hhi
theorem zcD {w:World} {lo hi:Nat} {k:Nat} {f:Nat→Nat→Value}:RowIn w lo hi none 0 0 k f:=⟨⟨fun _=>⟨rfl,rfl⟩,Nat.le_refl _,Nat.zero_le _⟩,fun h=>absurd h (by simp)⟩
theorem zch {w:World} {lo hi:Nat}:PropsIn w lo hi none 0 []:=zcD
theorem zcH {w:World} {lo hi:Nat}:RunesIn w lo hi none 0 []:=⟨zcD,by simp⟩
theorem zbA {w:World} {lo hi:Nat}:KidsIn w lo hi none 0 []:=⟨zcD,by simp⟩
def typeKey:ByteArray:={ data:=#[116,121,112,101] }
set_option maxHeartbeats 400000 in
theorem leaf_any (s:ByteArray) (hs:s.size≤1048576) (pa:Option Addr) (pc:Nat) (ps:List zac) (w:World) (hp:PropsIn w 0 w.heap.size pa pc ps) :
  Calls Tryz.prog 62 #[.string s,.slice pa ps.length pc] w fun e w'=>∃ x:NT,e=.returned x.val∧Grew w w'∧x.Ok w'∧Hid (x.er=.mk true ps (zcI s) []):=by
 obtain ⟨w1,hw1⟩:∃ w1,w1=w.alloc (Obj.cells #[Value.bool false,Value.slice none 0 0,Value.slice none 0 0,Value.slice none 0 0] 26):=⟨_,rfl⟩
 obtain ⟨c,w2,hrun,hR,hG,hz⟩:=conv_runes (P:=Tryz.prog) w1 s Tryz.underlying9 Tryz.underlying23 Tryz.underlying21 hs;have b1:Grew w w1:=by rw [hw1];exact Grew.alloc1 _ _
 have z1:w1.heap.size=w.heap.size+1:=by rw [hw1];simp
 have hc:∀ j,j < 4→∃ v,w2.cell? ⟨w.heap.size,j,none⟩=some v:=by
  intro j hj;rw [hG.cell (by show w.heap.size < _;omega),hw1,World.cell?_alloc_new]
  match j,hj with
  | 0,_=>exact ⟨_,rfl⟩
  | 1,_=>exact ⟨_,rfl⟩
  | 2,_=>exact ⟨_,rfl⟩
  | 3,_=>exact ⟨_,rfl⟩
 obtain ⟨v0,c0⟩:=hc 0 (by omega);obtain ⟨v1,c1⟩:=hc 1 (by omega);obtain ⟨v2,c2⟩:=hc 2 (by omega);obtain ⟨v3,c3⟩:=hc 3 (by omega)
 have hf:∀ j,w2.frozen? ⟨w.heap.size,j,none⟩=false:=by
  intro j;rw [hG.frozen (by show w.heap.size < _;omega),hw1,World.frozen?_alloc_at _ _ _ _ rfl]
 have f0:=hf 0;have f1:=hf 1;have f2:=hf 2;have f3:=hf 3;clear hf hc;rw [hw1] at hrun;have HZ:=zQ0 hz;have Z1:=zQ0 z1;have zz:w.heap.size < w2.heap.size:=by omega
 clear hz z1;have W1:=zQ0 hw1;clear hw1
 go_enter Tryz.func62,Tryz.ntmps62
 go_wp2_with fail
 have hks:Keeps (·=w.heap.size) w2 ((((w2.setCell { block:=w.heap.size,off:=0 } (Value.bool true)).setCell { block:=w.heap.size,off:=1 } (Value.slice pa ps.length pc)).setCell { block:=w.heap.size,off:=2 } (Value.slice (some { block:=w.heap.size+1,off:=0 }) (zcI s).length c)).setCell { block:=w.heap.size,off:=3 } (Value.slice none 0 0)):=((((Keeps.refl _ _).own _ _).own _ _).own _ _).own _ _;have hgw:Grew w _:=((((b1.trans hG).setCell (p:=⟨w.heap.size,0,none⟩) zQ1 (Value.bool true)).setCell (p:=⟨w.heap.size,1,none⟩) zQ1 (Value.slice pa ps.length pc)).setCell (p:=⟨w.heap.size,2,none⟩) zQ1 (Value.slice (some { block:=w.heap.size+1,off:=0 }) (zcI s).length c)).setCell (p:=⟨w.heap.size,3,none⟩) zQ1 (Value.slice none 0 0);refine bodyPost_ret (v:=NT.val (.mk true pa pc ps (some ⟨w.heap.size+1,0,none⟩) c (zcI s) none 0 [])) (by simp [results,Tryz.results62,go_sem,NT.val,c0,c1,c2,c3]) rfl ⟨_,rfl,hgw,NT.Ok.of ?_ ?_ ?_,?_⟩
 ·exact (hp.grew hgw zQ1).mono zQ1 hgw.size
 ·have h2:=HZ.out;have h1:=Z1.out;rw [h1] at hR;exact (hR.agree (hks.agree (by omega) (fun k hk1 hk2=>by omega))).mono (Nat.zero_le _) (by have:=hks.size;omega)
 ·exact zbA
 ·simp [Hid,NT.er_eq]
set_option maxHeartbeats 400000 in
theorem elem_any (s:ByteArray) (ka:Option Addr) (kc:Nat) (ks:List NT) (w:World) (hk:KidsIn w 0 w.heap.size ka kc ks) :
  Calls Tryz.prog 61 #[.string s,.slice ka ks.length kc] w fun e w'=>∃ x:NT,e=.returned x.val∧Grew w w'∧x.Ok w'∧Hid (x.er=.mk false (if s.toList.isEmpty then [] else [(typeKey,s)]) [] (ks.map NT.er)):=by
 cases hs:s.toList.isEmpty with
 | true =>
  go_enter Tryz.func61,Tryz.ntmps61
  go_wp2_with fail
  refine bodyPost_ret (v:=NT.val (.mk false none 0 [] none 0 [] ka kc ks)) (by simp [results,Tryz.results61,go_sem,NT.val]) rfl ?_;have hgw:∀ o1 o2,Grew w ((w.alloc o1).alloc o2):=fun o1 o2=>((Grew.refl w).alloc o1).alloc o2;exact ⟨_,rfl,hgw _ _,NT.Ok.of zch zcH ((hk.grew (hgw _ _) zQ1).mono zQ1 (hgw _ _).size),by simp [Hid,NT.er_eq]⟩
 | false =>
  go_enter Tryz.func61,Tryz.ntmps61
  go_wp2_with fail
  have hgw:∀ o1 o2 o3,Grew w (((w.alloc o1).alloc o2).alloc o3):=fun o1 o2 o3=>(((Grew.refl w).alloc o1).alloc o2).alloc o3;refine bodyPost_ret (v:=NT.val (.mk false (some ⟨w.heap.size+1+1,0,none⟩) 1 [(typeKey,s)] none 0 [] ka kc ks)) (by simp [results,Tryz.results61,go_sem,NT.val]) rfl ?_;refine ⟨_,rfl,hgw _ _ _,NT.Ok.of ?_ zcH ((hk.grew (hgw _ _ _) zQ1).mono zQ1 (hgw _ _ _).size),by simp [Hid,NT.er_eq]⟩;refine rowIn_new' (by simp) (Nat.zero_le _) (by simp) (by simp) (by simp [maxLen]) ?_;intro i hi j hj;have:i=0:=by simpa using hi
  subst this
  match j,hj with
  | 0,_=>rfl
  | 1,_=>rfl
theorem runes_a:zcI { data:=#[97] }=[97]:=by kernel_rfl
theorem runes_bc:zcI { data:=#[98,99] }=[98,99]:=by kernel_rfl
theorem p_filled:({ data:=#[112] }:ByteArray).toList.isEmpty=false:=by kernel_rfl
theorem kidsIn_two {w:World} {t:TypeId} {x y:NT} (hx:x.Ok w) (hy:y.Ok w) :
  KidsIn (w.alloc (.cells #[.bool x.lf,.slice x.pa x.ps.length x.pc,.slice x.ta x.ts.length x.tc,.slice x.ka x.ks.length x.kc,.bool y.lf,.slice y.pa y.ps.length y.pc,.slice y.ta y.ts.length y.tc,.slice y.ka y.ks.length y.kc] t)) 0 (w.heap.size+1) (some ⟨w.heap.size,0,none⟩) 2 [x,y]:=by
 refine ⟨rowIn_new' rfl (Nat.zero_le _) (by omega) (by simp) (by simp [maxLen]) ?_,?_⟩
 ·intro i hi j hj;have hi':i=0∨i=1:=by simp at hi;omega
  rcases hi' with rfl | rfl
  all_goals
   match j,hj with
   | 0,_=>rfl
   | 1,_=>rfl
   | 2,_=>rfl
   | 3,_=>rfl
 ·intro k hk;have:=NT.Ok.grew hx (Grew.alloc1 w (.cells #[.bool x.lf,.slice x.pa x.ps.length x.pc,.slice x.ta x.ts.length x.tc,.slice x.ka x.ks.length x.kc,.bool y.lf,.slice y.pa y.ps.length y.pc,.slice y.ta y.ts.length y.tc,.slice y.ka y.ks.length y.kc] t));have:=NT.Ok.grew hy (Grew.alloc1 w (.cells #[.bool x.lf,.slice x.pa x.ps.length x.pc,.slice x.ta x.ts.length x.tc,.slice x.ka x.ks.length x.kc,.bool y.lf,.slice y.pa y.ps.length y.pc,.slice y.ta y.ts.length y.tc,.slice y.ka y.ks.length y.kc] t));simp only [NT.Ok,World.size_alloc] at *;simp only [List.mem_cons,List.mem_nil_iff,or_false] at hk
  rcases hk with rfl | rfl <;> assumption
theorem kidsIn_one {w:World} {t:TypeId} {x:NT} (hx:x.Ok w) :
  KidsIn (w.alloc (.cells #[.bool x.lf,.slice x.pa x.ps.length x.pc,.slice x.ta x.ts.length x.tc,.slice x.ka x.ks.length x.kc] t)) 0 (w.heap.size+1) (some ⟨w.heap.size,0,none⟩) 1 [x]:=by
 refine ⟨rowIn_new' rfl (Nat.zero_le _) (by omega) (by simp) (by simp [maxLen]) ?_,?_⟩
 ·intro i hi j hj;obtain rfl:i=0:=by simp at hi;omega
  match j,hj with
  | 0,_=>rfl
  | 1,_=>rfl
  | 2,_=>rfl
  | 3,_=>rfl
 ·intro k hk;have:=NT.Ok.grew hx (Grew.alloc1 w (.cells #[.bool x.lf,.slice x.pa x.ps.length x.pc,.slice x.ta x.ts.length x.tc,.slice x.ka x.ks.length x.kc] t));simp only [NT.Ok,World.size_alloc] at *;simp only [List.mem_cons,List.mem_nil_iff,or_false] at hk;subst hk
  assumption
end Go.Proofs.YtbhbekocmpmjfaaGreatDoor
