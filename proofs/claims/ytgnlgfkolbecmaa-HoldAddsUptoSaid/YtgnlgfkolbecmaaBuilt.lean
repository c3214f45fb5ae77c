/- LISTS THAT ARE BUILT BY append: what is said of a world that lasts while own blocks are written; an own row of elements that lie elsewhere. No function is named here. -/
import Derived.Test.YtgnlgfkolbecmaaAppW
import Derived.Test.YtgnlgfkolbecmaaOwn
import Derived.Deep.RegionHeld3
namespace Go.Proofs.Ytgnlgfkolbecmaa
open Go Go.RowKit

/-- P holds in every world that differs from w in the blocks of O alone -/
def Safe (O : Nat → Prop) (w : World) (P : World → Prop) : Prop := ∀ w', Keeps O w w' → P w'
theorem Safe.now {O : Nat → Prop} {w : World} {P : World → Prop} (h : Safe O w P) : P w := h w (Keeps.refl _ _)
theorem Safe.moves {O O' : Nat → Prop} {w w' : World} {P : World → Prop} (h : Safe O w P) (hm : Moves O w O' w') : Safe O' w' P := fun w'' hk => by
  have h2 : Moves O' w' O' w'' := ⟨hk, fun _ h => Or.inl h⟩
  exact h w'' (hm.trans h2).1
theorem Safe.grew {O : Nat → Prop} {w w' : World} {P : World → Prop} (h : Safe O w P) (hg : Grew w w') : Safe O w' P := h.moves (Moves.grew hg)
theorem Safe.and {O : Nat → Prop} {w : World} {P Q : World → Prop} (h : Safe O w P) (k : Safe O w Q) : Safe O w (fun w => P w ∧ Q w) := fun w' hk => ⟨h w' hk, k w' hk⟩
theorem Safe.imp {O : Nat → Prop} {w : World} {P Q : World → Prop} (h : Safe O w P) (k : ∀ w, P w → Q w) : Safe O w Q := fun w' hk => k w' (h w' hk)
theorem Safe.less {O O' : Nat → Prop} {w : World} {P : World → Prop} (h : Safe O w P) (k : ∀ k, O' k → O k) : Safe O' w P := fun w' hk => h w' (hk.wider fun i _ => k i)
theorem Safe.row {O : Nat → Prop} {w : World} {lo hi : Nat} {a : Option Addr} {n c k : Nat} {f : Nat → Nat → Value} (h : RowIn w lo hi a n c k f) (hh : hi ≤ w.heap.size) (ho : ∀ j, lo ≤ j → j < hi → ¬ O j) : Safe O w (fun w => RowIn w 0 w.heap.size a n c k f) :=
  fun _ hk => (h.agree (hk.agree hh ho)).mono (Nat.zero_le _) (Nat.le_trans hh hk.size)
theorem Safe.runes {O : Nat → Prop} {w : World} {lo hi : Nat} {a : Option Addr} {c : Nat} {ts : List Int} (h : RunesIn w lo hi a c ts) (hh : hi ≤ w.heap.size) (ho : ∀ j, lo ≤ j → j < hi → ¬ O j) : Safe O w (fun w => RunesIn w 0 w.heap.size a c ts) :=
  fun _ hk => (h.agree (hk.agree hh ho)).mono (Nat.zero_le _) (Nat.le_trans hh hk.size)
theorem Safe.tree {O : Nat → Prop} {w : World} {lo hi : Nat} {n : NT} (h : n.In w lo hi) (hh : hi ≤ w.heap.size) (ho : ∀ j, lo ≤ j → j < hi → ¬ O j) : Safe O w (fun w => n.Ok w) :=
  fun _ hk => (h.agree (hk.agree hh ho)).mono (Nat.zero_le _) (Nat.le_trans hh hk.size)
/-- what lies anywhere in w is safe from what is made later -/
theorem Safe.old {O : Nat → Prop} {w : World} {P : World → Prop} (hO : ∀ k, O k → w.heap.size ≤ k) (hP : ∀ w', Grew w w' → P w') : Safe O w P := fun w' hk => hP w' (hk.below (Nat.le_refl _) (fun k h1 h2 => by have := hO k h2; omega))

/-- the block of an own row -/
def ownOf (v : Value) (k : Nat) : Prop := v.ownBlock = some k
theorem ownOf_nil {k : Nat} : ¬ ownOf (.slice none 0 0) k := fun h => by cases h

section
variable {α : Type} [Inhabited α]
/-- an own row, at B or behind it, of elements that say In, whatever is written to the row, or to the blocks of S -/
def Built (S : Nat → Prop) (t : TypeId) (k : Nat) (cells : α → List Value) (In : α → World → Prop) (B : Nat) (w : World) (v : Value) (L : List α) : Prop :=
  w.ownsRow B t k v L.length (L.flatMap cells) ∧ ∀ x ∈ L, Safe (fun j => ownOf v j ∨ S j) w (In x)
variable {S : Nat → Prop} {t : TypeId} {k : Nat} {cells : α → List Value} {In : α → World → Prop} {B : Nat} {w w' : World} {v v' : Value} {L M : List α}
omit [Inhabited α] in
theorem Built.nil : Built S t k cells In B w (.slice none 0 0) ([] : List α) := ⟨World.ownsRow_nil _ _ _ _, fun x hx => by cases hx⟩
omit [Inhabited α] in
theorem Built.lt (h : Built S t k cells In B w v L) : ∀ j, ownOf v j → B ≤ j ∧ j < w.heap.size := fun j hj => h.1.lt j hj
omit [Inhabited α] in
theorem Built.grew (h : Built S t k cells In B w v L) (hg : Grew w w') : Built S t k cells In B w' v L := ⟨ownsRow_grew h.1 hg, fun x hx => (h.2 x hx).grew hg⟩
omit [Inhabited α] in
/-- stores into blocks of S -/
theorem Built.keeps (h : Built S t k cells In B w v L) (hk : Keeps S w w') (hd : ∀ j, ownOf v j → ¬ S j) : Built S t k cells In B w' v L := by
  refine ⟨?_, fun x hx => (h.2 x hx).moves ⟨hk.wider fun _ _ h => Or.inr h, fun _ h => Or.inl h⟩⟩
  obtain ⟨h1, h2⟩ := h.1
  refine ⟨h1, ?_⟩
  rcases h2 with h2 | ⟨g, cap, cur, hv, hg2, hh, r⟩
  · exact Or.inl h2
  · have hlt : g < w.heap.size := by
      rcases Nat.lt_or_ge g w.heap.size with h1 | h1
      · exact h1
      · rw [Array.getElem?_eq_none h1] at hh; cases hh
    exact Or.inr ⟨g, cap, cur, hv, hg2, (hk.block g hlt (hd g (by subst hv; rfl))).trans hh, r⟩
omit [Inhabited α] in
theorem Built.all (h : Built S t k cells In B w v L) : ∀ x ∈ L, In x w := fun x hx => (h.2 x hx).now
theorem Built.row (h : Built S t k cells In B w v L) (hk : ∀ x, (cells x).length = k) : ∃ a c, v = .slice a L.length c ∧ RowIn w B w.heap.size a L.length c k (fun i j => (cells (L.getD i default)).getD j undef) := by
  obtain ⟨a, c, rfl⟩ := owned_shape h.1
  exact ⟨a, c, rfl, (ownRow_owned h.1 (flat_at hk L)).1⟩
omit [Inhabited α] in
/-- what is appended -/
theorem Built.push (h : Built S t k cells In B w v L) (hM : ∀ x ∈ M, Safe (fun j => ownOf v j ∨ S j) w (In x)) (h1 : w'.ownsRow B t k v' (L.length + M.length) (L.flatMap cells ++ M.flatMap cells)) (h2 : w.grownBy w' v.ownBlock) (h3 : ∀ j, v'.ownBlock = some j → v.ownBlock = some j ∨ w.heap.size ≤ j) : Built S t k cells In B w' v' (L ++ M) := by
  have hm : Moves (fun j => ownOf v j ∨ S j) w (fun j => ownOf v' j ∨ S j) w' := ⟨grownBy_keeps h2 (fun j hj => Or.inl hj), fun j hj => by
    rcases hj with hj | hj
    · exact (h3 j hj).imp_left Or.inl
    · exact Or.inl (Or.inr hj)⟩
  refine ⟨?_, fun x hx => ?_⟩
  · rw [List.length_append, List.flatMap_append]; exact h1
  · rcases List.mem_append.1 hx with hx | hx
    · exact (h.2 x hx).moves hm
    · exact (hM x hx).moves hm
theorem wpList_append_built {P : Program} {ops : Array Oper} {rest : List Oper} {o : Oper} {a : Act} {Q : Exit → Act → World → Prop} (hgd : o.guard = none) (s x : Operand) (T : TypeId)
    (ho : o.op = .call { callee := .builtin .append, args := #[s, x], argTypes := #[T, T] }) (dst : Option Tmp) (hdst : o.dst = dst)
    {z : Value} {bytes : Nat} (ht : P.underlying T = some (.slice t)) (hinfo : (P.info? t).map (fun i => (i.zero, i.size, i.bytes)) = some (some z, k, bytes)) (hzs : z.cells.size = k) (hsz : 0 < k) (hb64 : bytes ≤ 1000)
    (hk : ∀ x, (cells x).length = k) (h1c : ∀ x, ∀ u ∈ cells x, u.oneCell' = true)
    (v : Value) (L M : List α) (hs : a.eval s = v) (hB : Built S t k cells In B w v L)
    (xa : Option Addr) (c lo hi : Nat) (hx : a.eval x = .slice xa M.length c) (hrow : RowIn w lo hi xa M.length c k (fun i j => (cells (M.getD i default)).getD j undef)) (hM : ∀ x ∈ M, Safe (fun j => ownOf v j ∨ S j) w (In x))
    (h63 : L.length + M.length ≤ 4194304) (hbase : B ≤ w.heap.size)
    (h : ∀ v' w', Built S t k cells In B w' v' (L ++ M) → Moves (ownOf v) w (ownOf v') w' → wpList P ops Q rest (a.put dst v') w') : wpList P ops Q (o :: rest) a w := by
  have hby : (L.length + M.length) * bytes ≤ 140737488355328 := by
    have := Nat.mul_le_mul h63 hb64; omega
  subst hdst
  exact wpList_append_row hgd s x T ho B t ht hinfo hzs hsz v L.length (L.flatMap cells) hs hB.1 xa M.length c lo hi _ hx hrow (M.flatMap cells) (flat_len hk M) (flat_at hk M) (flat_one h1c M) (by unfold maxLen; omega) hby hbase
    fun v' w' a1 a2 a3 => h v' w' (hB.push hM a1 a2 a3) ⟨grownBy_keeps a2 fun j hj => hj, a3⟩
theorem wp_append_built {P : Program} {o : Oper} {a : Act} {K : Act → World → Prop} {Q : Exit → Act → World → Prop} (hgd : o.guard = none) (s x : Operand) (T : TypeId)
    (ho : o.op = .call { callee := .builtin .append, args := #[s, x], argTypes := #[T, T] }) (dst : Option Tmp) (hdst : o.dst = dst)
    {z : Value} {bytes : Nat} (ht : P.underlying T = some (.slice t)) (hinfo : (P.info? t).map (fun i => (i.zero, i.size, i.bytes)) = some (some z, k, bytes)) (hzs : z.cells.size = k) (hsz : 0 < k) (hb64 : bytes ≤ 1000)
    (hk : ∀ x, (cells x).length = k) (h1c : ∀ x, ∀ u ∈ cells x, u.oneCell' = true)
    (v : Value) (L M : List α) (hs : a.eval s = v) (hB : Built S t k cells In B w v L)
    (xa : Option Addr) (c lo hi : Nat) (hx : a.eval x = .slice xa M.length c) (hrow : RowIn w lo hi xa M.length c k (fun i j => (cells (M.getD i default)).getD j undef)) (hM : ∀ x ∈ M, Safe (fun j => ownOf v j ∨ S j) w (In x))
    (h63 : L.length + M.length ≤ 4194304) (hbase : B ≤ w.heap.size)
    (h : ∀ v' w', Built S t k cells In B w' v' (L ++ M) → Moves (ownOf v) w (ownOf v') w' → K (a.put dst v') w') : Oper.wp P o a w K Q :=
  operwp_of_list hgd fun _ hQ => wpList_append_built hgd s x T ho dst hdst ht hinfo hzs hsz hb64 hk h1c v L M hs hB xa c lo hi hx hrow hM h63 hbase fun v' w' a1 a2 => wpList_nil (hQ _ _ (h v' w' a1 a2))
end
theorem Moves.keeps {O O' : Nat → Prop} {a b : World} (h : Moves O a O' b) : Keeps O a b := h.1
/-- what is safe stays so behind an append -/
theorem Safe.push {S : Nat → Prop} {v v' : Value} {w w' : World} {P : World → Prop} (h : Safe (fun j => ownOf v j ∨ S j) w P) (hm : Moves (ownOf v) w (ownOf v') w') : Safe (fun j => ownOf v' j ∨ S j) w' P :=
  h.moves ⟨hm.1.wider fun _ _ h => Or.inl h, fun j hj => by
    rcases hj with hj | hj
    · exact (hm.2 j hj).imp_left Or.inl
    · exact Or.inl (Or.inr hj)⟩
/-- stores into blocks that are not own -/
theorem Grew.stores {a b c : World} {S : Nat → Prop} (h : Grew a b) (hk : Keeps S b c) (hv : ∀ j, S j → a.heap.size ≤ j) : Grew a c := h.keep hk hv
theorem ownsRow_at {w : World} {base : Nat} {e : TypeId} {size : Nat} {v : Value} {n : Nat} {xs : List Value} (h : w.ownsRow base e size v n xs) : ∀ j, ownOf v j → base ≤ j ∧ j < w.heap.size := fun j hj => h.lt j hj
/-- nothing that was there at B has turned -/
theorem Grew.own {a b c : World} {v : Value} {O : Nat → Prop} (h : Grew a b) (hk : Moves (ownOf v) b O c) (hv : ∀ j, ownOf v j → a.heap.size ≤ j) : Grew a c := h.keep hk.1 hv
end Go.Proofs.Ytgnlgfkolbecmaa
