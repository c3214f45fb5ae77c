/- append inside a region that draws its order: the laws of App in the form of one operation. Rows of whatever elements, told by a list of their cells. No program is named here. -/
import Derived.Test.YtgnlgfkolbecmaaApp
import Derived.Test.YtgnlgfkolbecmaaOrders
namespace Go.Proofs.Ytgnlgfkolbecmaa
open Go Go.RowKit

theorem operwp_of_list {P : Program} {o : Oper} {a : Act} {w : World} {K : Act → World → Prop} {Q : Exit → Act → World → Prop} (hg : o.guard = none)
    (h : ∀ Q' : Exit → Act → World → Prop, (∀ a w, K a w → Q' .normal a w) → wpList P #[] Q' [o] a w) : Oper.wp P o a w K Q := by
  have h1 := h (fun e a w => match e with | .normal => K a w | .outgrown => False | .panic c => Q (.panic c) a w | _ => False) (fun _ _ h => h)
  unfold wpList at h1
  rw [if_pos (by simp [Region.wanted, hg])] at h1
  rcases h1 with h1 | ⟨_, a', w', h1⟩
  · unfold Oper.wp at h1 ⊢
    generalize (execOp a.eval o).run P w = r at h1 ⊢
    cases r with
    | ok n w' =>
      cases n <;> simp only [Oper.upon] at h1 ⊢
      case value u => exact h1
      case skip => exact h1
      case defer d => exact h1
      case enter f args =>
        refine Calls.mono h1 fun e w'' he => ?_
        cases e with
        | returned u => exact he
        | panicked c => exact he
        | outgrown =>
          obtain ⟨a', w', h2⟩ := he
          exact h2.elim
      case row row args => exact Rows.mono h1 fun u w'' he => he
      all_goals exact h1
    | halt x w' =>
      cases x <;> simp only [Oper.upon] at h1 ⊢
      case panic u => exact h1
      all_goals exact h1
  · exact h1.elim

/-- an own row, grown by an append from a row that lies in the world: as one operation -/
theorem wp_append_row {P : Program} {w : World} {o : Oper} {a : Act} {K : Act → World → Prop} {Q : Exit → Act → World → Prop} (hgd : o.guard = none) (s x : Operand) (t : TypeId)
    (ho : o.op = .call { callee := .builtin .append, args := #[s, x], argTypes := #[t, t] })
    (base : Nat) (e : TypeId) {z : Value} {size bytes : Nat} (ht : P.underlying t = some (.slice e)) (hinfo : (P.info? e).map (fun i => (i.zero, i.size, i.bytes)) = some (some z, size, bytes)) (hzs : z.cells.size = size) (hsz : 0 < size)
    (v : Value) (n : Nat) (xs : List Value) (hs : a.eval s = v) (hown : w.ownsRow base e size v n xs)
    (xa : Option Addr) (m c lo hi : Nat) (f : Nat → Nat → Value) (hx : a.eval x = .slice xa m c) (hrow : RowIn w lo hi xa m c size f) (news : List Value) (hl : news.length = m * size)
    (hnews : ∀ i, i < m → ∀ j, j < size → news[i * size + j]? = some (f i j)) (h1 : ∀ u ∈ news, u.oneCell' = true)
    (h63 : n + m ≤ maxLen) (hbytes : (n + m) * bytes ≤ 140737488355328) (hbase : base ≤ w.heap.size)
    (h : ∀ v' w', w'.ownsRow base e size v' (n + m) (xs ++ news) → w.grownBy w' v.ownBlock → (∀ k, v'.ownBlock = some k → v.ownBlock = some k ∨ w.heap.size ≤ k) → K (a.put o.dst v') w') : Oper.wp P o a w K Q :=
  operwp_of_list hgd fun _ hQ => wpList_append_row hgd s x t ho base e ht hinfo hzs hsz v n xs hs hown xa m c lo hi f hx hrow news hl hnews h1 h63 hbytes hbase fun v' w' a1 a2 a3 => wpList_nil (hQ _ _ (h v' w' a1 a2 a3))

/-! ### rows told by a list -/
section
variable {α : Type} [Inhabited α] {cells : α → List Value} {k : Nat}
omit [Inhabited α] in
theorem flat_len (hk : ∀ x, (cells x).length = k) (l : List α) : (l.flatMap cells).length = l.length * k := by
  induction l with
  | nil => simp
  | cons p r ih => simp only [List.flatMap_cons, List.length_append, List.length_cons, ih, hk]; rw [Nat.add_mul]; omega
theorem flat_at (hk : ∀ x, (cells x).length = k) (l : List α) : ∀ i, i < l.length → ∀ j, j < k → (l.flatMap cells)[i * k + j]? = some ((cells (l.getD i default)).getD j undef) := by
  induction l with
  | nil => intro i hi; cases hi
  | cons p r ih =>
    intro i hi j hj
    cases i with
    | zero =>
      rw [Nat.zero_mul, Nat.zero_add, List.flatMap_cons, List.getElem?_append_left (by rw [hk]; exact hj)]
      simp [List.getD, List.getElem?_eq_getElem (show j < (cells p).length by rw [hk]; exact hj)]
    | succ i =>
      have := ih i (by simpa using hi) j hj
      rw [List.flatMap_cons, List.getElem?_append_right (by rw [hk, Nat.add_mul]; omega), hk, show (i + 1) * k + j - k = i * k + j by rw [Nat.add_mul]; omega, this]
      simp
omit [Inhabited α] in
theorem flat_one (ho : ∀ x, ∀ u ∈ cells x, u.oneCell' = true) (l : List α) : ∀ u ∈ l.flatMap cells, u.oneCell' = true := by
  intro u hu
  obtain ⟨p, _, h⟩ := List.mem_flatMap.1 hu
  exact ho p u h
end
end Go.Proofs.Ytgnlgfkolbecmaa
