/- slices.Clone on runes, properties, nodes: the contracts: what is handed back is a row of the call's own. -/
import Derived.Test.YtgnlgfkolbecmaaApp
import Derived.Test.YtgnlgfkolbecmaaChecked
import Derived.Outline
import Derived.Lib.SliceRun
namespace Go.Proofs.Ytgnlgfkolbecmaa
open Go Go.RowKit

theorem infoRuneC : (Try.prog.info? 21).map (fun i => (i.zero, i.size, i.bytes)) = some (some (.int .i32 0), 1, 4) := by kernel_rfl
theorem infoPropC : (Try.prog.info? 74).map (fun i => (i.zero, i.size, i.bytes)) = some (some (.agg #[.string .empty, .string .empty]), 2, 32) := by kernel_rfl
theorem infoNodeC : (Try.prog.info? 26).map (fun i => (i.zero, i.size, i.bytes)) = some (some (.agg #[.bool false, .slice none 0 0, .slice none 0 0, .slice none 0 0]), 4, 80) := by kernel_rfl

/-- a row of no cells in a new block -/
theorem ownsRow_empty (w : World) (e : TypeId) (size : Nat) : (w.alloc (.cells #[] e)).ownsRow w.heap.size e size (.slice (some ⟨w.heap.size, 0, none⟩) 0 0) 0 [] :=
  ⟨by simp, Or.inr ⟨w.heap.size, 0, #[], rfl, Nat.le_refl _, heap_alloc_new _ _, Nat.le_refl _, Nat.zero_le _, by simp, by simp⟩⟩

/-- the cells of a list of properties, of nodes, one behind the other -/
def cellsOfProps (ps : List PropL) : List Value := ps.flatMap fun p => [.string p.1, .string p.2]
def cellsOfNodes (ks : List NT) : List Value := ks.flatMap fun k => [.bool k.lf, .slice k.pa k.ps.length k.pc, .slice k.ta k.ts.length k.tc, .slice k.ka k.ks.length k.kc]
theorem cellsOfProps_len (ps : List PropL) : (cellsOfProps ps).length = ps.length * 2 := by
  induction ps with
  | nil => rfl
  | cons p r ih => simp [cellsOfProps] at ih ⊢; omega
theorem cellsOfNodes_len (ks : List NT) : (cellsOfNodes ks).length = ks.length * 4 := by
  induction ks with
  | nil => rfl
  | cons p r ih => simp [cellsOfNodes] at ih ⊢; omega
theorem cellsOfProps_at (ps : List PropL) : ∀ i, i < ps.length → ∀ j, j < 2 → (cellsOfProps ps)[i * 2 + j]? = some (propCell (ps.getD i default) j) := by
  induction ps with
  | nil => intro i hi; cases hi
  | cons p r ih =>
    intro i hi j hj
    cases i with
    | zero =>
      match j, hj with
      | 0, _ => rfl
      | 1, _ => rfl
    | succ i =>
      have := ih i (by simpa using hi) j hj
      have e : (i + 1) * 2 + j = (i * 2 + j) + 1 + 1 := by omega
      rw [e]
      simpa [cellsOfProps] using this
theorem cellsOfNodes_at (ks : List NT) : ∀ i, i < ks.length → ∀ j, j < 4 → (cellsOfNodes ks)[i * 4 + j]? = some ((ks.getD i default).cell j) := by
  induction ks with
  | nil => intro i hi; cases hi
  | cons p r ih =>
    intro i hi j hj
    cases i with
    | zero =>
      match j, hj with
      | 0, _ => rfl
      | 1, _ => rfl
      | 2, _ => rfl
      | 3, _ => rfl
    | succ i =>
      have := ih i (by simpa using hi) j hj
      have e : (i + 1) * 4 + j = (i * 4 + j) + 1 + 1 + 1 + 1 := by omega
      rw [e]
      simpa [cellsOfNodes] using this
theorem cellsOfProps_one (ps : List PropL) : ∀ u ∈ cellsOfProps ps, u.oneCell' = true := by
  intro u hu
  simp only [cellsOfProps, List.mem_flatMap, List.mem_cons, List.mem_nil_iff, or_false] at hu
  obtain ⟨p, _, rfl | rfl⟩ := hu <;> rfl
theorem cellsOfNodes_one (ks : List NT) : ∀ u ∈ cellsOfNodes ks, u.oneCell' = true := by
  intro u hu
  simp only [cellsOfNodes, List.mem_flatMap, List.mem_cons, List.mem_nil_iff, or_false] at hu
  obtain ⟨p, _, rfl | rfl | rfl | rfl⟩ := hu <;> rfl

set_option maxHeartbeats 400000 in
theorem cloneRunes_any (a : Option Addr) (c : Nat) (l : List Int) (w : World) (lo hi : Nat) (hr : RunesIn w lo hi a c l) (hh : hi ≤ w.heap.size) (hl : l.length ≤ 1048576) :
    Calls Try.prog 70 #[.slice a l.length c] w fun e w' => ∃ v, e = .returned v ∧ Grew w w' ∧ w'.ownsRow w.heap.size 21 1 v l.length ((List.map (Value.int .i32)) l) := by
  have qT : ∀ (w : World) (a : Option Addr) (n c n' c' : Nat), (binOp .eql 23 (.slice a n c) (.slice none n' c')).run Try.prog w = .ok (.bool a.isNone) w := fun w a n c n' c' => Lib.run_eql_slice_nil w _ _ a n c n' c' Try.underlying23
  cases a with
  | none =>
    obtain ⟨hz, rfl⟩ := hr.1.1.1 rfl
    obtain rfl : l = [] := List.length_eq_zero_iff.1 hz
    clear hr
    go_enter Try.func70, Try.ntmps70
    go_wp2_with fail
    go_ret
    exact ⟨_, rfl, Grew.refl _, World.ownsRow_nil _ _ _ _⟩
  | some ad =>
    have hr' := hr.grew (Grew.alloc1 w (.cells #[] 21)) hh
    go_enter Try.func70, Try.ntmps70
    go_wp2_with (at_builtin; refine wpList_append_runes rfl (.tmp 5) (.tmp 6) 23 rfl w.heap.size 21 Try.underlying23 infoRuneC (.slice (some ⟨w.heap.size, 0, none⟩) 0 0) 0 [] rfl (ownsRow_empty w 21 1) (some ad) l c lo hi rfl hr' (by unfold maxLen; omega) (by omega) (by simp) ?_; intro v' w1 hown' hgrow hblk; obtain ⟨va', vc', rfl⟩ := owned_shape hown')
    go_ret
    rw [Nat.zero_add, List.nil_append] at hown'
    exact ⟨_, rfl, (Grew.alloc1 _ _).grown hgrow (fun k hk => by simp only [Value.ownBlock, Option.some.injEq] at hk; omega), hown'⟩

set_option maxHeartbeats 400000 in
theorem cloneProps_any (a : Option Addr) (c : Nat) (l : List PropL) (w : World) (lo hi : Nat) (hr : PropsIn w lo hi a c l) (hh : hi ≤ w.heap.size) (hl : l.length ≤ 1048576) :
    Calls Try.prog 69 #[.slice a l.length c] w fun e w' => ∃ v, e = .returned v ∧ Grew w w' ∧ w'.ownsRow w.heap.size 74 2 v l.length (cellsOfProps l) := by
  have qT : ∀ (w : World) (a : Option Addr) (n c n' c' : Nat), (binOp .eql 22 (.slice a n c) (.slice none n' c')).run Try.prog w = .ok (.bool a.isNone) w := fun w a n c n' c' => Lib.run_eql_slice_nil w _ _ a n c n' c' Try.underlying22
  cases a with
  | none =>
    obtain ⟨hz, rfl⟩ := hr.1.1 rfl
    obtain rfl : l = [] := List.length_eq_zero_iff.1 hz
    clear hr
    go_enter Try.func69, Try.ntmps69
    go_wp2_with fail
    go_ret
    exact ⟨_, rfl, Grew.refl _, World.ownsRow_nil _ _ _ _⟩
  | some ad =>
    have hr' := hr.grew (Grew.alloc1 w (.cells #[] 74)) hh
    go_enter Try.func69, Try.ntmps69
    go_wp2_with (at_builtin; refine wpList_append_row rfl (.tmp 5) (.tmp 6) 22 rfl w.heap.size 74 Try.underlying22 infoPropC rfl (by decide) (.slice (some ⟨w.heap.size, 0, none⟩) 0 0) 0 [] rfl (ownsRow_empty w 74 2) (some ad) l.length c lo hi _ rfl hr' (cellsOfProps l) (cellsOfProps_len l) (cellsOfProps_at l) (cellsOfProps_one l) (by unfold maxLen; omega) (by omega) (by simp) ?_; intro v' w1 hown' hgrow hblk; obtain ⟨va', vc', rfl⟩ := owned_shape hown')
    go_ret
    rw [Nat.zero_add, List.nil_append] at hown'
    exact ⟨_, rfl, (Grew.alloc1 _ _).grown hgrow (fun k hk => by simp only [Value.ownBlock, Option.some.injEq] at hk; omega), hown'⟩

set_option maxHeartbeats 400000 in
theorem cloneNodes_any (a : Option Addr) (c : Nat) (l : List NT) (w : World) (lo hi : Nat) (hr : KidsIn w lo hi a c l) (hh : hi ≤ w.heap.size) (hl : l.length ≤ 1048576) :
    Calls Try.prog 71 #[.slice a l.length c] w fun e w' => ∃ v, e = .returned v ∧ Grew w w' ∧ w'.ownsRow w.heap.size 26 4 v l.length (cellsOfNodes l) := by
  have qT : ∀ (w : World) (a : Option Addr) (n c n' c' : Nat), (binOp .eql 24 (.slice a n c) (.slice none n' c')).run Try.prog w = .ok (.bool a.isNone) w := fun w a n c n' c' => Lib.run_eql_slice_nil w _ _ a n c n' c' Try.underlying24
  cases a with
  | none =>
    obtain ⟨hz, rfl⟩ := hr.1.1.1 rfl
    obtain rfl : l = [] := List.length_eq_zero_iff.1 hz
    clear hr
    go_enter Try.func71, Try.ntmps71
    go_wp2_with fail
    go_ret
    exact ⟨_, rfl, Grew.refl _, World.ownsRow_nil _ _ _ _⟩
  | some ad =>
    have hr' := hr.grew (Grew.alloc1 w (.cells #[] 26)) hh
    go_enter Try.func71, Try.ntmps71
    go_wp2_with (at_builtin; refine wpList_append_row rfl (.tmp 5) (.tmp 6) 24 rfl w.heap.size 26 Try.underlying24 infoNodeC rfl (by decide) (.slice (some ⟨w.heap.size, 0, none⟩) 0 0) 0 [] rfl (ownsRow_empty w 26 4) (some ad) l.length c lo hi _ rfl hr'.1 (cellsOfNodes l) (cellsOfNodes_len l) (cellsOfNodes_at l) (cellsOfNodes_one l) (by unfold maxLen; omega) (by omega) (by simp) ?_; intro v' w1 hown' hgrow hblk; obtain ⟨va', vc', rfl⟩ := owned_shape hown')
    go_ret
    rw [Nat.zero_add, List.nil_append] at hown'
    exact ⟨_, rfl, (Grew.alloc1 _ _).grown hgrow (fun k hk => by simp only [Value.ownBlock, Option.some.injEq] at hk; omega), hown'⟩

end Go.Proofs.Ytgnlgfkolbecmaa
