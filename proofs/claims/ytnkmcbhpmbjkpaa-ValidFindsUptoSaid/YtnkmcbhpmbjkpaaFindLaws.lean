/- What is found: plain laws. -/
import Derived.Test.YtnkmcbhpmbjkpaaFindAll
namespace Go.Proofs.Ytnkmcbhpmbjkpaa
open Go Go.RowKit

theorem findT_leaf (s : SchT) (n : T) (h : n.lf = true) : findT s n = (0, 0, 0) := by unfold findT; rw [h]; rfl
theorem validT_leaf (s : SchT) (n : T) (h : n.lf = true) (hk : n.ks = []) : validT s n = true := by rw [validT_eq, findT_leaf s n h, hk]; rfl
theorem findAll_cases (r : RuleT) (n : T) (l : List Int) : findAll r n l = (0, 0, 0) ∨ (findAll r n l).1 ≠ 0 := by
  induction l with
  | nil => left; rfl
  | cons c l ih =>
    rw [findAll]
    by_cases h1 : c < 1 ∨ 6 < c
    · rw [if_pos h1]; exact ih
    · rw [if_neg h1]
      by_cases h2 : 0 ≤ (lookT r n c).1
      · rw [if_pos h2]; right; show c ≠ 0; omega
      · rw [if_neg h2]; exact ih
/-- nothing is found, or a class -/
theorem findT_cases (s : SchT) (n : T) : findT s n = (0, 0, 0) ∨ (findT s n).1 ≠ 0 := by
  unfold findT
  cases n.lf with
  | true => left; rfl
  | false => exact findAll_cases _ _ _
end Go.Proofs.Ytnkmcbhpmbjkpaa
