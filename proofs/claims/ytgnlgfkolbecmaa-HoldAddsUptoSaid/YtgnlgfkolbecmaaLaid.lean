/- Kids laid in a new block; the runes of small texts. -/
import Derived.Test.YtgnlgfkolbecmaaMade
namespace Go.Proofs.Ytgnlgfkolbecmaa
open Go Go.RowKit

theorem runes_a : runesOf { data := #[97] } = [97] := by kernel_rfl
theorem runes_bc : runesOf { data := #[98, 99] } = [98, 99] := by kernel_rfl

theorem p_filled : ({ data := #[112] } : ByteArray).toList.isEmpty = false := by kernel_rfl
/-- two nodes laid in a new block -/
theorem kidsIn_two {w : World} {t : TypeId} {x y : NT} (hx : x.Ok w) (hy : y.Ok w) :
    KidsIn (w.alloc (.cells #[.bool x.lf, .slice x.pa x.ps.length x.pc, .slice x.ta x.ts.length x.tc, .slice x.ka x.ks.length x.kc, .bool y.lf, .slice y.pa y.ps.length y.pc, .slice y.ta y.ts.length y.tc, .slice y.ka y.ks.length y.kc] t)) 0 (w.heap.size + 1) (some ⟨w.heap.size, 0, none⟩) 2 [x, y] := by
  refine ⟨rowIn_new' rfl (Nat.zero_le _) (by omega) (by simp) (by simp [maxLen]) ?_, ?_⟩
  · intro i hi j hj
    have hi' : i = 0 ∨ i = 1 := by simp at hi; omega
    rcases hi' with rfl | rfl
    all_goals
      match j, hj with
      | 0, _ => rfl
      | 1, _ => rfl
      | 2, _ => rfl
      | 3, _ => rfl
  · intro k hk
    have := NT.Ok.grew hx (Grew.alloc1 w (.cells #[.bool x.lf, .slice x.pa x.ps.length x.pc, .slice x.ta x.ts.length x.tc, .slice x.ka x.ks.length x.kc, .bool y.lf, .slice y.pa y.ps.length y.pc, .slice y.ta y.ts.length y.tc, .slice y.ka y.ks.length y.kc] t))
    have := NT.Ok.grew hy (Grew.alloc1 w (.cells #[.bool x.lf, .slice x.pa x.ps.length x.pc, .slice x.ta x.ts.length x.tc, .slice x.ka x.ks.length x.kc, .bool y.lf, .slice y.pa y.ps.length y.pc, .slice y.ta y.ts.length y.tc, .slice y.ka y.ks.length y.kc] t))
    simp only [NT.Ok, World.size_alloc] at *
    simp only [List.mem_cons, List.mem_nil_iff, or_false] at hk
    rcases hk with rfl | rfl <;> assumption

/-- one node laid in a new block -/
theorem kidsIn_one {w : World} {t : TypeId} {x : NT} (hx : x.Ok w) :
    KidsIn (w.alloc (.cells #[.bool x.lf, .slice x.pa x.ps.length x.pc, .slice x.ta x.ts.length x.tc, .slice x.ka x.ks.length x.kc] t)) 0 (w.heap.size + 1) (some ⟨w.heap.size, 0, none⟩) 1 [x] := by
  refine ⟨rowIn_new' rfl (Nat.zero_le _) (by omega) (by simp) (by simp [maxLen]) ?_, ?_⟩
  · intro i hi j hj
    obtain rfl : i = 0 := by simp at hi; omega
    match j, hj with
    | 0, _ => rfl
    | 1, _ => rfl
    | 2, _ => rfl
    | 3, _ => rfl
  · intro k hk
    have := NT.Ok.grew hx (Grew.alloc1 w (.cells #[.bool x.lf, .slice x.pa x.ps.length x.pc, .slice x.ta x.ts.length x.tc, .slice x.ka x.ks.length x.kc] t))
    simp only [NT.Ok, World.size_alloc] at *
    simp only [List.mem_cons, List.mem_nil_iff, or_false] at hk
    subst hk
    assumption
end Go.Proofs.Ytgnlgfkolbecmaa
