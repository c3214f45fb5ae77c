/- redlinelaw04.live: the contract. -/
import Derived.Test.YtdobncickipjjaaMade
import Derived.Test.YtdobncickipjjaaSize
namespace Go.Proofs.Ytdobncickipjjaa
open Go Go.RowKit

theorem runes_a : runesOf { data := #[97] } = [97] := by kernel_rfl
theorem runes_bc : runesOf { data := #[98, 99] } = [98, 99] := by kernel_rfl

theorem p_filled : ({ data := #[112] } : ByteArray).toList.isEmpty = false := by kernel_rfl
/-- two nodes laid in a new block -/
theorem kidsIn_two {w : World} {t : TypeId} {x y : NT} (hx : x.Ok w) (hy : y.Ok w) :
    KidsIn (w.alloc (.cells #[.bool x.lf, .slice x.pa x.ps.length x.pc, .slice x.ta x.ts.length x.tc, .slice x.ka x.ks.length x.kc, .bool y.lf, .slice y.pa y.ps.length y.pc, .slice y.ta y.ts.length y.tc, .slice y.ka y.ks.length y.kc] t)) 0 (w.heap.size + 1) (some ⟨w.heap.size, 0, none⟩) 2 [x, y] := by
  refine ⟨rowIn_new' rfl (Nat.zero_le _) (by omega) (by simp) (by simp [maxLen]) ?_, ?_⟩
  · intro i hi j hj
    have hi' : i = 0 ∨ i = 1 := by simp at hi; omega
    rcases hi' with rfl | rfl
    all_goals
      match j, hj with
      | 0, _ => rfl
      | 1, _ => rfl
      | 2, _ => rfl
      | 3, _ => rfl
  · intro k hk
    have := NT.Ok.grew hx (Grew.alloc1 w (.cells #[.bool x.lf, .slice x.pa x.ps.length x.pc, .slice x.ta x.ts.length x.tc, .slice x.ka x.ks.length x.kc, .bool y.lf, .slice y.pa y.ps.length y.pc, .slice y.ta y.ts.length y.tc, .slice y.ka y.ks.length y.kc] t))
    have := NT.Ok.grew hy (Grew.alloc1 w (.cells #[.bool x.lf, .slice x.pa x.ps.length x.pc, .slice x.ta x.ts.length x.tc, .slice x.ka x.ks.length x.kc, .bool y.lf, .slice y.pa y.ps.length y.pc, .slice y.ta y.ts.length y.tc, .slice y.ka y.ks.length y.kc] t))
    simp only [NT.Ok, World.size_alloc] at *
    simp only [List.mem_cons, List.mem_nil_iff, or_false] at hk
    rcases hk with rfl | rfl <;> assumption

set_option maxHeartbeats 400000 in
theorem live04_any (w : World) : Calls Try.prog 7 #[] w fun e w' => e = .returned (.bool true) ∧ Grew w w' := by
  have LA := Lib.hid (leaf_any { data := #[97] } (by decide) none 0 [])
  have LB := Lib.hid (leaf_any { data := #[98, 99] } (by decide) none 0 [])
  go_enter Try.func7, Try.ntmps7
  go_wp2_with fail
  refine (LA.out _ propsIn_nil).mono ?_
  rintro e w1 ⟨x, rfl, g1, ok1, E1⟩
  unfold NT.val
  go_wp2_with fail
  refine (LB.out _ propsIn_nil).mono ?_
  rintro e w2 ⟨y, rfl, g2, ok2, E2⟩
  unfold NT.val
  have ok1' := NT.Ok.grew ok1 g2
  have hk := kidsIn_two (t := 26) ok1' ok2
  clear ok1 ok1' ok2
  have EL := Lib.hid (elem_any { data := #[112] } (some ⟨w2.heap.size, 0, none⟩) 2 [x, y] _ (hk.mono (Nat.le_refl _) (by simp)))
  clear hk
  go_wp2_with fail
  refine EL.out.mono ?_
  rintro e w3 ⟨z, rfl, g3, ok3, E3⟩
  have hz : z.er = T.mk false [(typeKey, { data := #[112] })] [] [T.mk true [] [97] [], T.mk true [] [98, 99] []] := by
    rw [E3.out, List.map_cons, List.map_cons, E1.out, E2.out, runes_a, runes_bc, p_filled]; rfl
  have hsz : z.er.size = 6 := by rw [hz]; simp [T.size, T.sizes]
  have hb : z.er.bulk ≤ 1048576 := by rw [hz]; decide
  have S := Lib.hid (size_any z w3 ok3 hb)
  rw [hsz] at S
  clear hz hsz hb E1 E2 E3
  unfold NT.val
  go_wp2_with fail
  refine S.out.mono ?_
  rintro e w4 ⟨rfl, g4⟩
  go_wp2_with fail
  go_ret
  exact ⟨ret_bool rfl, g1.trans (g2.trans (((Grew.alloc1 _ _).trans g3).trans g4))⟩
end Go.Proofs.Ytdobncickipjjaa
