/- redlinelaw04.live: the contract. -/
import Derived.Test.YtdobncickipjjaaDoorLaid
import Derived.Test.YtdobncickipjjaaDoorSize
namespace Go.Proofs.YtdobncickipjjaaDoor
open Go Go.RowKit

set_option maxHeartbeats 400000 in
theorem live04_any (w : World) : Calls Tryd.prog 5 #[] w fun e w' => e = .returned (.bool true) ∧ Grew w w' := by
  have LA := Lib.hid (leaf_any { data := #[97] } (by decide) none 0 [])
  have LB := Lib.hid (leaf_any { data := #[98, 99] } (by decide) none 0 [])
  go_enter Tryd.func5, Tryd.ntmps5
  go_wp2_with fail
  refine (LA.out _ propsIn_nil).mono ?_
  rintro e w1 ⟨x, rfl, g1, ok1, E1⟩
  unfold NT.val
  go_wp2_with fail
  refine (LB.out _ propsIn_nil).mono ?_
  rintro e w2 ⟨y, rfl, g2, ok2, E2⟩
  unfold NT.val
  have ok1' := NT.Ok.grew ok1 g2
  have hk := kidsIn_two (t := 26) ok1' ok2
  clear ok1 ok1' ok2
  have EL := Lib.hid (elem_any { data := #[112] } (some ⟨w2.heap.size, 0, none⟩) 2 [x, y] _ (hk.mono (Nat.le_refl _) (by simp)))
  clear hk
  go_wp2_with fail
  refine EL.out.mono ?_
  rintro e w3 ⟨z, rfl, g3, ok3, E3⟩
  have hz : z.er = T.mk false [(typeKey, { data := #[112] })] [] [T.mk true [] [97] [], T.mk true [] [98, 99] []] := by
    rw [E3.out, List.map_cons, List.map_cons, E1.out, E2.out, runes_a, runes_bc, p_filled]; rfl
  have hsz : z.er.size = 6 := by rw [hz]; simp [T.size, T.sizes]
  have hb : z.er.bulk ≤ 1048576 := by rw [hz]; decide
  have S := Lib.hid (size_any z w3 ok3 hb)
  rw [hsz] at S
  clear hz hsz hb E1 E2 E3
  unfold NT.val
  go_wp2_with fail
  refine S.out.mono ?_
  rintro e w4 ⟨rfl, g4⟩
  go_wp2_with fail
  go_ret
  exact ⟨ret_bool rfl, g1.trans (g2.trans (((Grew.alloc1 _ _).trans g3).trans g4))⟩
end Go.Proofs.YtdobncickipjjaaDoor
