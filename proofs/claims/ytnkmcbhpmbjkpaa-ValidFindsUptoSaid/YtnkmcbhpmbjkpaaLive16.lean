/- redlinelaw16.plain, live: the contracts. -/
import Derived.Test.YtnkmcbhpmbjkpaaFindAll
import Derived.Test.YtnkmcbhpmbjkpaaLaid
namespace Go.Proofs.Ytnkmcbhpmbjkpaa
open Go Go.RowKit

/-- a schema that keeps all -/
def plainN : SN := ⟨none, 0, [], ⟨{ data := #[] }, 1, { data := #[] }, 1, { data := #[] }, none, 0, [], 0, { data := #[] }⟩, 1, 2, 3, 4, 5, 6, 100⟩
theorem plain_ok (w : World) : plainN.Ok w := ⟨⟨rowIn_nil, fun r h => by cases h⟩, rowIn_nil⟩
theorem plain_small : plainN.Small := ⟨by simp [plainN], (fun r h => by cases h), by simp [plainN]⟩
set_option maxHeartbeats 400000 in
theorem plain_any (w : World) : Calls Try.prog 20 #[] w fun e w' => e = .returned plainN.val ∧ Grew w w' := by
  go_enter Try.func20, Try.ntmps20
  go_wp2_with fail
  refine bodyPost_ret (v := plainN.val) (by simp [results, Try.results20, go_sem, SN.val, plainN]) rfl ⟨rfl, ?_⟩
  exact ((Grew.refl w).alloc _).alloc _

theorem runes_b : runesOf { data := #[98] } = [98] := by kernel_rfl
theorem find_two : findT plainN.er (.mk false [(typeKey, { data := #[112] })] [] [.mk true [] [97] [], .mk true [] [98] []]) = (4, 1, 1) := by kernel_rfl
theorem valid_one : validT plainN.er (.mk false [(typeKey, { data := #[112] })] [] [.mk true [] [97] []]) = true := by kernel_rfl
set_option maxHeartbeats 1000000 in
theorem live16_any (w : World) : Calls Try.prog 7 #[] w fun e w' => e = .returned (.bool true) ∧ Grew w w' := by
  have LA := Lib.hid (leaf_any { data := #[97] } (by decide) none 0 [])
  have LB := Lib.hid (leaf_any { data := #[98] } (by decide) none 0 [])
  have HP := Lib.hid (fun w => plain_any w)
  unfold SN.val at HP
  simp only [plainN] at HP
  go_enter Try.func7, Try.ntmps7
  go_wp2_with fail
  refine (HP.out _).mono ?_
  rintro e w0 ⟨rfl, g0⟩
  go_wp2_with fail
  refine (LA.out _ propsIn_nil).mono ?_
  rintro e w1 ⟨x, rfl, g1, ok1, E1⟩
  unfold NT.val
  go_wp2_with fail
  refine (LB.out _ propsIn_nil).mono ?_
  rintro e w2 ⟨y, rfl, g2, ok2, E2⟩
  unfold NT.val
  have ok1' := NT.Ok.grew ok1 g2
  have hk := kidsIn_two (t := 35) ok1' ok2
  clear ok1 ok1' ok2
  have EL := Lib.hid (elem_any { data := #[112] } (some ⟨w2.heap.size, 0, none⟩) 2 [x, y] _ (hk.mono (Nat.le_refl _) (by simp)))
  clear hk
  go_wp2_with fail
  refine EL.out.mono ?_
  rintro e w3 ⟨z, rfl, g3, ok3, E3⟩
  have hz : z.er = T.mk false [(typeKey, { data := #[112] })] [] [T.mk true [] [97] [], T.mk true [] [98] []] := by
    rw [E3.out, List.map_cons, List.map_cons, E1.out, E2.out, runes_a, runes_b, p_filled]; rfl
  have hb : z.er.bulk ≤ 1048576 := by rw [hz]; decide
  have S := Lib.hid (find_any plainN z w3 (plain_ok _) plain_small ok3 hb)
  rw [hz, find_two] at S
  have G3 := g0.trans (g1.trans (g2.trans ((Grew.alloc1 _ _).trans g3)))
  clear hz hb E1 E2 E3 g0 g1 g2 g3 EL ok3
  unfold findVal SN.val NT.val at S
  simp only [plainN] at S
  unfold NT.val
  go_wp2_with fail
  refine S.out.mono ?_
  rintro e w4 ⟨rfl, g4⟩
  go_wp2_with fail
  clear LB S
  refine (HP.out _).mono ?_
  rintro e w5 ⟨rfl, g5⟩
  go_wp2_with fail
  refine (LA.out _ propsIn_nil).mono ?_
  rintro e w6 ⟨x', rfl, g6, ok6, E6⟩
  unfold NT.val
  have hk := kidsIn_one (t := 35) ok6
  have EL := Lib.hid (elem_any { data := #[112] } (some ⟨w6.heap.size, 0, none⟩) 1 [x'] _ (hk.mono (Nat.le_refl _) (by simp)))
  clear hk
  go_wp2_with fail
  refine EL.out.mono ?_
  rintro e w7 ⟨z', rfl, g7, ok7, E7⟩
  have hz : z'.er = T.mk false [(typeKey, { data := #[112] })] [] [T.mk true [] [97] []] := by
    rw [E7.out, List.map_cons, E6.out, runes_a, p_filled]; rfl
  have hb : z'.er.bulk ≤ 1048576 := by rw [hz]; decide
  have S := Lib.hid (valid_any plainN plain_small z' w7 (plain_ok _) ok7 hb)
  rw [hz, valid_one] at S
  have G7 := ((G3.trans g4).trans g5).trans (g6.trans ((Grew.alloc1 _ _).trans g7))
  clear hz hb E6 E7 g5 g6 g7 EL ok6 ok7 G3 g4
  unfold SN.val NT.val at S
  simp only [plainN] at S
  unfold NT.val
  go_wp2_with fail
  refine S.out.mono ?_
  rintro e w8 ⟨rfl, g8⟩
  go_wp2_with fail
  go_ret
  exact ⟨ret_bool rfl, G7.trans g8⟩
end Go.Proofs.Ytnkmcbhpmbjkpaa
