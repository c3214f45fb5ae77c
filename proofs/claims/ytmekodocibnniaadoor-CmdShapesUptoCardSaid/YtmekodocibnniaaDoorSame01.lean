/- redlineref01.Same: the contract. -/
import Derived.Test.YtmekodocibnniaaDoorProps
import Derived.Test.YtmekodocibnniaaDoorLater
namespace Go.Proofs.YtmekodocibnniaaDoor
open Go Go.RowKit

set_option maxHeartbeats 400000 in
theorem refSame01_any (a b : Option Addr) (c d : Nat) (xs ys : List PropL) (w : World) (lo hi lo' hi' : Nat) (hx : PropsIn w lo hi a c xs) (hy : PropsIn w lo' hi' b d ys) (hl : xs.length ≤ 1048576) (hl2 : ys.length ≤ 1048576) (hh : hi ≤ w.heap.size) (hh' : hi' ≤ w.heap.size) :
    Calls Tryd.prog 41 #[.slice a xs.length c, .slice b ys.length d] w fun e w' => e = .returned (.bool (decide (xs = ys))) ∧ Grew w w' := by
  by_cases hne : xs.length = ys.length
  · have heq : ((xs.length : Int) != ys.length) = false := by simp [hne]
    have HL := Lib.hid hne
    have hle : xs.length ≤ ys.length := by omega
    clear hne
    go_enter Tryd.func41, Tryd.ntmps41
    go_wp2_with fail
    go_loopw [13] (fun i wr => ∃ (k : Nat), k ≤ xs.length ∧ i = .int .i64 k ∧ Grew w wr ∧ xs.take k = ys.take k) (fun i _ => xs.length - (intOf i).toNat)
    case atStart => exact ⟨0, by omega, rfl, Grew.refl _, by simp⟩
    case round =>
      obtain ⟨k, hk1, rfl, hg, he⟩ := hrel
      have HE := Lib.hid he
      clear he
      by_cases hlt : k < xs.length
      · obtain ⟨b1, o1, rfl, _, _, hc1, hd1⟩ := (hx.grew hg hh).at hlt
        obtain ⟨b2, o2, rfl, _, _, hc2, hd2⟩ := (hy.grew hg hh').at (j := k) (by omega)
        have hy1 : (k : Int) < (ys.length : Int) := by omega
        by_cases hxy : xs.getD k default = ys.getD k default
        · have ht1 : ((xs.getD k default).1.toList == (ys.getD k default).1.toList) = true := by rw [hxy]; simp
          have ht2 : ((xs.getD k default).2.toList == (ys.getD k default).2.toList) = true := by rw [hxy]; simp
          have HX : Hid (xs.take (k + 1) = ys.take (k + 1)) := by
            show _ = _
            rw [take_next xs k hlt, take_next ys k (by omega), HE.out, hxy]
          clear hxy
          generalize xs.getD k default = p at *
          generalize ys.getD k default = q at *
          go_wp2_with fail
          go_quiet (fail)
          go_wp2_with fail
          go_roundw
          case rel => exact ⟨k + 1, by omega, by go_num, hg.drewN _, HX.out⟩
          case measure => simp [intOf]; omega
        · have hne := ne_of_getD hxy
          have HN : Hid (decide (xs = ys) = false) := by show _ = _; simp [hne]
          clear hne
          by_cases h1 : (xs.getD k default).1 = (ys.getD k default).1
          · have h2 : ¬ (xs.getD k default).2 = (ys.getD k default).2 := fun e => hxy (Prod.ext h1 e)
            have ht1 : ((xs.getD k default).1.toList == (ys.getD k default).1.toList) = true := by rw [toList_beq]; simpa using h1
            have ht2 : ((xs.getD k default).2.toList == (ys.getD k default).2.toList) = false := by rw [toList_beq]; simpa using h2
            clear hxy h1 h2
            generalize xs.getD k default = p at *
            generalize ys.getD k default = q at *
            go_wp2_with fail
            go_quiet (fail)
            go_wp2_with fail
            go_ret
            exact ⟨ret_bool (by rw [HN.out]), hg.drewN _⟩
          · have ht1 : ((xs.getD k default).1.toList == (ys.getD k default).1.toList) = false := by rw [toList_beq]; simpa using h1
            clear hxy h1
            generalize xs.getD k default = p at *
            generalize ys.getD k default = q at *
            go_wp2_with fail
            go_quiet (fail)
            go_wp2_with fail
            go_ret
            exact ⟨ret_bool (by rw [HN.out]), hg.drewN _⟩
      · have HN : Hid (decide (xs = ys) = true) := by
          show _ = _
          have := HE.out
          rw [List.take_of_length_le (by omega), List.take_of_length_le (by have := HL.out; omega)] at this
          simp [this]
        go_wp2_with fail
        go_ret
        exact ⟨ret_bool (by rw [HN.out]), hg⟩
  · have heq : ((xs.length : Int) != ys.length) = true := by simp; omega
    have HN : Hid (decide (xs = ys) = false) := by
      show _ = _
      simp only [decide_eq_false_iff_not]
      intro e; exact hne (by rw [e])
    clear hne
    go_enter Tryd.func41, Tryd.ntmps41
    go_wp2_with fail
    go_ret
    exact ⟨ret_bool (by rw [HN.out]), Grew.refl _⟩
end Go.Proofs.YtmekodocibnniaaDoor
