/- redlineref03.is, Check: the contracts. -/
import Derived.Test.YtdobncickipjjaaDoorMay
import Derived.Test.YtdobncickipjjaaDoorChecked
import Derived.Outline
namespace Go.Proofs.YtdobncickipjjaaDoor
open Go Go.RowKit

theorem isRune_of {c : Int} (h : (0 ≤ c ∧ c ≤ 55295) ∨ (57344 ≤ c ∧ c ≤ 1114111)) : isRune c = true := by
  simp only [isRune, Bool.or_eq_true, Bool.and_eq_true, decide_eq_true_eq]; omega
theorem isRune_not {c : Int} (h : ¬ ((0 ≤ c ∧ c ≤ 55295) ∨ (57344 ≤ c ∧ c ≤ 1114111))) : isRune c = false := by
  rw [← Bool.not_eq_true]
  intro hv
  simp only [isRune, Bool.or_eq_true, Bool.and_eq_true, decide_eq_true_eq] at hv
  omega

set_option maxHeartbeats 1000000 in
theorem refIs_any (c : Int) (w : World) :
    Calls Tryd.prog 60 #[.int .i32 c] w fun e w' => e = .returned (.bool (isRune c)) ∧ w' = w := by
  by_cases h1 : 0 ≤ c
  · by_cases h2 : c ≤ 55295
    · have HE := Lib.hid (isRune_of (c := c) (by omega))
      go_enter Tryd.func60, Tryd.ntmps60
      go_wp2_with fail
      go_ret
      exact ⟨ret_bool HE.out.symm, rfl⟩
    · by_cases h3 : 57344 ≤ c
      · by_cases h4 : c ≤ 1114111
        · have HE := Lib.hid (isRune_of (c := c) (by omega))
          have h5 : decide (c ≤ 1114111) = true := decide_eq_true h4
          go_enter Tryd.func60, Tryd.ntmps60
          go_wp2_with fail
          go_ret
          exact ⟨ret_bool HE.out.symm, rfl⟩
        · have HE := Lib.hid (isRune_not (c := c) (by omega))
          have h5 : decide (c ≤ 1114111) = false := decide_eq_false h4
          go_enter Tryd.func60, Tryd.ntmps60
          go_wp2_with fail
          go_ret
          exact ⟨ret_bool HE.out.symm, rfl⟩
      · have HE := Lib.hid (isRune_not (c := c) (by omega))
        go_enter Tryd.func60, Tryd.ntmps60
        go_wp2_with fail
        go_ret
        exact ⟨ret_bool HE.out.symm, rfl⟩
  · have HE := Lib.hid (isRune_not (c := c) (by omega))
    go_enter Tryd.func60, Tryd.ntmps60
    go_wp2_with fail
    go_ret
    exact ⟨ret_bool HE.out.symm, rfl⟩

theorem allR_take (l : List Int) (k : Nat) (hk : k < l.length) (h : (l.take k).all isRune = true) : (l.take (k + 1)).all isRune = isRune (l.getD k 0) := by
  rw [List.take_succ_eq_append_getElem hk, List.all_append, h]
  simp [List.getD, List.getElem?_eq_getElem hk]
theorem allR_bad (l : List Int) (k : Nat) (hk : k < l.length) (h : isRune (l.getD k 0) = false) : checkRs l = 4 := by
  have : l.all isRune = false := by
    rw [List.all_eq_false]
    exact ⟨l[k], List.getElem_mem hk, by simpa [List.getD, List.getElem?_eq_getElem hk] using h⟩
  simp [checkRs, this]

set_option maxHeartbeats 1000000 in
theorem refCheck03_any (ts : List Int) (ta : Option Addr) (tc : Nat) (w : World) (lo hi : Nat) (hp : RunesIn w lo hi ta tc ts) (hh : hi ≤ w.heap.size) (hlen : ts.length ≤ 1048576) :
    Calls Tryd.prog 47 #[.slice ta ts.length tc] w fun e w' => e = .returned (.int .i64 (checkRs ts)) ∧ Grew w w' := by
  go_enter Tryd.func47, Tryd.ntmps47
  go_wp2_with fail
  go_loopw [7] (fun i wr => ∃ (k : Nat), k ≤ ts.length ∧ i = .int .i64 k ∧ wr = w ∧ Hid ((ts.take k).all isRune = true)) (fun i _ => ts.length - (intOf i).toNat)
  case atStart => exact ⟨0, by omega, rfl, rfl, (show List.all (List.take 0 _) _ = true by simp)⟩
  case round =>
    obtain ⟨k, hk, rfl, rfl, hall⟩ := hrel
    by_cases hlt : k < ts.length
    · obtain ⟨b, o, rfl, _, hbh, c0, _⟩ := hp.at hlt
      have HA := Lib.hid (allR_take ts k hlt hall.out)
      have HB := Lib.hid (allR_bad ts k hlt)
      clear hall
      generalize ts.getD k 0 = c at *
      have IA := Lib.hid (fun w => refIs_any c w)
      go_wp2_with fail
      refine (IA.out _).mono ?_
      rintro e w1 ⟨rfl, hw1⟩
      subst hw1
      cases hr : isRune c with
      | true =>
        have HC := Lib.hid (HA.out.trans hr)
        clear HA HB
        go_wp2_with fail
        go_roundw
        case rel => exact ⟨k + 1, by omega, by go_num, trivial, HC⟩
        case measure => simp [intOf]; omega
      | false =>
        have HC := Lib.hid (HB.out hr)
        clear HA HB
        go_wp2_with fail
        go_ret
        exact ⟨ret_val (by rw [HC.out]; rfl), Grew.refl _⟩
    · obtain rfl : k = ts.length := by omega
      have HC : Hid (checkRs ts = 0) := by
        show _ = _
        have := hall.out
        rw [List.take_length] at this
        simp [checkRs, this]
      go_wp2_with fail
      go_ret
      exact ⟨ret_val (by rw [HC.out]; rfl), Grew.refl _⟩
end Go.Proofs.YtdobncickipjjaaDoor
