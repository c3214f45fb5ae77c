/- prop.key, prop.val, redlineref01.Key, Val: the contracts. -/
import Derived.Test.YtmekodocibnniaaDoorShelf
import Derived.Test.YtmekodocibnniaaDoorMay
namespace Go.Proofs.YtmekodocibnniaaDoor
open Go Go.RowKit

theorem str_nil {s : ByteArray} (h : s.size = 0) : s.toList.isEmpty = true := by
  rw [Lib.toList_data]
  cases h' : s.data.toList with
  | nil => rfl
  | cons _ _ => have := Lib.size_eq s; rw [h', List.length_cons] at this; omega
theorem str_some {s : ByteArray} (h : s.size ≠ 0) : s.toList.isEmpty = false := by
  rw [Lib.toList_data]
  cases h' : s.data.toList with
  | nil => have := Lib.size_eq s; rw [h', List.length_nil] at this; omega
  | cons _ _ => rfl
theorem isKey_nil {s : ByteArray} (h : s.size = 0) : isKey s = false := by simp [isKey, h]
theorem isKey_long {s : ByteArray} (h : 16 < s.size) : isKey s = false := by
  have : ¬ s.size ≤ 16 := by omega
  simp [isKey, this]
theorem isKey_all {s : ByteArray} (h : s.size ≠ 0) (h1 : s.size ≤ 16) : isKey s = s.data.toList.all lowB := by
  have : 1 ≤ s.size := by omega
  simp [isKey, this, h1]
theorem isVal_long {s : ByteArray} (h : 32 < s.size) : isVal s = false := by
  have : ¬ s.size ≤ 32 := by omega
  simp [isVal, this]
theorem isVal_all {s : ByteArray} (h1 : s.size ≤ 32) : isVal s = s.data.toList.all valB := by simp [isVal, h1]

set_option maxHeartbeats 1000000 in
theorem key_any (s : ByteArray) (w : World) (hs : s.size ≤ 1048576) :
    Calls Tryd.prog 32 #[.string s] w fun e w' => e = .returned (.bool (isKey s)) ∧ Grew w w' := by
  by_cases h0 : s.size = 0
  · have he := str_nil h0
    have HK := Lib.hid (isKey_nil h0)
    clear h0
    go_enter Tryd.func32, Tryd.ntmps32
    go_wp2_with fail
    go_ret
    exact ⟨ret_bool HK.out.symm, Grew.refl _⟩
  · have he := str_some h0
    by_cases h1 : s.size ≤ 16
    · have hcon := Any.strings_Trim_laid Tryd.lays160 (by kernel_rfl) s lows w (by omega) (by decide) (ascii_of_all (by decide))
      change Calls Tryd.prog 44 _ _ _ at hcon
      have HT := Lib.hid ((trim_key s).trans (isKey_all h0 h1).symm)
      generalize (⟨(Lib.trimS s.data.toList lows.data.toList).toArray⟩ : ByteArray) = r at hcon HT
      have C := Lib.hid hcon
      clear hcon h0
      unfold lows at C
      go_enter Tryd.func32, Tryd.ntmps32
      go_wp2_with fail
      refine C.out.mono ?_
      rintro e w' ⟨rfl, hB⟩
      go_wp2_with fail
      go_ret
      exact ⟨ret_bool HT.out, hB⟩
    · have HK := Lib.hid (isKey_long (s := s) (by omega))
      clear h0
      go_enter Tryd.func32, Tryd.ntmps32
      go_wp2_with fail
      go_ret
      exact ⟨ret_bool HK.out.symm, Grew.refl _⟩

set_option maxHeartbeats 1000000 in
theorem val_any (s : ByteArray) (w : World) (hs : s.size ≤ 1048576) :
    Calls Tryd.prog 33 #[.string s] w fun e w' => e = .returned (.bool (isVal s)) ∧ Grew w w' := by
  by_cases h1 : s.size ≤ 32
  · have hcon := Any.strings_Trim_laid Tryd.lays160 (by kernel_rfl) s valCs w (by omega) (by decide) (ascii_of_all (by decide))
    change Calls Tryd.prog 44 _ _ _ at hcon
    have HT := Lib.hid ((trim_val s).trans (isVal_all h1).symm)
    generalize (⟨(Lib.trimS s.data.toList valCs.data.toList).toArray⟩ : ByteArray) = r at hcon HT
    have C := Lib.hid hcon
    clear hcon
    unfold valCs at C
    go_enter Tryd.func33, Tryd.ntmps33
    go_wp2_with fail
    refine C.out.mono ?_
    rintro e w' ⟨rfl, hB⟩
    go_wp2_with fail
    go_ret
    exact ⟨ret_bool HT.out, hB⟩
  · have HK := Lib.hid (isVal_long (s := s) (by omega))
    go_enter Tryd.func33, Tryd.ntmps33
    go_wp2_with fail
    go_ret
    exact ⟨ret_bool HK.out.symm, Grew.refl _⟩
end Go.Proofs.YtmekodocibnniaaDoor
