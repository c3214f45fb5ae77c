/- redlineref01.Get, redlineref04.Type: the contracts (for seats without redlineref15). -/
import Derived.Test.YtjbfimeckplcmaaDoorProps
namespace Go.Proofs.YtjbfimeckplcmaaDoor
open Go Go.RowKit

theorem find_idx {α : Type} [Inhabited α] (pr : α → Bool) (l : List α) : (idxOf pr l = -1 ∧ l.find? pr = none) ∨ ∃ j : Nat, j < l.length ∧ idxOf pr l = j ∧ l.find? pr = some (l.getD j default) := by
  cases h : l.findIdx? pr with
  | none =>
    left
    refine ⟨by unfold idxOf; rw [h], ?_⟩
    rw [List.findIdx?_eq_none_iff] at h
    exact List.find?_eq_none.2 (fun x hx => by rw [h x hx]; simp)
  | some j =>
    right
    have h1 := (List.findIdx?_eq_some_iff_getElem.1 h)
    obtain ⟨hj, h2, h3⟩ := h1
    refine ⟨j, hj, by unfold idxOf; rw [h], ?_⟩
    have : l.find? pr = some l[j] := by
      rw [List.find?_eq_some_iff_getElem]
      exact ⟨h2, j, hj, rfl, fun i hi => by simpa using h3 i hi⟩
    rw [this]
    simp [List.getD, List.getElem?_eq_getElem hj]
theorem find_hit {α : Type} [Inhabited α] {pr : α → Bool} {l : List α} {k : Nat} (hk : k < l.length) (h : pr (l.getD k default) = true) (hall : ∀ j, j < k → pr (l.getD j default) = false) : l.find? pr = some (l.getD k default) := by
  rcases find_idx pr l with ⟨h1, _⟩ | ⟨j, hj, h1, h2⟩
  · rw [idxOf_found hk h hall] at h1; omega
  · rw [idxOf_found hk h hall] at h1
    obtain rfl : k = j := by omega
    exact h2
theorem find_miss {α : Type} [Inhabited α] {pr : α → Bool} {l : List α} (hall : ∀ j, j < l.length → pr (l.getD j default) = false) : l.find? pr = none := by
  rcases find_idx pr l with ⟨_, h1⟩ | ⟨j, hj, h1, h2⟩
  · exact h1
  · rw [idxOf_none hall] at h1; omega
theorem miss_next {α : Type} [Inhabited α] {pr : α → Bool} {l : List α} {k : Nat} (hall : ∀ j, j < k → pr (l.getD j default) = false) (h : pr (l.getD k default) = false) : ∀ j, j < k + 1 → pr (l.getD j default) = false := fun j hj => by
  rcases Nat.lt_or_ge j k with h1 | h1
  · exact hall j h1
  · obtain rfl : j = k := by omega
    exact h

set_option maxHeartbeats 400000 in
theorem refGet_any (ps : List PropL) (pa : Option Addr) (pc : Nat) (k : ByteArray) (w : World) (lo hi : Nat) (hp : PropsIn w lo hi pa pc ps) (hh : hi ≤ w.heap.size) (hlen : ps.length ≤ 1048576) :
    Calls Tryd.prog 12 #[.slice pa ps.length pc, .string k] w fun e w' => e = .returned (.tuple #[.string ((getP k ps).getD .empty), .bool (getP k ps).isSome]) ∧ Grew w w' := by
  go_enter Tryd.func12, Tryd.ntmps12
  go_wp2_with fail
  go_loopw [10] (fun i wr => ∃ (j : Nat), j ≤ ps.length ∧ i = .int .i64 j ∧ Grew w wr ∧ Hid (∀ i, i < j → (fun p : PropL => decide (p.1 = k)) (ps.getD i default) = false)) (fun i _ => ps.length - (intOf i).toNat)
  case atStart => exact ⟨0, by omega, rfl, Grew.refl _, (show ∀ i, i < 0 → _ from fun i hi => by omega)⟩
  case round =>
    obtain ⟨j, hj1, rfl, hg, hA⟩ := hrel
    by_cases hlt : j < ps.length
    · obtain ⟨b, o, rfl, _, hb, c0, c1⟩ := (hp.grew hg hh).at hlt
      have HT := Lib.hid (toList_beq (ps.getD j default).1 k)
      have HN := Lib.hid (fun h => miss_next (pr := fun p : PropL => decide (p.1 = k)) (l := ps) (k := j) hA.out h)
      have HF := Lib.hid (fun h => find_hit (pr := fun p : PropL => decide (p.1 = k)) hlt h hA.out)
      generalize ps.getD j default = p at *
      by_cases hpk : p.1 = k
      · have ht : (p.1.toList == k.toList) = true := by rw [HT.out]; simpa using hpk
        have HG : Hid (getP k ps = some p.2) := by
          show _ = _
          unfold getP
          rw [HF.out (by simpa using hpk)]; rfl
        clear hpk HF HN HT
        go_wp2_with fail
        go_ret2
        exact ⟨ret_val (by rw [HG.out]; rfl), hg.trans (Grew.alloc1 _ _)⟩
      · have ht : (p.1.toList == k.toList) = false := by rw [HT.out]; simpa using hpk
        have HG := Lib.hid (HN.out (by simpa using hpk))
        clear hpk HF HN HT
        go_wp2_with fail
        go_roundw
        case rel => exact ⟨j + 1, by omega, by go_num, hg.trans (Grew.alloc1 _ _), HG⟩
        case measure => simp [intOf]; omega
    · obtain rfl : j = ps.length := by omega
      have HG : Hid (getP k ps = none) := by
        show _ = _
        unfold getP
        rw [find_miss hA.out]; rfl
      go_wp2_with fail
      go_ret2
      exact ⟨ret_val (by rw [HG.out]; rfl), hg⟩

end Go.Proofs.YtjbfimeckplcmaaDoor
