/- slices.IndexFunc, slices.Equal on properties; prop.Get, prop.Same; node.Type: the contracts. -/
import Derived.Test.YtgnlgfkolbecmaaConv
import Derived.Test.YtgnlgfkolbecmaaChecked
import Derived.Outline
import Derived.Deep.QuietTactic
import Derived.BigQuiet
namespace Go.Proofs.Ytgnlgfkolbecmaa
open Go Go.RowKit

theorem toList_beq (a b : ByteArray) : (a.toList == b.toList) = decide (a = b) := by
  rw [ByteArray.toList_eq, ByteArray.toList_eq]
  obtain ⟨⟨x⟩⟩ := a
  obtain ⟨⟨y⟩⟩ := b
  rw [Bool.eq_iff_iff]
  simp

/-- the place of the first that a predicate lets by, or -1 -/
def idxOf {α : Type} (pr : α → Bool) (l : List α) : Int := match l.findIdx? pr with
  | some i => i
  | none => -1
theorem idxOf_found {α : Type} [Inhabited α] {pr : α → Bool} {l : List α} {k : Nat} (hk : k < l.length) (h : pr (l.getD k default) = true) (hall : ∀ j, j < k → pr (l.getD j default) = false) : idxOf pr l = k := by
  have : l.findIdx? pr = some k := by
    rw [List.findIdx?_eq_some_iff_getElem]
    refine ⟨hk, ?_, fun j hj => ?_⟩
    · simpa [List.getD, List.getElem?_eq_getElem hk] using h
    · have := hall j hj
      simpa [List.getD, List.getElem?_eq_getElem (show j < l.length by omega)] using this
  unfold idxOf; rw [this]
theorem idxOf_none {α : Type} [Inhabited α] {pr : α → Bool} {l : List α} (hall : ∀ j, j < l.length → pr (l.getD j default) = false) : idxOf pr l = -1 := by
  have : l.findIdx? pr = none := by
    rw [List.findIdx?_eq_none_iff]
    intro x hx
    obtain ⟨j, hj, rfl⟩ := List.getElem_of_mem hx
    simpa [List.getD, List.getElem?_eq_getElem hj] using hall j hj
  unfold idxOf; rw [this]


/-- what redline/prop.Get looks for -/
def getP (k : ByteArray) (ps : List PropL) : Option ByteArray := (ps.find? (fun p => decide (p.1 = k))).map (·.2)
theorem getP_idx (k : ByteArray) (ps : List PropL) : (idxOf (fun p : PropL => decide (p.1 = k)) ps = -1 ∧ getP k ps = none) ∨ ∃ j : Nat, j < ps.length ∧ idxOf (fun p : PropL => decide (p.1 = k)) ps = j ∧ getP k ps = some (ps.getD j default).2 := by
  unfold getP
  cases h : ps.findIdx? (fun p => decide (p.1 = k)) with
  | none =>
    left
    refine ⟨by unfold idxOf; rw [h], ?_⟩
    rw [List.findIdx?_eq_none_iff] at h
    rw [List.find?_eq_none.2 (fun x hx => by rw [h x hx]; simp)]
    rfl
  | some j =>
    right
    have h1 := (List.findIdx?_eq_some_iff_getElem.1 h)
    obtain ⟨hj, h2, h3⟩ := h1
    refine ⟨j, hj, by unfold idxOf; rw [h], ?_⟩
    have : ps.find? (fun p => decide (p.1 = k)) = some ps[j] := by
      rw [List.find?_eq_some_iff_getElem]
      exact ⟨h2, j, hj, rfl, fun i hi => by simpa using h3 i hi⟩
    rw [this]
    simp [List.getD, List.getElem?_eq_getElem hj]






end Go.Proofs.Ytgnlgfkolbecmaa
