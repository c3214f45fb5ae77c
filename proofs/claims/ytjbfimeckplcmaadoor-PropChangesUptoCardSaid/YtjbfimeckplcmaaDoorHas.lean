/- slices.Index, slices.Contains on properties; prop.without's predicate; redlineref01.has: the contracts. -/
import Derived.Test.YtjbfimeckplcmaaDoorCheck01
import Derived.Test.YtjbfimeckplcmaaDoorProps
namespace Go.Proofs.YtjbfimeckplcmaaDoor
open Go Go.RowKit

theorem prop_eq_tests {p q : PropL} : (p = q ∧ (p.1.toList == q.1.toList) = true ∧ (p.2.toList == q.2.toList) = true) ∨ (p ≠ q ∧ (p.1.toList == q.1.toList) = true ∧ (p.2.toList == q.2.toList) = false) ∨ (p ≠ q ∧ (p.1.toList == q.1.toList) = false) := by
  rw [toList_beq, toList_beq]
  by_cases h1 : p.1 = q.1
  · by_cases h2 : p.2 = q.2
    · exact Or.inl ⟨Prod.ext h1 h2, by simpa using h1, by simpa using h2⟩
    · exact Or.inr (Or.inl ⟨fun e => h2 (by rw [e]), by simpa using h1, by simpa using h2⟩)
  · exact Or.inr (Or.inr ⟨fun e => h1 (by rw [e]), by simpa using h1⟩)

set_option maxHeartbeats 1000000 in
theorem indexProp_any (ps : List PropL) (pa : Option Addr) (pc : Nat) (v : PropL) (w : World) (lo hi : Nat) (hp : PropsIn w lo hi pa pc ps) (hh : hi ≤ w.heap.size) (hlen : ps.length ≤ 1048576) :
    Calls Tryd.prog 60 #[.slice pa ps.length pc, .agg #[.string v.1, .string v.2]] w fun e w' =>
      e = .returned (.int .i64 (idxOf (fun p : PropL => decide (p = v)) ps)) ∧ Grew w w' := by
  go_enter Tryd.func60, Tryd.ntmps60
  go_wp2_with fail
  have hg1 := Grew.alloc1 w (Obj.cells #[.string v.1, .string v.2] 36)
  have HB := Lib.hid (fun w' (hg : Grew (w.alloc (Obj.cells #[.string v.1, .string v.2] 36)) w') => pbox hg)
  generalize w.alloc (Obj.cells #[.string v.1, .string v.2] 36) = w1 at *
  go_loopw [8] (fun i wr => ∃ (k : Nat), k ≤ ps.length ∧ i = .int .i64 k ∧ Grew w1 wr ∧ Hid (∀ j, j < k → (fun p : PropL => decide (p = v)) (ps.getD j default) = false)) (fun i _ => ps.length - (intOf i).toNat)
  case atStart => exact ⟨0, by omega, rfl, Grew.refl _, (show ∀ j, j < 0 → _ from fun j hj => by omega)⟩
  case round =>
    obtain ⟨k, hk1, rfl, hg, hA⟩ := hrel
    by_cases hlt : k < ps.length
    · obtain ⟨b, o, rfl, _, hbh, c0, c1⟩ := (hp.grew (hg1.trans hg) hh).at hlt
      obtain ⟨d0, d1, _⟩ := HB.out wr hg
      have HF := Lib.hid (fun h => idxOf_found (pr := fun p : PropL => decide (p = v)) hlt h hA.out)
      have HN : Hid ((fun p : PropL => decide (p = v)) (ps.getD k default) = false → ∀ j, j < k + 1 → (fun p : PropL => decide (p = v)) (ps.getD j default) = false) := fun h j hj => by
        rcases Nat.lt_or_ge j k with h1 | h1
        · exact hA.out j h1
        · obtain rfl : j = k := by omega
          exact h
      clear hA HB
      generalize ps.getD k default = p at *
      rcases prop_eq_tests (p := v) (q := p) with ⟨he, t1, t2⟩ | ⟨he, t1, t2⟩ | ⟨he, t1⟩
      · have HE := Lib.hid (HF.out (by simpa using he.symm))
        clear he HF HN
        go_wp2_with fail
        go_quiet (fail)
        go_wp2_with fail
        go_ret
        exact ⟨ret_int HE.out.symm, (hg1.trans hg).drewN _⟩
      · have HE := Lib.hid (HN.out (by simpa using fun e => he e.symm))
        clear he HF HN
        go_wp2_with fail
        go_quiet (fail)
        go_wp2_with fail
        go_roundw
        case rel => exact ⟨k + 1, by omega, by go_num, hg.drewN _, HE⟩
        case measure => simp [intOf]; omega
      · have HE := Lib.hid (HN.out (by simpa using fun e => he e.symm))
        clear he HF HN
        go_wp2_with fail
        go_quiet (fail)
        go_wp2_with fail
        go_roundw
        case rel => exact ⟨k + 1, by omega, by go_num, hg.drewN _, HE⟩
        case measure => simp [intOf]; omega
    · obtain rfl : k = ps.length := by omega
      have HE := Lib.hid (idxOf_none (pr := fun p : PropL => decide (p = v)) (l := ps) hA.out)
      clear hA HB
      go_wp2_with fail
      go_ret
      exact ⟨ret_int HE.out.symm, hg1.trans hg⟩

/-- whether one is among properties -/
def hasP (ps : List PropL) (v : PropL) : Bool := ps.any fun p => decide (p = v)
theorem hasP_idx (ps : List PropL) (v : PropL) : (idxOf (fun p : PropL => decide (p = v)) ps = -1 ∧ hasP ps v = false) ∨ ∃ j : Nat, idxOf (fun p : PropL => decide (p = v)) ps = j ∧ hasP ps v = true := by
  unfold idxOf
  cases h : ps.findIdx? (fun p : PropL => decide (p = v)) with
  | none =>
    left
    refine ⟨rfl, ?_⟩
    rw [List.findIdx?_eq_none_iff] at h
    unfold hasP
    rw [List.any_eq_false]
    intro x hx
    simpa using h x hx
  | some i =>
    right
    refine ⟨i, rfl, ?_⟩
    rw [List.findIdx?_eq_some_iff_getElem] at h
    obtain ⟨h1, h2, _⟩ := h
    unfold hasP
    rw [List.any_eq_true]
    exact ⟨ps[i], List.getElem_mem h1, h2⟩

set_option maxHeartbeats 400000 in
theorem containsProp_any (ps : List PropL) (pa : Option Addr) (pc : Nat) (v : PropL) (w : World) (lo hi : Nat) (hp : PropsIn w lo hi pa pc ps) (hh : hi ≤ w.heap.size) (hlen : ps.length ≤ 1048576) :
    Calls Tryd.prog 42 #[.slice pa ps.length pc, .agg #[.string v.1, .string v.2]] w fun e w' => e = .returned (.bool (hasP ps v)) ∧ Grew w w' := by
  have C := Lib.hid (fun w' (hg : Grew w w') => indexProp_any ps pa pc v w' lo hi (hp.grew hg hh) (Nat.le_trans hh hg.size) hlen)
  rcases hasP_idx ps v with ⟨h1, h2⟩ | ⟨j, h1, h2⟩
  · rw [h1] at C
    have H2 := Lib.hid h2
    clear h1 h2
    go_enter Tryd.func42, Tryd.ntmps42
    go_wp2_with fail
    refine (C.out _ (Grew.alloc1 _ _)).mono ?_
    rintro e w' ⟨rfl, hg⟩
    go_wp2_with fail
    go_ret
    exact ⟨ret_bool H2.out.symm, (Grew.alloc1 _ _).trans hg⟩
  · rw [h1] at C
    have H2 := Lib.hid h2
    clear h1 h2
    go_enter Tryd.func42, Tryd.ntmps42
    go_wp2_with fail
    refine (C.out _ (Grew.alloc1 _ _)).mono ?_
    rintro e w' ⟨rfl, hg⟩
    go_wp2_with fail
    go_ret
    exact ⟨ret_bool H2.out.symm, (Grew.alloc1 _ _).trans hg⟩

set_option maxHeartbeats 400000 in
theorem withoutFn_any (ps : List PropL) (pa : Option Addr) (pc : Nat) (p : PropL) (s : Nat) (w : World) (lo hi : Nat) (hp : PropsIn w lo hi pa pc ps) (hh : hi ≤ w.heap.size) (hlen : ps.length ≤ 1048576) (hc : w.cell? ⟨s, 0, none⟩ = some (.slice pa ps.length pc)) (hs : s < w.heap.size) :
    Calls Tryd.prog 41 #[.agg #[.string p.1, .string p.2], .pointer (some ⟨s, 0, none⟩)] w fun e w' => e = .returned (.bool (hasP ps p)) ∧ Grew w w' := by
  have C := Lib.hid (fun w' (hg : Grew w w') => containsProp_any ps pa pc p w' lo hi (hp.grew hg hh) (Nat.le_trans hh hg.size) hlen)
  go_enter Tryd.func41, Tryd.ntmps41
  go_wp2_with fail
  refine (C.out _ (Grew.alloc1 _ _)).mono ?_
  rintro e w' ⟨rfl, hg⟩
  go_wp2_with fail
  go_ret
  exact ⟨rfl, (Grew.alloc1 _ _).trans hg⟩

set_option maxHeartbeats 1000000 in
theorem refHas_any (ps : List PropL) (pa : Option Addr) (pc : Nat) (v : PropL) (w : World) (lo hi : Nat) (hp : PropsIn w lo hi pa pc ps) (hh : hi ≤ w.heap.size) (hlen : ps.length ≤ 1048576) :
    Calls Tryd.prog 32 #[.slice pa ps.length pc, .agg #[.string v.1, .string v.2]] w fun e w' => e = .returned (.bool (hasP ps v)) ∧ Grew w w' := by
  go_enter Tryd.func32, Tryd.ntmps32
  go_wp2_with fail
  have hg1 := Grew.alloc1 w (Obj.cells #[.string v.1, .string v.2] 36)
  have HB := Lib.hid (fun w' (hg : Grew (w.alloc (Obj.cells #[.string v.1, .string v.2] 36)) w') => pbox hg)
  generalize w.alloc (Obj.cells #[.string v.1, .string v.2] 36) = w1 at *
  go_loopw [9] (fun i wr => ∃ (k : Nat), k ≤ ps.length ∧ i = .int .i64 k ∧ Grew w1 wr ∧ Hid (hasP (ps.take k) v = false)) (fun i _ => ps.length - (intOf i).toNat)
  case atStart => exact ⟨0, by omega, rfl, Grew.refl _, (show hasP (List.take 0 _) _ = false by simp [hasP])⟩
  case round =>
    obtain ⟨k, hk1, rfl, hg, hA⟩ := hrel
    by_cases hlt : k < ps.length
    · obtain ⟨b, o, rfl, _, hbh, c0, c1⟩ := (hp.grew (hg1.trans hg) hh).at hlt
      have HF : Hid (ps.getD k default = v → hasP ps v = true) := fun h => by
        unfold hasP
        rw [List.any_eq_true]
        exact ⟨ps.getD k default, getD_mem ps k hlt, by simpa using h⟩
      have HN : Hid (ps.getD k default ≠ v → hasP (ps.take (k + 1)) v = false) := fun h => by
        have := hA.out
        unfold hasP at this ⊢
        rw [take_next ps k hlt, List.any_append, this]
        simpa using h
      obtain ⟨d0, d1, hz⟩ := HB.out wr hg
      clear hA
      generalize ps.getD k default = p at *
      have HB2 := Lib.hid (HB.out (wr.alloc (Obj.cells #[.string p.1, .string p.2] 36)) (hg.trans (Grew.alloc1 _ _)))
      clear HB
      rcases prop_eq_tests (p := p) (q := v) with ⟨he, t1, t2⟩ | ⟨he, t1, t2⟩ | ⟨he, t1⟩
      · have HE := Lib.hid (HF.out he)
        clear he HF HN
        go_wp2_with fail
        go_ret
        exact ⟨ret_bool HE.out.symm, hg1.trans (hg.trans (Grew.alloc1 _ _))⟩
      · have HE := Lib.hid (HN.out he)
        clear he HF HN
        go_wp2_with fail
        go_roundw
        case rel => exact ⟨k + 1, by omega, by go_num, hg.trans (Grew.alloc1 _ _), HE⟩
        case measure => simp [intOf]; omega
      · have HE := Lib.hid (HN.out he)
        clear he HF HN
        go_wp2_with fail
        go_roundw
        case rel => exact ⟨k + 1, by omega, by go_num, hg.trans (Grew.alloc1 _ _), HE⟩
        case measure => simp [intOf]; omega
    · obtain rfl : k = ps.length := by omega
      have HE : Hid (hasP ps v = false) := by
        have := hA.out
        rwa [List.take_length] at this
      clear hA HB
      go_wp2_with fail
      go_ret
      exact ⟨ret_bool HE.out.symm, hg1.trans hg⟩
end Go.Proofs.YtjbfimeckplcmaaDoor
