/- slices.IndexFunc, slices.Equal on properties; prop.Get, prop.Same; node.Type: the contracts. -/
import Derived.Test.YtjbfimeckplcmaaDoorConv
import Derived.Test.YtjbfimeckplcmaaDoorChecked
import Derived.Outline
import Derived.Deep.QuietTactic
import Derived.BigQuiet
namespace Go.Proofs.YtjbfimeckplcmaaDoor
open Go Go.RowKit

theorem toList_beq (a b : ByteArray) : (a.toList == b.toList) = decide (a = b) := by
  rw [ByteArray.toList_eq, ByteArray.toList_eq]
  obtain ⟨⟨x⟩⟩ := a
  obtain ⟨⟨y⟩⟩ := b
  rw [Bool.eq_iff_iff]
  simp

/-- the place of the first that a predicate lets by, or -1 -/
def idxOf {α : Type} (pr : α → Bool) (l : List α) : Int := match l.findIdx? pr with
  | some i => i
  | none => -1
theorem idxOf_found {α : Type} [Inhabited α] {pr : α → Bool} {l : List α} {k : Nat} (hk : k < l.length) (h : pr (l.getD k default) = true) (hall : ∀ j, j < k → pr (l.getD j default) = false) : idxOf pr l = k := by
  have : l.findIdx? pr = some k := by
    rw [List.findIdx?_eq_some_iff_getElem]
    refine ⟨hk, ?_, fun j hj => ?_⟩
    · simpa [List.getD, List.getElem?_eq_getElem hk] using h
    · have := hall j hj
      simpa [List.getD, List.getElem?_eq_getElem (show j < l.length by omega)] using this
  unfold idxOf; rw [this]
theorem idxOf_none {α : Type} [Inhabited α] {pr : α → Bool} {l : List α} (hall : ∀ j, j < l.length → pr (l.getD j default) = false) : idxOf pr l = -1 := by
  have : l.findIdx? pr = none := by
    rw [List.findIdx?_eq_none_iff]
    intro x hx
    obtain ⟨j, hj, rfl⟩ := List.getElem_of_mem hx
    simpa [List.getD, List.getElem?_eq_getElem hj] using hall j hj
  unfold idxOf; rw [this]

set_option maxHeartbeats 400000 in
theorem indexProps_any (ps : List PropL) (pa : Option Addr) (pc : Nat) (pf : FuncId) (caps : Array Value) (pr : PropL → Bool) (w : World)
    (eg : ∀ args w, (callFunc pf args).run Tryd.prog w = .ok (.enter pf args) w)
    (hcall : ∀ p ∈ ps, ∀ w1, Grew w w1 → Calls Tryd.prog pf (#[.agg #[.string p.1, .string p.2]] ++ caps) w1 fun e w' => e = .returned (.bool (pr p)) ∧ Grew w1 w')
    (lo hi : Nat) (hp : PropsIn w lo hi pa pc ps) (hh : hi ≤ w.heap.size) (hlen : ps.length ≤ 1048576) :
    Calls Tryd.prog 21 #[.slice pa ps.length pc, .func (.func pf) #[] caps] w fun e w' =>
      e = .returned (.int .i64 (idxOf pr ps)) ∧ Grew w w' := by
  have HC := Lib.hid hcall
  clear hcall
  go_enter Tryd.func21, Tryd.ntmps21
  go_wp2_with fail
  go_loopw [8] (fun i wr => ∃ (k : Nat), k ≤ ps.length ∧ i = .int .i64 k ∧ Grew w wr ∧ ∀ j, j < k → pr (ps.getD j default) = false) (fun i _ => ps.length - (intOf i).toNat)
  case atStart => exact ⟨0, by omega, rfl, Grew.refl _, fun j hj => by omega⟩
  case round =>
    obtain ⟨k, hk1, rfl, hg, hall⟩ := hrel
    have HA := Lib.hid hall
    clear hall
    by_cases hlt : k < ps.length
    · obtain ⟨b, o, rfl, _, hbh, hc0, hc1⟩ := (hp.grew hg hh).at hlt
      have HC1 := Lib.hid (HC.out _ (getD_mem ps k hlt) wr hg)
      cases hpr : pr (ps.getD k default) with
      | false =>
        have HX : Hid (∀ j, j < k + 1 → pr (ps.getD j default) = false) := fun j hj => by
          rcases Nat.lt_or_ge j k with h | h
          · exact HA.out j h
          · obtain rfl : j = k := by omega
            exact hpr
        rw [hpr] at HC1
        clear hpr
        generalize ps.getD k default = x at *
        go_wp2_with fail
        refine HC1.out.mono ?_
        rintro e w' ⟨rfl, hg2⟩
        go_wp2_with fail
        go_roundw
        case rel => exact ⟨k + 1, by omega, by go_num, hg.trans hg2, HX.out⟩
        case measure => simp [intOf]; omega
      | true =>
        have HX := Lib.hid (idxOf_found hlt hpr HA.out)
        rw [hpr] at HC1
        clear hpr
        generalize ps.getD k default = x at *
        go_wp2_with fail
        refine HC1.out.mono ?_
        rintro e w' ⟨rfl, hg2⟩
        go_wp2_with fail
        go_ret
        exact ⟨ret_int (by rw [HX.out]), hg.trans hg2⟩
    · have HX := Lib.hid (idxOf_none (pr := pr) (l := ps) (fun j hj => HA.out j (by omega)))
      go_wp2_with fail
      go_ret
      exact ⟨ret_int (by rw [HX.out]), hg⟩

/-- what redline/prop.Get looks for -/
def getP (k : ByteArray) (ps : List PropL) : Option ByteArray := (ps.find? (fun p => decide (p.1 = k))).map (·.2)
theorem getP_idx (k : ByteArray) (ps : List PropL) : (idxOf (fun p : PropL => decide (p.1 = k)) ps = -1 ∧ getP k ps = none) ∨ ∃ j : Nat, j < ps.length ∧ idxOf (fun p : PropL => decide (p.1 = k)) ps = j ∧ getP k ps = some (ps.getD j default).2 := by
  unfold getP
  cases h : ps.findIdx? (fun p => decide (p.1 = k)) with
  | none =>
    left
    refine ⟨by unfold idxOf; rw [h], ?_⟩
    rw [List.findIdx?_eq_none_iff] at h
    rw [List.find?_eq_none.2 (fun x hx => by rw [h x hx]; simp)]
    rfl
  | some j =>
    right
    have h1 := (List.findIdx?_eq_some_iff_getElem.1 h)
    obtain ⟨hj, h2, h3⟩ := h1
    refine ⟨j, hj, by unfold idxOf; rw [h], ?_⟩
    have : ps.find? (fun p => decide (p.1 = k)) = some ps[j] := by
      rw [List.find?_eq_some_iff_getElem]
      exact ⟨h2, j, hj, rfl, fun i hi => by simpa using h3 i hi⟩
    rw [this]
    simp [List.getD, List.getElem?_eq_getElem hj]

set_option maxHeartbeats 400000 in
theorem getFn_any (p : PropL) (k : ByteArray) (s : Nat) (w : World) (hc : w.cell? ⟨s, 0, none⟩ = some (.string k)) (hs : s < w.heap.size) :
    Calls Tryd.prog 22 #[.agg #[.string p.1, .string p.2], .pointer (some ⟨s, 0, none⟩)] w fun e w' => e = .returned (.bool (decide (p.1 = k))) ∧ Grew w w' := by
  have HB := Lib.hid (toList_beq p.1 k)
  go_enter Tryd.func22, Tryd.ntmps22
  go_wp2_with fail
  go_ret
  exact ⟨ret_bool HB.out, Grew.alloc1 _ _⟩

set_option maxHeartbeats 400000 in
theorem get_any (ps : List PropL) (pa : Option Addr) (pc : Nat) (k : ByteArray) (w : World) (lo hi : Nat) (hp : PropsIn w lo hi pa pc ps) (hh : hi ≤ w.heap.size) (hlen : ps.length ≤ 1048576) :
    Calls Tryd.prog 11 #[.slice pa ps.length pc, .string k] w fun e w' => e = .returned (.tuple #[.string ((getP k ps).getD .empty), .bool (getP k ps).isSome]) ∧ Grew w w' := by
  have C := Lib.hid (indexProps_any ps pa pc 22 #[.pointer (some ⟨w.heap.size, 0, none⟩)] (fun p => decide (p.1 = k)) (w.alloc (.cells #[.string k] 9)) Tryd.call22 (fun p _ w1 hg => getFn_any p k w.heap.size w1 (by rw [hg.cell (by simp)]; exact World.cell?_alloc_new _ _ _ _) (by have := hg.size; simp at this; omega)) lo hi (hp.grew (Grew.alloc1 _ _) hh) (by simp; omega) hlen)
  rcases getP_idx k ps with ⟨h1, h2⟩ | ⟨j, hj, h1, h2⟩
  · rw [h1] at C
    have H2 := Lib.hid h2
    clear h1 h2
    go_enter Tryd.func11, Tryd.ntmps11
    go_wp2_with fail
    refine C.out.mono ?_
    rintro e w' ⟨rfl, hg⟩
    go_wp2_with fail
    go_ret2
    exact ⟨ret_val (by rw [H2.out]; rfl), (Grew.alloc1 _ _).trans hg⟩
  · rw [h1] at C
    have HP := fun w' (hg : Grew w w') => (hp.grew hg hh).at hj
    generalize ps.getD j default = p at h2 HP
    have HP := Lib.hid HP
    have H2 := Lib.hid h2
    clear h1 h2
    go_enter Tryd.func11, Tryd.ntmps11
    go_wp2_with fail
    refine C.out.mono ?_
    rintro e w' ⟨rfl, hg⟩
    obtain ⟨b, o, rfl, _, hbh, hc0, hc1⟩ := HP.out _ ((Grew.alloc1 _ _).trans hg)
    go_wp2_with fail
    go_ret2
    exact ⟨ret_val (by rw [H2.out]; rfl), (Grew.alloc1 _ _).trans hg⟩



set_option maxHeartbeats 400000 in
theorem equalProps_any (a b : Option Addr) (c d : Nat) (xs ys : List PropL) (w : World) (lo hi lo' hi' : Nat) (hx : PropsIn w lo hi a c xs) (hy : PropsIn w lo' hi' b d ys) (hl : xs.length ≤ 1048576) (hl2 : ys.length ≤ 1048576) (hh : hi ≤ w.heap.size) (hh' : hi' ≤ w.heap.size) :
    Calls Tryd.prog 27 #[.slice a xs.length c, .slice b ys.length d] w fun e w' => e = .returned (.bool (decide (xs = ys))) ∧ Grew w w' := by
  by_cases hne : xs.length = ys.length
  · have heq : ((xs.length : Int) != ys.length) = false := by simp [hne]
    have HL := Lib.hid hne
    have hle : xs.length ≤ ys.length := by omega
    clear hne
    go_enter Tryd.func27, Tryd.ntmps27
    go_wp2_with fail
    go_loopw [13] (fun i wr => ∃ (k : Nat), k ≤ xs.length ∧ i = .int .i64 k ∧ Grew w wr ∧ xs.take k = ys.take k) (fun i _ => xs.length - (intOf i).toNat)
    case atStart => exact ⟨0, by omega, rfl, Grew.refl _, by simp⟩
    case round =>
      obtain ⟨k, hk1, rfl, hg, he⟩ := hrel
      have HE := Lib.hid he
      clear he
      by_cases hlt : k < xs.length
      · obtain ⟨b1, o1, rfl, _, _, hc1, hd1⟩ := (hx.grew hg hh).at hlt
        obtain ⟨b2, o2, rfl, _, _, hc2, hd2⟩ := (hy.grew hg hh').at (j := k) (by omega)
        have hy1 : (k : Int) < (ys.length : Int) := by omega
        by_cases hxy : xs.getD k default = ys.getD k default
        · have ht1 : ((xs.getD k default).1.toList == (ys.getD k default).1.toList) = true := by rw [hxy]; simp
          have ht2 : ((xs.getD k default).2.toList == (ys.getD k default).2.toList) = true := by rw [hxy]; simp
          have HX : Hid (xs.take (k + 1) = ys.take (k + 1)) := by
            show _ = _
            rw [take_next xs k hlt, take_next ys k (by omega), HE.out, hxy]
          clear hxy
          generalize xs.getD k default = p at *
          generalize ys.getD k default = q at *
          go_wp2_with fail
          go_quiet (fail)
          go_wp2_with fail
          go_roundw
          case rel => exact ⟨k + 1, by omega, by go_num, hg.drewN _, HX.out⟩
          case measure => simp [intOf]; omega
        · have hne := ne_of_getD hxy
          have HN : Hid (decide (xs = ys) = false) := by show _ = _; simp [hne]
          clear hne
          by_cases h1 : (xs.getD k default).1 = (ys.getD k default).1
          · have h2 : ¬ (xs.getD k default).2 = (ys.getD k default).2 := fun e => hxy (Prod.ext h1 e)
            have ht1 : ((xs.getD k default).1.toList == (ys.getD k default).1.toList) = true := by rw [toList_beq]; simpa using h1
            have ht2 : ((xs.getD k default).2.toList == (ys.getD k default).2.toList) = false := by rw [toList_beq]; simpa using h2
            clear hxy h1 h2
            generalize xs.getD k default = p at *
            generalize ys.getD k default = q at *
            go_wp2_with fail
            go_quiet (fail)
            go_wp2_with fail
            go_ret
            exact ⟨ret_bool (by rw [HN.out]), hg.drewN _⟩
          · have ht1 : ((xs.getD k default).1.toList == (ys.getD k default).1.toList) = false := by rw [toList_beq]; simpa using h1
            clear hxy h1
            generalize xs.getD k default = p at *
            generalize ys.getD k default = q at *
            go_wp2_with fail
            go_quiet (fail)
            go_wp2_with fail
            go_ret
            exact ⟨ret_bool (by rw [HN.out]), hg.drewN _⟩
      · have HN : Hid (decide (xs = ys) = true) := by
          show _ = _
          have := HE.out
          rw [List.take_of_length_le (by omega), List.take_of_length_le (by have := HL.out; omega)] at this
          simp [this]
        go_wp2_with fail
        go_ret
        exact ⟨ret_bool (by rw [HN.out]), hg⟩
  · have heq : ((xs.length : Int) != ys.length) = true := by simp; omega
    have HN : Hid (decide (xs = ys) = false) := by
      show _ = _
      simp only [decide_eq_false_iff_not]
      intro e; exact hne (by rw [e])
    clear hne
    go_enter Tryd.func27, Tryd.ntmps27
    go_wp2_with fail
    go_ret
    exact ⟨ret_bool (by rw [HN.out]), Grew.refl _⟩

set_option maxHeartbeats 400000 in
theorem propSame_any (a b : Option Addr) (c d : Nat) (xs ys : List PropL) (w : World) (lo hi lo' hi' : Nat) (hx : PropsIn w lo hi a c xs) (hy : PropsIn w lo' hi' b d ys) (hl : xs.length ≤ 1048576) (hl2 : ys.length ≤ 1048576) (hh : hi ≤ w.heap.size) (hh' : hi' ≤ w.heap.size) :
    Calls Tryd.prog 15 #[.slice a xs.length c, .slice b ys.length d] w fun e w' => e = .returned (.bool (decide (xs = ys))) ∧ Grew w w' := by
  have C := Lib.hid (equalProps_any a b c d xs ys w lo hi lo' hi' hx hy hl hl2 hh hh')
  go_enter Tryd.func15, Tryd.ntmps15
  go_wp2_with fail
  refine C.out.mono ?_
  rintro e w' ⟨rfl, hg⟩
  go_wp2_with fail
  go_ret
  exact ⟨rfl, hg⟩
end Go.Proofs.YtjbfimeckplcmaaDoor
