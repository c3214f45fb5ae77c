/- slices.IndexFunc, slices.ContainsFunc on runes; glyph.Check: the contracts. -/
import Derived.Test.YtdobncickipjjaaDoorShelf
import Derived.Test.YtdobncickipjjaaDoorMay
import Derived.Test.YtdobncickipjjaaDoorProps
namespace Go.Proofs.YtdobncickipjjaaDoor
open Go Go.RowKit

set_option maxHeartbeats 400000 in
theorem indexRunes_any (ts : List Int) (ta : Option Addr) (tc : Nat) (pf : FuncId) (caps : Array Value) (pr : Int → Bool) (w : World)
    (eg : ∀ args w, (callFunc pf args).run Tryd.prog w = .ok (.enter pf args) w)
    (hcall : ∀ p ∈ ts, ∀ w1, Grew w w1 → Calls Tryd.prog pf (#[.int .i32 p] ++ caps) w1 fun e w' => e = .returned (.bool (pr p)) ∧ Grew w1 w')
    (lo hi : Nat) (hp : RunesIn w lo hi ta tc ts) (hh : hi ≤ w.heap.size) (hlen : ts.length ≤ 1048576) :
    Calls Tryd.prog 42 #[.slice ta ts.length tc, .func (.func pf) #[] caps] w fun e w' =>
      e = .returned (.int .i64 (idxOf pr ts)) ∧ Grew w w' := by
  have HC := Lib.hid hcall
  clear hcall
  go_enter Tryd.func42, Tryd.ntmps42
  go_wp2_with fail
  go_loopw [8] (fun i wr => ∃ (k : Nat), k ≤ ts.length ∧ i = .int .i64 k ∧ Grew w wr ∧ ∀ j, j < k → pr (ts.getD j default) = false) (fun i _ => ts.length - (intOf i).toNat)
  case atStart => exact ⟨0, by omega, rfl, Grew.refl _, fun j hj => by omega⟩
  case round =>
    obtain ⟨k, hk1, rfl, hg, hall⟩ := hrel
    have HA := Lib.hid hall
    clear hall
    by_cases hlt : k < ts.length
    · obtain ⟨b, o, rfl, _, hbh, hc0, _⟩ := (hp.grew hg hh).at hlt
      have HC1 := Lib.hid (HC.out _ (getD_mem ts k hlt) wr hg)
      have hd : ts.getD k 0 = ts.getD k default := rfl
      rw [hd] at hc0
      cases hpr : pr (ts.getD k default) with
      | false =>
        have HX : Hid (∀ j, j < k + 1 → pr (ts.getD j default) = false) := fun j hj => by
          rcases Nat.lt_or_ge j k with h | h
          · exact HA.out j h
          · obtain rfl : j = k := by omega
            exact hpr
        rw [hpr] at HC1
        clear hpr HA hd
        generalize ts.getD k default = p at *
        go_wp2_with fail
        refine HC1.out.mono ?_
        rintro e w' ⟨rfl, g1⟩
        go_wp2_with fail
        go_roundw
        case rel => exact ⟨k + 1, by omega, by go_num, hg.trans g1, HX.out⟩
        case measure => simp [intOf]; omega
      | true =>
        have HX : Hid (idxOf pr ts = k) := idxOf_found hlt hpr HA.out
        rw [hpr] at HC1
        clear hpr HA hd
        generalize ts.getD k default = p at *
        go_wp2_with fail
        refine HC1.out.mono ?_
        rintro e w' ⟨rfl, g1⟩
        go_wp2_with fail
        go_ret
        exact ⟨ret_int HX.out.symm, hg.trans g1⟩
    · obtain rfl : k = ts.length := by omega
      have HX : Hid (idxOf pr ts = -1) := idxOf_none HA.out
      clear HA
      go_wp2_with fail
      go_ret
      exact ⟨ret_int HX.out.symm, hg⟩

theorem idx_all (pr : Int → Bool) (ts : List Int) : (idxOf pr ts = -1 ∧ ts.all (fun c => !pr c) = true) ∨ ∃ j : Nat, idxOf pr ts = j ∧ ts.all (fun c => !pr c) = false := by
  unfold idxOf
  cases h : ts.findIdx? pr with
  | none =>
    left
    refine ⟨rfl, ?_⟩
    rw [List.findIdx?_eq_none_iff] at h
    rw [List.all_eq_true]
    intro x hx
    simp [h x hx]
  | some i =>
    right
    refine ⟨i, rfl, ?_⟩
    rw [List.findIdx?_eq_some_iff_getElem] at h
    obtain ⟨h1, h2, _⟩ := h
    rw [List.all_eq_false]
    exact ⟨ts[i], List.getElem_mem h1, by simp [h2]⟩

set_option maxHeartbeats 400000 in
theorem containsRunes_any (ts : List Int) (ta : Option Addr) (tc : Nat) (pf : FuncId) (caps : Array Value) (pr : Int → Bool) (w : World)
    (eg : ∀ args w, (callFunc pf args).run Tryd.prog w = .ok (.enter pf args) w)
    (hcall : ∀ p ∈ ts, ∀ w1, Grew w w1 → Calls Tryd.prog pf (#[.int .i32 p] ++ caps) w1 fun e w' => e = .returned (.bool (pr p)) ∧ Grew w1 w')
    (lo hi : Nat) (hp : RunesIn w lo hi ta tc ts) (hh : hi ≤ w.heap.size) (hlen : ts.length ≤ 1048576) :
    Calls Tryd.prog 25 #[.slice ta ts.length tc, .func (.func pf) #[] caps] w fun e w' =>
      e = .returned (.bool (!ts.all (fun c => !pr c))) ∧ Grew w w' := by
  have C := Lib.hid (indexRunes_any ts ta tc pf caps pr w eg hcall lo hi hp hh hlen)
  clear hcall eg
  rcases idx_all pr ts with ⟨h1, h2⟩ | ⟨j, h1, h2⟩
  · rw [h1] at C
    have H2 := Lib.hid h2
    clear h1 h2
    go_enter Tryd.func25, Tryd.ntmps25
    go_wp2_with fail
    refine C.out.mono ?_
    rintro e w' ⟨rfl, hg⟩
    go_wp2_with fail
    go_ret
    exact ⟨ret_bool (by rw [H2.out]; rfl), hg⟩
  · rw [h1] at C
    have H2 := Lib.hid h2
    clear h1 h2
    go_enter Tryd.func25, Tryd.ntmps25
    go_wp2_with fail
    refine C.out.mono ?_
    rintro e w' ⟨rfl, hg⟩
    go_wp2_with fail
    go_ret
    exact ⟨ret_bool (by rw [H2.out]; simp), hg⟩

theorem valid_isRune (r : Int) : Lib.validRune r = isRune r := by
  unfold Lib.validRune isRune
  rw [Bool.eq_iff_iff]
  simp only [decide_eq_true_eq, Bool.or_eq_true, Bool.and_eq_true]
  omega

set_option maxHeartbeats 400000 in
theorem runeFn_any (p : Int) (w : World) :
    Calls Tryd.prog 26 (#[.int .i32 p] ++ #[]) w fun e w' => e = .returned (.bool (!isRune p)) ∧ Grew w w' := by
  have C := Lib.hid (fun w => Any.utf8_ValidRune Tryd.lays119 p w)
  rw [valid_isRune] at C
  change Hid (∀ w, Calls Tryd.prog 27 _ _ _) at C
  simp only [List.append_toArray, List.cons_append, List.nil_append]
  go_enter Tryd.func26, Tryd.ntmps26
  go_wp2_with fail
  refine (C.out _).mono ?_
  rintro e w' ⟨rfl, rfl⟩
  go_wp2_with fail
  go_ret
  exact ⟨rfl, Grew.refl _⟩

set_option maxHeartbeats 400000 in
theorem check03_any (ts : List Int) (ta : Option Addr) (tc : Nat) (w : World) (lo hi : Nat) (hp : RunesIn w lo hi ta tc ts) (hh : hi ≤ w.heap.size) (hlen : ts.length ≤ 1048576) :
    Calls Tryd.prog 8 #[.slice ta ts.length tc] w fun e w' => e = .returned (.int .i64 (checkRs ts)) ∧ Grew w w' := by
  have C := Lib.hid (containsRunes_any ts ta tc 26 #[] (fun c => !isRune c) w Tryd.call26 (fun p _ w1 _ => runeFn_any p w1) lo hi hp hh hlen)
  have HE : Hid (checkRs ts = if ts.all isRune then 0 else 4) := by show _ = _; rfl
  simp only [Bool.not_not] at C
  have e : (ts.all fun c => isRune c) = ts.all isRune := rfl
  rw [e] at C
  clear e
  cases h : ts.all isRune with
  | true =>
    rw [h] at C HE
    clear h
    go_enter Tryd.func8, Tryd.ntmps8
    go_wp2_with fail
    refine C.out.mono ?_
    rintro e w' ⟨rfl, hg⟩
    go_wp2_with fail
    go_ret
    exact ⟨ret_val (by rw [HE.out]; rfl), hg⟩
  | false =>
    rw [h] at C HE
    clear h
    go_enter Tryd.func8, Tryd.ntmps8
    go_wp2_with fail
    refine C.out.mono ?_
    rintro e w' ⟨rfl, hg⟩
    go_wp2_with fail
    go_ret
    exact ⟨ret_val (by rw [HE.out]; rfl), hg⟩
end Go.Proofs.YtdobncickipjjaaDoor
