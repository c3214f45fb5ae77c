/- trail.Compare, Same, Above, redlineref02.Compare, Above, cmp.Compare[int]: the contracts; how paths are compared. -/
import Derived.Test.YtgnlgfkolbecmaaR02
namespace Go.Proofs.Ytgnlgfkolbecmaa
open Go Go.RowKit

def cmpI (x y : Int) : Int := if x < y then -1 else if y < x then 1 else 0
/-- how two paths are compared -/
def cmpP : List Int → List Int → Int
  | [], [] => 0
  | [], _ :: _ => -1
  | _ :: _, [] => 1
  | a :: x, b :: y => if a < b then -1 else if b < a then 1 else cmpP x y
theorem cmpI_or (x y : Int) : cmpI x y = -1 ∨ cmpI x y = 0 ∨ cmpI x y = 1 := by
  unfold cmpI; split
  · exact Or.inl rfl
  · split
    · exact Or.inr (Or.inr rfl)
    · exact Or.inr (Or.inl rfl)
theorem cmpI_zero {x y : Int} : cmpI x y = 0 ↔ x = y := by
  unfold cmpI
  split
  · constructor
    · intro h; cases h
    · intro h; omega
  · split
    · constructor
      · intro h; cases h
      · intro h; omega
    · constructor
      · intro _; omega
      · intro _; rfl
theorem cmpP_or (x y : List Int) : cmpP x y = -1 ∨ cmpP x y = 0 ∨ cmpP x y = 1 := by
  induction x generalizing y with
  | nil => cases y <;> simp [cmpP]
  | cons a x ih =>
    cases y with
    | nil => simp [cmpP]
    | cons b y =>
      unfold cmpP
      split
      · exact Or.inl rfl
      · split
        · exact Or.inr (Or.inr rfl)
        · exact ih y
theorem cmpP_zero {x y : List Int} : cmpP x y = 0 ↔ x = y := by
  induction x generalizing y with
  | nil => cases y <;> simp [cmpP]
  | cons a x ih =>
    cases y with
    | nil => simp [cmpP]
    | cons b y =>
      unfold cmpP
      split
      · simp; omega
      · split
        · simp; omega
        · rw [ih, List.cons.injEq]
          exact ⟨fun h => ⟨by omega, h⟩, fun h => h.2⟩
theorem cmpP_drop {xs ys : List Int} {k : Nat} (h1 : k < xs.length) (h2 : k < ys.length) : cmpP (xs.drop k) (ys.drop k) = if xs.getD k 0 < ys.getD k 0 then -1 else if ys.getD k 0 < xs.getD k 0 then 1 else cmpP (xs.drop (k + 1)) (ys.drop (k + 1)) := by
  rw [List.drop_eq_getElem_cons h1, List.drop_eq_getElem_cons h2, cmpP]
  simp [List.getD, h1, h2]
theorem cmpP_end {xs ys : List Int} {k : Nat} (h1 : xs.length ≤ k) : cmpP (xs.drop k) (ys.drop k) = if k < ys.length then -1 else 0 := by
  rw [List.drop_of_length_le h1]
  split
  · rename_i h
    rw [List.drop_eq_getElem_cons h]; rfl
  · rw [List.drop_of_length_le (by omega)]; rfl
theorem cmpP_more {xs ys : List Int} {k : Nat} (h1 : k < xs.length) (h2 : ys.length ≤ k) : cmpP (xs.drop k) (ys.drop k) = 1 := by
  rw [List.drop_eq_getElem_cons h1, List.drop_of_length_le h2]; rfl

theorem isNaN_any (x : Int) (w : World) : Calls Try.prog 68 #[.int .i64 x] w fun e w' => e = .returned (.bool false) ∧ w = w' := by
  go_enter Try.func68, Try.ntmps68
  go_wp2_with fail
  go_ret
  exact ⟨by simp, rfl⟩
theorem cmpInt_any (x y : Int) (w : World) : Calls Try.prog 54 #[.int .i64 x, .int .i64 y] w fun e w' => e = .returned (.int .i64 (cmpI x y)) ∧ w = w' := by
  have HC : Hid (cmpI x y = if x < y then -1 else if y < x then 1 else 0) := rfl
  generalize cmpI x y = c at *
  go_enter Try.func54, Try.ntmps54
  go_wp2_with fail
  refine (isNaN_any x w).mono ?_
  rintro e w' ⟨rfl, rfl⟩
  go_wp2_with fail
  refine (isNaN_any y w).mono ?_
  rintro e w' ⟨rfl, rfl⟩
  by_cases h1 : x < y
  · have HX : Hid (c = -1) := by show _ = _; rw [HC.out, if_pos h1]
    go_wp2_with fail
    go_ret
    exact ⟨ret_int (by rw [HX.out]), rfl⟩
  · by_cases h2 : y < x
    · have HX : Hid (c = 1) := by show _ = _; rw [HC.out, if_neg h1, if_pos h2]
      go_wp2_with fail
      go_ret
      exact ⟨ret_int (by rw [HX.out]), rfl⟩
    · have HX : Hid (c = 0) := by show _ = _; rw [HC.out, if_neg h1, if_neg h2]
      go_wp2_with fail
      go_ret
      exact ⟨ret_int (by rw [HX.out]), rfl⟩

set_option maxHeartbeats 1000000 in
theorem cmpInts_any (a b : Option Addr) (c d : Nat) (xs ys : List Int) (w : World) (lo hi lo' hi' : Nat) (hx : IntsIn w lo hi a c xs) (hy : IntsIn w lo' hi' b d ys) (hl : xs.length ≤ 1048576) (hl2 : ys.length ≤ 1048576) :
    Calls Try.prog 67 #[.slice a xs.length c, .slice b ys.length d] w fun e w' => e = .returned (.int .i64 (cmpP xs ys)) ∧ w = w' := by
  go_enter Try.func67, Try.ntmps67
  go_wp2_with fail
  go_loop [11] (fun i => ∃ (k : Nat), k ≤ xs.length ∧ k ≤ ys.length ∧ i = .int .i64 k ∧ cmpP xs ys = cmpP (xs.drop k) (ys.drop k)) (fun i => xs.length - (intOf i).toNat)
  case atStart => exact ⟨0, by omega, by omega, rfl, by simp⟩
  case round =>
    obtain ⟨k, hk, hk2, rfl, he⟩ := hrel
    have HE := Lib.hid he
    clear he
    by_cases hlt : k < xs.length
    · obtain ⟨b1, o1, rfl, _, _, hc1⟩ := hx.at hlt
      by_cases hlt2 : k < ys.length
      · obtain ⟨b2, o2, rfl, _, _, hc2⟩ := hy.at hlt2
        have ht : decide ((ys.length : Int) ≤ (k : Int)) = false := by simp; omega
        have HS := Lib.hid (cmpP_drop hlt hlt2)
        have HI : Hid (cmpI (xs.getD k 0) (ys.getD k 0) = if xs.getD k 0 < ys.getD k 0 then -1 else if ys.getD k 0 < xs.getD k 0 then 1 else 0) := rfl
        generalize xs.getD k 0 = p at *
        generalize ys.getD k 0 = q at *
        go_wp2_with fail
        refine (cmpInt_any p q w).mono ?_
        rintro e w' ⟨rfl, rfl⟩
        by_cases h1 : p < q
        · have HX : Hid (cmpP xs ys = -1) := by show _ = _; rw [HE.out, HS.out, if_pos h1]
          rw [HI.out, if_pos h1]
          go_wp2_with fail
          go_ret
          exact ⟨ret_int (by rw [HX.out]), rfl⟩
        · by_cases h2 : q < p
          · have HX : Hid (cmpP xs ys = 1) := by show _ = _; rw [HE.out, HS.out, if_neg h1, if_pos h2]
            rw [HI.out, if_neg h1, if_pos h2]
            go_wp2_with fail
            go_ret
            exact ⟨ret_int (by rw [HX.out]), rfl⟩
          · have HX : Hid (cmpP xs ys = cmpP (xs.drop (k + 1)) (ys.drop (k + 1))) := by show _ = _; rw [HE.out, HS.out, if_neg h1, if_neg h2]
            rw [HI.out, if_neg h1, if_neg h2]
            go_wp2_with fail
            go_round
            case rel => exact ⟨k + 1, by omega, by omega, by go_num, HX.out⟩
            case measure => simp [intOf]; omega
      · have ht : decide ((ys.length : Int) ≤ (k : Int)) = true := by simp; omega
        have HX : Hid (cmpP xs ys = 1) := by show _ = _; rw [HE.out, cmpP_more hlt (by omega)]
        go_wp2_with fail
        go_ret
        exact ⟨ret_int (by rw [HX.out]), rfl⟩
    · by_cases hlt2 : xs.length < ys.length
      · have HX : Hid (cmpP xs ys = -1) := by show _ = _; rw [HE.out, cmpP_end (by omega), if_pos (by omega)]
        go_wp2_with fail
        go_ret
        exact ⟨ret_int (by rw [HX.out]), rfl⟩
      · have HX : Hid (cmpP xs ys = 0) := by show _ = _; rw [HE.out, cmpP_end (by omega), if_neg (by omega)]
        go_wp2_with fail
        go_ret
        exact ⟨ret_int (by rw [HX.out]), rfl⟩
theorem trailCmp_any (a b : Option Addr) (c d : Nat) (xs ys : List Int) (w : World) (lo hi lo' hi' : Nat) (hx : IntsIn w lo hi a c xs) (hy : IntsIn w lo' hi' b d ys) (hl : xs.length ≤ 1048576) (hl2 : ys.length ≤ 1048576) :
    Calls Try.prog 53 #[.slice a xs.length c, .slice b ys.length d] w fun e w' => e = .returned (.int .i64 (cmpP xs ys)) ∧ w = w' := by
  have C := Lib.hid (cmpInts_any a b c d xs ys w lo hi lo' hi' hx hy hl hl2)
  go_enter Try.func53, Try.ntmps53
  go_wp2_with fail
  refine C.out.mono ?_
  rintro e w' ⟨rfl, rfl⟩
  go_wp2_with fail
  go_ret
  exact ⟨rfl, rfl⟩
set_option maxHeartbeats 1000000 in
theorem eqInts_any (a b : Option Addr) (c d : Nat) (xs ys : List Int) (w : World) (lo hi lo' hi' : Nat) (hx : IntsIn w lo hi a c xs) (hy : IntsIn w lo' hi' b d ys) (hl : xs.length ≤ 1048576) (hl2 : ys.length ≤ 1048576) (hh : hi ≤ w.heap.size) (hh' : hi' ≤ w.heap.size) :
    Calls Try.prog 35 #[.slice a xs.length c, .slice b ys.length d] w fun e w' => e = .returned (.bool (decide (xs = ys))) ∧ Grew w w' := by
  by_cases hne : xs.length = ys.length
  · have heq : ((xs.length : Int) != ys.length) = false := by simp [hne]
    have HL := Lib.hid hne
    have hle : xs.length ≤ ys.length := by omega
    clear hne
    go_enter Try.func35, Try.ntmps35
    go_wp2_with fail
    go_loopw [13] (fun i wr => ∃ (k : Nat), k ≤ xs.length ∧ i = .int .i64 k ∧ Grew w wr ∧ xs.take k = ys.take k) (fun i _ => xs.length - (intOf i).toNat)
    case atStart => exact ⟨0, by omega, rfl, Grew.refl _, by simp⟩
    case round =>
      obtain ⟨k, hk1, rfl, hg, he⟩ := hrel
      have HE := Lib.hid he
      clear he
      by_cases hlt : k < xs.length
      · obtain ⟨b1, o1, rfl, _, _, hc1⟩ := (hx.grew hg hh).at hlt
        obtain ⟨b2, o2, rfl, _, _, hc2⟩ := (hy.grew hg hh').at (j := k) (by omega)
        have hy1 : (k : Int) < (ys.length : Int) := by omega
        by_cases hxy : xs.getD k 0 = ys.getD k 0
        · have ht : (xs.getD k 0 != ys.getD k 0) = false := by rw [hxy]; simp
          have HX : Hid (xs.take (k + 1) = ys.take (k + 1)) := by
            show _ = _
            rw [take_next0 xs k hlt, take_next0 ys k (by omega), HE.out, hxy]
          clear hxy
          generalize xs.getD k 0 = p at *
          generalize ys.getD k 0 = q at *
          go_wp2_with fail
          go_quiet (fail)
          go_wp2_with fail
          go_roundw
          case rel => exact ⟨k + 1, by omega, by go_num, hg.drewN _, HX.out⟩
          case measure => simp [intOf]; omega
        · have ht : (xs.getD k 0 != ys.getD k 0) = true := by simpa using hxy
          have hne := ne_of_getD hxy
          have HN : Hid (decide (xs = ys) = false) := by show _ = _; simp [hne]
          clear hxy hne
          generalize xs.getD k 0 = p at *
          generalize ys.getD k 0 = q at *
          go_wp2_with fail
          go_quiet (fail)
          go_wp2_with fail
          go_ret
          exact ⟨ret_bool (by rw [HN.out]), hg.drewN _⟩
      · have HN : Hid (decide (xs = ys) = true) := by
          show _ = _
          have := HE.out
          rw [List.take_of_length_le (by omega), List.take_of_length_le (by have := HL.out; omega)] at this
          simp [this]
        go_wp2_with fail
        go_ret
        exact ⟨ret_bool (by rw [HN.out]), hg⟩
  · have heq : ((xs.length : Int) != ys.length) = true := by simp; omega
    have HN : Hid (decide (xs = ys) = false) := by
      show _ = _
      simp only [decide_eq_false_iff_not]
      intro e; exact hne (by rw [e])
    clear hne
    go_enter Try.func35, Try.ntmps35
    go_wp2_with fail
    go_ret
    exact ⟨ret_bool (by rw [HN.out]), Grew.refl _⟩
theorem trailSame_any (a b : Option Addr) (c d : Nat) (xs ys : List Int) (w : World) (lo hi lo' hi' : Nat) (hx : IntsIn w lo hi a c xs) (hy : IntsIn w lo' hi' b d ys) (hl : xs.length ≤ 1048576) (hl2 : ys.length ≤ 1048576) (hh : hi ≤ w.heap.size) (hh' : hi' ≤ w.heap.size) :
    Calls Try.prog 20 #[.slice a xs.length c, .slice b ys.length d] w fun e w' => e = .returned (.bool (decide (xs = ys))) ∧ Grew w w' := by
  have C := Lib.hid (eqInts_any a b c d xs ys w lo hi lo' hi' hx hy hl hl2 hh hh')
  go_enter Try.func20, Try.ntmps20
  go_wp2_with fail
  refine C.out.mono ?_
  rintro e w' ⟨rfl, hg⟩
  go_wp2_with fail
  go_ret
  exact ⟨rfl, hg⟩
end Go.Proofs.Ytgnlgfkolbecmaa
