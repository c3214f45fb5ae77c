/- trail.Above, alike, Left; redlineref02.Compare, Above: the contracts. -/
import Derived.Test.YtgnlgfkolbecmaaTrail
import Derived.IntWalk
namespace Go.Proofs.Ytgnlgfkolbecmaa
open Go Go.RowKit

/-- how many numbers both begin with -/
def alikeN : List Int → List Int → Nat
  | a :: x, b :: y => if a = b then alikeN x y + 1 else 0
  | _, _ => 0
theorem alikeN_eq {xs ys : List Int} {k : Nat} (h1 : k ≤ xs.length) (h2 : k ≤ ys.length) (he : xs.take k = ys.take k) (hd : k = xs.length ∨ k = ys.length ∨ xs.getD k 0 ≠ ys.getD k 0) : alikeN xs ys = k := by
  induction k generalizing xs ys with
  | zero =>
    cases xs with
    | nil => rfl
    | cons a x =>
      cases ys with
      | nil => rfl
      | cons b y =>
        rcases hd with h | h | h
        · simp at h
        · simp at h
        · unfold alikeN
          rw [if_neg (by simpa [List.getD] using h)]
  | succ k ih =>
    cases xs with
    | nil => simp at h1
    | cons a x =>
      cases ys with
      | nil => simp at h2
      | cons b y =>
        simp only [List.take_succ_cons, List.cons.injEq] at he
        unfold alikeN
        rw [if_pos he.1, ih (by simpa using h1) (by simpa using h2) he.2 (by simpa [List.getD] using hd)]
theorem alikeN_le (xs ys : List Int) : alikeN xs ys ≤ xs.length ∧ alikeN xs ys ≤ ys.length := by
  induction xs generalizing ys with
  | nil => simp [alikeN]
  | cons a x ih =>
    cases ys with
    | nil => simp [alikeN]
    | cons b y =>
      unfold alikeN
      have := ih y
      split <;> simp <;> omega
theorem alikeN_take (xs ys : List Int) : xs.take (alikeN xs ys) = ys.take (alikeN xs ys) := by
  induction xs generalizing ys with
  | nil => simp [alikeN]
  | cons a x ih =>
    cases ys with
    | nil => simp [alikeN]
    | cons b y =>
      unfold alikeN
      split
      · rename_i h
        simp [h, ih y]
      · simp
/-- whether one is above the other one -/
def aboveP (a b : List Int) : Bool := decide (a.length < b.length) && decide (a = b.take a.length)
theorem aboveP_alike (a b : List Int) : aboveP a b = (decide (a.length < b.length) && decide (alikeN a b = a.length)) := by
  unfold aboveP
  by_cases h : a.length < b.length
  · simp only [h, decide_true, Bool.true_and]
    rw [Bool.eq_iff_iff, decide_eq_true_iff, decide_eq_true_iff]
    constructor
    · intro e
      exact alikeN_eq (Nat.le_refl _) (by omega) (by rw [List.take_length]; exact e) (Or.inl rfl)
    · intro e
      have := alikeN_take a b
      rw [e, List.take_length] at this
      exact this
  · simp [h]
/-- whether one is left of the other one -/
def leftOfP (a b : List Int) : Bool := decide (0 < a.length ∧ a.length ≤ b.length) && (decide (a.take (a.length - 1) = b.take (a.length - 1)) && decide (a.getD (a.length - 1) 0 < b.getD (a.length - 1) 0))

set_option maxHeartbeats 1000000 in
theorem alike_any (a b : Option Addr) (c d : Nat) (xs ys : List Int) (w : World) (lo hi lo' hi' : Nat) (hx : IntsIn w lo hi a c xs) (hy : IntsIn w lo' hi' b d ys) (hl : xs.length ≤ 1048576) (hl2 : ys.length ≤ 1048576) (hh : hi ≤ w.heap.size) (hh' : hi' ≤ w.heap.size) :
    Calls Try.prog 80 #[.slice a xs.length c, .slice b ys.length d] w fun e w' => e = .returned (.int .i64 (alikeN xs ys : Nat)) ∧ Grew w w' := by
  go_enter Try.func80, Try.ntmps80
  by_cases hle : xs.length ≤ ys.length
  · have hle1 : (xs.length : Int) ≤ ys.length := by omega
    go_wp2_with fail
    go_loopw [11] (fun i wr => ∃ (k : Nat), k ≤ xs.length ∧ i = .int .i64 k ∧ Grew w wr ∧ xs.take k = ys.take k) (fun i _ => xs.length - (intOf i).toNat)
    case atStart => exact ⟨0, by omega, rfl, Grew.refl _, by simp⟩
    case round =>
      obtain ⟨k, hk1, rfl, hg, he⟩ := hrel
      have HE := Lib.hid he
      clear he
      by_cases hlt : k < xs.length
      · obtain ⟨b1, o1, rfl, _, _, hc1⟩ := (hx.grew hg hh).at (j := k) (by omega)
        obtain ⟨b2, o2, rfl, _, _, hc2⟩ := (hy.grew hg hh').at (j := k) (by omega)
        have hx1 : (k : Int) < (xs.length : Int) := by omega
        have hy1 : (k : Int) < (ys.length : Int) := by omega
        by_cases hxy : xs.getD k 0 = ys.getD k 0
        · have ht : (xs.getD k 0 != ys.getD k 0) = false := by rw [hxy]; simp
          have HX : Hid (xs.take (k + 1) = ys.take (k + 1)) := by
            show _ = _
            rw [take_next0 xs k (by omega), take_next0 ys k (by omega), HE.out, hxy]
          clear hxy
          generalize xs.getD k 0 = p at *
          generalize ys.getD k 0 = q at *
          go_wp2_with fail
          go_quiet (fail)
          go_wp2_with fail
          go_roundw
          case rel => exact ⟨k + 1, by omega, by go_num, hg.drewN _, HX.out⟩
          case measure => simp [intOf]; omega
        · have ht : (xs.getD k 0 != ys.getD k 0) = true := by simpa using hxy
          have HN : Hid (alikeN xs ys = k) := alikeN_eq (by omega) (by omega) HE.out (Or.inr (Or.inr hxy))
          clear hxy
          generalize xs.getD k 0 = p at *
          generalize ys.getD k 0 = q at *
          go_wp2_with fail
          go_quiet (fail)
          go_wp2_with fail
          go_ret
          exact ⟨ret_int (by rw [HN.out]), hg.drewN _⟩
      · obtain rfl : k = xs.length := by omega
        have HN : Hid (alikeN xs ys = xs.length) := alikeN_eq (by omega) (by omega) HE.out (Or.inl rfl)
        go_wp2_with fail
        go_ret
        exact ⟨ret_int (by rw [HN.out]), hg⟩
  · have hle1 : (ys.length : Int) ≤ xs.length := by omega
    go_wp2_with fail
    go_loopw [11] (fun i wr => ∃ (k : Nat), k ≤ ys.length ∧ i = .int .i64 k ∧ Grew w wr ∧ xs.take k = ys.take k) (fun i _ => ys.length - (intOf i).toNat)
    case atStart => exact ⟨0, by omega, rfl, Grew.refl _, by simp⟩
    case round =>
      obtain ⟨k, hk1, rfl, hg, he⟩ := hrel
      have HE := Lib.hid he
      clear he
      by_cases hlt : k < ys.length
      · obtain ⟨b1, o1, rfl, _, _, hc1⟩ := (hx.grew hg hh).at (j := k) (by omega)
        obtain ⟨b2, o2, rfl, _, _, hc2⟩ := (hy.grew hg hh').at (j := k) (by omega)
        have hx1 : (k : Int) < (xs.length : Int) := by omega
        have hy1 : (k : Int) < (ys.length : Int) := by omega
        by_cases hxy : xs.getD k 0 = ys.getD k 0
        · have ht : (xs.getD k 0 != ys.getD k 0) = false := by rw [hxy]; simp
          have HX : Hid (xs.take (k + 1) = ys.take (k + 1)) := by
            show _ = _
            rw [take_next0 xs k (by omega), take_next0 ys k (by omega), HE.out, hxy]
          clear hxy
          generalize xs.getD k 0 = p at *
          generalize ys.getD k 0 = q at *
          go_wp2_with fail
          go_quiet (fail)
          go_wp2_with fail
          go_roundw
          case rel => exact ⟨k + 1, by omega, by go_num, hg.drewN _, HX.out⟩
          case measure => simp [intOf]; omega
        · have ht : (xs.getD k 0 != ys.getD k 0) = true := by simpa using hxy
          have HN : Hid (alikeN xs ys = k) := alikeN_eq (by omega) (by omega) HE.out (Or.inr (Or.inr hxy))
          clear hxy
          generalize xs.getD k 0 = p at *
          generalize ys.getD k 0 = q at *
          go_wp2_with fail
          go_quiet (fail)
          go_wp2_with fail
          go_ret
          exact ⟨ret_int (by rw [HN.out]), hg.drewN _⟩
      · obtain rfl : k = ys.length := by omega
        have HN : Hid (alikeN xs ys = ys.length) := alikeN_eq (by omega) (by omega) HE.out (Or.inr (Or.inl rfl))
        go_wp2_with fail
        go_ret
        exact ⟨ret_int (by rw [HN.out]), hg⟩

set_option maxHeartbeats 1000000 in
theorem above_any (a b : Option Addr) (c d : Nat) (xs ys : List Int) (w : World) (lo hi lo' hi' : Nat) (hx : IntsIn w lo hi a c xs) (hy : IntsIn w lo' hi' b d ys) (hl : xs.length ≤ 1048576) (hl2 : ys.length ≤ 1048576) (hh : hi ≤ w.heap.size) (hh' : hi' ≤ w.heap.size) :
    Calls Try.prog 74 #[.slice a xs.length c, .slice b ys.length d] w fun e w' => e = .returned (.bool (aboveP xs ys)) ∧ Grew w w' := by
  have C := Lib.hid (alike_any a b c d xs ys w lo hi lo' hi' hx hy hl hl2 hh hh')
  have HA := Lib.hid (aboveP_alike xs ys)
  have hle := (alikeN_le xs ys).1
  generalize alikeN xs ys = k at *
  by_cases h : xs.length < ys.length
  · have ht : decide (xs.length < ys.length) = true := by simpa using h
    have HN : Hid (aboveP xs ys = decide (k = xs.length)) := by show _ = _; rw [HA.out]; simp [h]
    clear h
    go_enter Try.func74, Try.ntmps74
    go_wp2_with fail
    refine C.out.mono ?_
    rintro e w' ⟨rfl, hg⟩
    by_cases h2 : k = xs.length
    · have ht2 : ((k : Int) == xs.length) = true := by simp [h2]
      have HN2 : Hid (aboveP xs ys = true) := by show _ = _; rw [HN.out]; simp [h2]
      clear h2
      go_wp2_with fail
      go_ret
      exact ⟨ret_bool (by rw [HN2.out]), hg⟩
    · have ht2 : ((k : Int) == xs.length) = false := by simp; omega
      have HN2 : Hid (aboveP xs ys = false) := by show _ = _; rw [HN.out]; simp [h2]
      clear h2
      go_wp2_with fail
      go_ret
      exact ⟨ret_bool (by rw [HN2.out]), hg⟩
  · have ht : decide (xs.length < ys.length) = false := by simp; omega
    have HN : Hid (aboveP xs ys = false) := by show _ = _; rw [HA.out]; simp [h]
    clear h
    go_enter Try.func74, Try.ntmps74
    go_wp2_with fail
    go_ret
    exact ⟨ret_bool (by rw [HN.out]), Grew.refl _⟩
theorem IntsIn.take {w : World} {lo hi : Nat} {a : Option Addr} {c : Nat} {ts : List Int} (h : IntsIn w lo hi a c ts) {k : Nat} (hk : k ≤ ts.length) : IntsIn w lo hi a c (ts.take k) := by
  have hl : (ts.take k).length = k := List.length_take_of_le hk
  have h2 := h.1.2.1
  refine ⟨⟨fun e => ?_, ?_, h.1.2.2⟩, fun hn => ?_⟩
  · have := h.1.1 e
    omega
  · omega
  · obtain ⟨b, o, e, h1, h2, hc⟩ := h.2 (by omega)
    refine ⟨b, o, e, h1, h2, fun i hi j hj => ?_⟩
    have := hc i (by omega) j hj
    rw [this]
    simp [List.getD, show i < k by omega]
end Go.Proofs.Ytgnlgfkolbecmaa
