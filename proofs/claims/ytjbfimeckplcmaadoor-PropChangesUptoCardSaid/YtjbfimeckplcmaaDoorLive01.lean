/- prop.Diff; redlinelaw01.short, live: the contracts. -/
import Derived.Test.YtjbfimeckplcmaaDoorDiff
import Derived.OwnWalk
namespace Go.Proofs.YtjbfimeckplcmaaDoor
open Go Go.RowKit

/-- prop.Diff -/
def diffT (xs ys : List PropL) : List PropL × List PropL × Int := if firstBad [xs, ys] ≠ 0 then ([], [], firstBad [xs, ys]) else (withoutP xs ys, withoutP ys xs, 0)
/-- how prop.Diff ends -/
def DiffEnds (xs ys : List PropL) (w : World) (e : Ending) (w' : World) : Prop :=
  ∃ pa pc qa qc, e = .returned (.tuple #[.slice pa (diffT xs ys).1.length pc, .slice qa (diffT xs ys).2.1.length qc, .int .i64 (diffT xs ys).2.2]) ∧ Grew w w' ∧ PropsIn w' 0 w'.heap.size pa pc (diffT xs ys).1 ∧ PropsIn w' 0 w'.heap.size qa qc (diffT xs ys).2.1
/-- a pair of lists, laid side by side -/
theorem pp_two (w : World) (x y : PP) (t : TypeId) (hx : PropsIn w 0 w.heap.size x.a x.c x.ps) (hy : PropsIn w 0 w.heap.size y.a y.c y.ps) : PPIn (w.alloc (.cells #[x.val, y.val] t)) (some ⟨w.heap.size, 0, none⟩) 2 [x, y] := by
  have hg := Grew.alloc1 w (.cells #[x.val, y.val] t)
  refine ⟨⟨⟨by simp, by simp, by unfold maxLen; omega⟩, fun _ => ⟨w.heap.size, 0, rfl, Nat.zero_le _, by simp, fun i hi j hj => ?_⟩⟩, fun p hp => ?_⟩
  · obtain rfl : j = 0 := by omega
    match i, hi with
    | 0, _ => exact World.cell?_alloc_new _ _ _ _
    | 1, _ => exact World.cell?_alloc_new _ _ _ _
  · rcases List.mem_cons.1 hp with rfl | hp
    · exact (hx.grew hg (Nat.le_refl _)).mono (Nat.le_refl _) hg.size
    · obtain rfl : p = y := by simpa using hp
      exact (hy.grew hg (Nat.le_refl _)).mono (Nat.le_refl _) hg.size

set_option maxHeartbeats 1000000 in
theorem diff_any (xs ys : List PropL) (aa ba : Option Addr) (ac bc : Nat) (w : World) (ha : PropsIn w 0 w.heap.size aa ac xs) (hb : PropsIn w 0 w.heap.size ba bc ys) (hxa : propsBulk xs ≤ 1048576) (hxb : propsBulk ys ≤ 1048576) :
    Calls Tryd.prog 19 #[.slice aa xs.length ac, .slice ba ys.length bc] w (DiffEnds xs ys w) := by
  have la := propsBulk_len xs
  have lb := propsBulk_len ys
  have ag := fun w' (hg : Grew w w') => ((ha.grew hg (Nat.le_refl _)).mono (Nat.le_refl _) hg.size : PropsIn w' 0 w'.heap.size aa ac xs)
  have bg := fun w' (hg : Grew w w') => ((hb.grew hg (Nat.le_refl _)).mono (Nat.le_refl _) hg.size : PropsIn w' 0 w'.heap.size ba bc ys)
  have CA := Lib.hid (fun w' (hg : Grew w w') t => checkAll_any [⟨aa, ac, xs⟩, ⟨ba, bc, ys⟩] (some ⟨w'.heap.size, 0, none⟩) 2 _ (pp_two w' ⟨aa, ac, xs⟩ ⟨ba, bc, ys⟩ t (ag w' hg) (bg w' hg)) (by
    intro p hp
    rcases List.mem_cons.1 hp with rfl | hp
    · exact hxa
    · obtain rfl : p = ⟨ba, bc, ys⟩ := by simpa using hp
      exact hxb) (by simp))
  have W1 := Lib.hid (fun w' (hg : Grew w w') => without_any xs ys aa ba ac bc w' (ag w' hg) (bg w' hg) (by omega) (by omega))
  have W2 := Lib.hid (fun w' (hg : Grew w w') => without_any ys xs ba aa bc ac w' (bg w' hg) (ag w' hg) (by omega) (by omega))
  simp only [PP.val, List.map_cons, List.map_nil, List.length_cons, List.length_nil] at CA
  clear ag bg
  have l1 : (withoutP xs ys).length ≤ 1048576 := by have := withoutP_len xs ys; omega
  have l2 : (withoutP ys xs).length ≤ 1048576 := by have := withoutP_len ys xs; omega
  by_cases hz : firstBad [xs, ys] = 0
  · have HD : Hid (diffT xs ys = (withoutP xs ys, withoutP ys xs, 0)) := by show _ = _; unfold diffT; rw [hz]; rfl
    rw [hz] at CA
    clear hz
    go_enter Tryd.func19, Tryd.ntmps19
    go_wp2_with fail
    refine (CA.out w (Grew.refl _) _).mono ?_
    rintro e w1 ⟨rfl, g1⟩
    have g1' := (Grew.alloc1 _ _).trans g1
    go_wp2_with fail
    refine (W1.out _ g1').mono ?_
    rintro e w2 ⟨pa, pc, rfl, g2, hp⟩
    have g2' := g1'.trans g2
    go_wp2_with fail
    refine (W2.out _ g2').mono ?_
    rintro e w3 ⟨qa, qc, rfl, g3, hq⟩
    go_wp2_with fail
    go_ret3
    unfold DiffEnds
    rw [HD.out]
    exact ⟨pa, pc, qa, qc, rfl, g2'.trans g3, (hp.grew g3 (Nat.le_refl _)).mono (Nat.zero_le _) g3.size, hq.mono (Nat.zero_le _) (Nat.le_refl _)⟩
  · have HD : Hid (diffT xs ys = ([], [], firstBad [xs, ys])) := by show _ = _; unfold diffT; rw [if_pos hz]
    have hne : (firstBad [xs, ys] != 0) = true := by simpa using hz
    generalize firstBad [xs, ys] = v at *
    clear W1 W2
    go_enter Tryd.func19, Tryd.ntmps19
    go_wp2_with fail
    refine (CA.out w (Grew.refl _) _).mono ?_
    rintro e w1 ⟨rfl, g1⟩
    have g1' := (Grew.alloc1 _ _).trans g1
    go_wp2_with fail
    go_ret3
    unfold DiffEnds
    rw [HD.out]
    exact ⟨none, 0, none, 0, rfl, g1', propsIn_nil, propsIn_nil⟩

/-- some bool -/
def SomeBool (w : World) (e : Ending) (w' : World) : Prop := ∃ b, e = .returned (.bool b) ∧ Grew w w'

set_option maxHeartbeats 1000000 in
theorem short_any (l : List PP) (a : Option Addr) (c : Nat) (w : World) (h : PPIn w a c l) (hb : ∀ p ∈ l, propsBulk p.ps ≤ 1048576) (hl : l.length ≤ 1048576) :
    Calls Tryd.prog 10 #[.slice a l.length c] w (SomeBool w) := by
  go_enter Tryd.func10, Tryd.ntmps10
  go_wp2_with fail
  go_loopw [9] (fun i wr => ∃ (k : Nat), k ≤ l.length ∧ i = .int .i64 k ∧ Grew w wr) (fun i _ => l.length - (intOf i).toNat)
  case atStart => exact ⟨0, by omega, rfl, Grew.refl _⟩
  case round =>
    obtain ⟨k, hk, rfl, hg⟩ := hrel
    by_cases hlt : k < l.length
    · have hx := h.grew hg
      obtain ⟨b, o, rfl, c0⟩ := hx.at hlt
      have hm := getD_mem l k hlt
      have hp := hx.2 _ hm
      have hbp := hb _ hm
      have hpl := propsBulk_len (l.getD k default).ps
      clear hx hm
      unfold PP.val at c0
      generalize l.getD k default = x at *
      obtain ⟨xa, xc, ps⟩ := x
      simp only at c0 hp hbp hpl
      by_cases h60 : 60 < ps.length
      · go_wp2_with fail
        go_ret
        exact ⟨_, rfl, hg⟩
      · obtain ⟨w0, hw0⟩ : ∃ w0, w0 = wr := ⟨_, rfl⟩
        have hg0 : Grew w w0 := by rw [hw0]; exact hg
        have hp0 : PropsIn w0 0 w0.heap.size xa xc ps := by rw [hw0]; exact hp
        have hs := Lib.hid (fun j hj => props_str (k := j) hbp hj)
        go_wp2_with fail
        go_loopw [18] (fun i wr => ∃ (m : Nat), m ≤ ps.length ∧ i = .int .i64 m ∧ Grew w0 wr) (fun i _ => ps.length - (intOf i).toNat)
        case atStart => exact ⟨0, by omega, rfl, by rw [hw0]; exact Grew.refl _⟩
        case round =>
          obtain ⟨m, hm, rfl, hg1⟩ := hrel
          by_cases hlt2 : m < ps.length
          · obtain ⟨b1, o1, rfl, _, _, d0, d1⟩ := (hp0.grew hg1 (Nat.le_refl _)).at hlt2
            have hs1 := hs.out m hlt2
            generalize ps.getD m default = p at *
            by_cases hK : 100 < p.1.size
            · go_wp2_with fail
              go_ret
              exact ⟨_, rfl, hg0.trans (hg1.trans (Grew.alloc1 _ _))⟩
            · by_cases hV : 100 < p.2.size
              · go_wp2_with fail
                go_ret
                exact ⟨_, rfl, hg0.trans (hg1.trans (Grew.alloc1 _ _))⟩
              · go_wp2_with fail
                go_roundw
                case rel => exact ⟨m + 1, by omega, by go_num, hg1.trans (Grew.alloc1 _ _)⟩
                case measure => simp [intOf]; omega
          · obtain rfl : m = ps.length := by omega
            go_wp2_with fail
            go_roundw
            case rel => exact ⟨k + 1, by omega, by go_num, hg0.trans hg1⟩
            case measure => simp [intOf]; omega
    · have hge : l.length ≤ k := by omega
      go_wp2_with fail
      go_ret
      exact ⟨_, rfl, hg⟩

theorem leS_data (a b : ByteArray) : leS a b = (Op.bytesLess a.data.toList b.data.toList || a.data.toList == b.data.toList) := by
  unfold leS
  rw [ByteArray.toList_eq, ByteArray.toList_eq]
def lsA : List PropL := [({ data := #[97] }, { data := #[49] }), ({ data := #[98] }, { data := #[50] })]
def lsB : List PropL := [({ data := #[98] }, { data := #[51] }), ({ data := #[99] }, { data := #[52] })]
theorem live_diff : diffT lsA lsB = (lsA, lsB, 0) := by
  have hA : checkPs lsA = 0 := by
    simp only [checkPs, lsA, chkPs, leS_data]
    decide
  have hB : checkPs lsB = 0 := by
    simp only [checkPs, lsB, chkPs, leS_data]
    decide
  have hf : firstBad [lsA, lsB] = 0 := by simp [firstBad, hA, hB]
  unfold diffT
  rw [hf]
  decide

theorem props_two (w : World) (p q : PropL) (t : TypeId) : PropsIn (w.alloc (.cells #[.string p.1, .string p.2, .string q.1, .string q.2] t)) w.heap.size (w.heap.size + 1) (some ⟨w.heap.size, 0, none⟩) 2 [p, q] := by
  refine ⟨⟨by simp, by simp, by unfold maxLen; omega⟩, fun _ => ⟨w.heap.size, 0, rfl, Nat.le_refl _, by omega, fun i hi j hj => ?_⟩⟩
  match i, hi, j, hj with
  | 0, _, 0, _ => exact World.cell?_alloc_new _ _ _ _
  | 0, _, 1, _ => exact World.cell?_alloc_new _ _ _ _
  | 1, _, 0, _ => exact World.cell?_alloc_new _ _ _ _
  | 1, _, 1, _ => exact World.cell?_alloc_new _ _ _ _

set_option maxHeartbeats 1000000 in
theorem live01_any (w : World) : Calls Tryd.prog 9 #[] w fun e w' => e = .returned (.bool true) ∧ Grew w w' := by
  have CD := Lib.hid (fun aa ba w' ha hb => diff_any lsA lsB aa ba 2 2 w' ha hb (by decide) (by decide))
  unfold DiffEnds at CD
  rw [live_diff] at CD
  simp only [show lsA.length = 2 from rfl, show lsB.length = 2 from rfl] at CD
  have CS : Hid (∀ (ps : List PropL), ps.length = 2 → ∀ aa ba ac bc w', PropsIn w' 0 w'.heap.size aa ac ps → PropsIn w' 0 w'.heap.size ba bc ps → Calls Tryd.prog 16 #[.slice aa 2 ac, .slice ba 2 bc] w' fun e w'' => e = .returned (.bool true) ∧ Grew w' w'') := by
    intro ps h2 aa ba ac bc w' ha hb
    have := refSame01_any aa ba ac bc ps ps w' 0 w'.heap.size 0 w'.heap.size ha hb (by omega) (by omega) (Nat.le_refl _) (Nat.le_refl _)
    rw [h2, decide_eq_true rfl] at this
    exact this
  go_enter Tryd.func9, Tryd.ntmps9
  go_wp2_with fail
  have g1 := Grew.alloc1 w (.cells #[.string { data := #[97] }, .string { data := #[49] }, .string { data := #[98] }, .string { data := #[50] }] 36)
  have p1 : PropsIn _ _ _ _ 2 lsA := props_two w ({ data := #[97] }, { data := #[49] }) ({ data := #[98] }, { data := #[50] }) 36
  have s1 : (w.alloc (.cells #[.string { data := #[97] }, .string { data := #[49] }, .string { data := #[98] }, .string { data := #[50] }] 36)).heap.size = w.heap.size + 1 := by simp
  simp only at p1
  generalize hw1 : w.alloc (.cells #[.string { data := #[97] }, .string { data := #[49] }, .string { data := #[98] }, .string { data := #[50] }] 36) = w1 at *
  have g2 := Grew.alloc1 w1 (.cells #[.string { data := #[98] }, .string { data := #[51] }, .string { data := #[99] }, .string { data := #[52] }] 36)
  have p2 : PropsIn _ _ _ _ 2 lsB := props_two w1 ({ data := #[98] }, { data := #[51] }) ({ data := #[99] }, { data := #[52] }) 36
  simp only at p2
  have s2 : (w1.alloc (.cells #[.string { data := #[98] }, .string { data := #[51] }, .string { data := #[99] }, .string { data := #[52] }] 36)).heap.size = w1.heap.size + 1 := by simp
  rw [s1] at p2
  generalize w1.alloc (.cells #[.string { data := #[98] }, .string { data := #[51] }, .string { data := #[99] }, .string { data := #[52] }] 36) = w2 at *
  clear hw1
  have q1 := ((p1.grew g2 (by omega)).mono (Nat.zero_le _) (show w.heap.size + 1 ≤ w2.heap.size by omega))
  have q2 := (p2.mono (Nat.zero_le _) (show w.heap.size + 1 + 1 ≤ w2.heap.size by omega))
  have G2 := g1.trans g2
  clear p1 p2 s1 s2
  refine (CD.out _ _ w2 q1 q2).mono ?_
  rintro e w3 ⟨pa, pc, qa, qc, rfl, g3, hp, hq⟩
  have r1 := (q1.grew g3 (Nat.le_refl _)).mono (Nat.le_refl _) g3.size
  have r2 := (q2.grew g3 (Nat.le_refl _)).mono (Nat.le_refl _) g3.size
  clear CD q1 q2
  go_wp2_with fail
  refine (CS.out lsA rfl _ _ _ _ w3 hp r1).mono ?_
  rintro e w4 ⟨rfl, g4⟩
  have hq := (hq.grew g4 (Nat.le_refl _)).mono (Nat.le_refl _) g4.size
  have r2 := (r2.grew g4 (Nat.le_refl _)).mono (Nat.le_refl _) g4.size
  go_wp2_with fail
  refine (CS.out lsB rfl _ _ _ _ w4 hq r2).mono ?_
  rintro e w5 ⟨rfl, g5⟩
  go_wp2_with fail
  go_ret
  exact ⟨rfl, G2.trans (g3.trans (g4.trans g5))⟩
end Go.Proofs.YtjbfimeckplcmaaDoor
