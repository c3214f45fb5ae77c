/- THE LAW redlinelaw01.PropNone: the contract. -/
import Derived.Test.YtjbfimeckplcmaaDoorPropBack
namespace Go.Proofs.YtjbfimeckplcmaaDoor
open Go Go.RowKit

set_option maxHeartbeats 2000000 in
theorem propNone_any (xs ys : List PropL) (aa ba : Option Addr) (ac bc : Nat) (w : World) (ha : PropsIn w 0 w.heap.size aa ac xs) (hb : PropsIn w 0 w.heap.size ba bc ys) (hxa : propsBulk xs ≤ 1048576) (hxb : propsBulk ys ≤ 1048576) :
    Calls Tryd.prog 8 #[.slice aa xs.length ac, .slice ba ys.length bc] w fun e w' => e = .returned (.bool true) ∧ Grew w w' := by
  have la := propsBulk_len xs
  have lb := propsBulk_len ys
  have ag := fun w' (hg : Grew w w') => ((ha.grew hg (Nat.le_refl _)).mono (Nat.le_refl _) hg.size : PropsIn w' 0 w'.heap.size aa ac xs)
  have bg := fun w' (hg : Grew w w') => ((hb.grew hg (Nat.le_refl _)).mono (Nat.le_refl _) hg.size : PropsIn w' 0 w'.heap.size ba bc ys)
  have SH := Lib.hid (fun w' (hg : Grew w w') t => short2_any xs ys aa ba ac bc w' t (ag w' hg) (bg w' hg) hxa hxb)
  have DF := Lib.hid (fun w' (hg : Grew w w') => diff_any xs ys aa ba ac bc w' (ag w' hg) (bg w' hg) hxa hxb)
  have C1 := Lib.hid (fun w' (hg : Grew w w') => check01_any xs aa ac w' _ _ (ag w' hg) (Nat.le_refl _) hxa)
  have SM := Lib.hid (fun w' (hg : Grew w w') => propSame_any aa ba ac bc xs ys w' _ _ _ _ (ag w' hg) (bg w' hg) (by omega) (by omega) (Nat.le_refl _) (Nat.le_refl _))
  have S2 : Hid (∀ w' x c, Grew w w' → PropsIn w' 0 w'.heap.size x c xs → Calls Tryd.prog 15 #[.slice x xs.length c, .slice aa xs.length ac] w' fun e w'' => e = .returned (.bool true) ∧ Grew w' w'') := fun w' x c hg h => by
    have := propSame_any x aa c ac xs xs w' _ _ _ _ h (ag w' hg) (by omega) (by omega) (Nat.le_refl _) (Nat.le_refl _)
    rw [decide_eq_true rfl] at this
    exact this
  unfold DiffEnds at DF
  by_cases h1 : checkPs xs = 0
  · have e1 : patchE xs [] [] = 0 := by rw [patch_nothing]; exact h1
    have P1 := Lib.hid (fun w' (hg : Grew w w') => patch_to e1 (fun R hR => patch_nothing_is h1 hR) aa none none ac 0 0 w' (ag w' hg) propsIn_nil propsIn_nil hxa (by simp [propsBulk]) (by simp [propsBulk]))
    simp only [List.length_nil] at P1
    by_cases hz : firstBad [xs, ys] = 0
    · have hD : diffT xs ys = (withoutP xs ys, withoutP ys xs, 0) := by unfold diffT; rw [hz]; rfl
      rw [hD] at DF
      have s1 : (withoutP xs ys).length ≤ xs.length := List.length_filter_le _ _
      have s2 : (withoutP ys xs).length ≤ ys.length := List.length_filter_le _ _
      have hI : decide (xs = ys) = (((withoutP xs ys).length : Int) + ((withoutP ys xs).length : Int) == 0) := by
        rw [Bool.eq_iff_iff, decide_eq_true_iff, same_iff h1 (firstBad_two.1 hz).2, beq_iff_eq]
        omega
      rw [h1] at C1
      rw [hI] at SM
      clear ag bg hz hD e1 hI h1
      simp only [] at DF
      generalize withoutP xs ys = os at *
      generalize withoutP ys xs = ns at *
      generalize hq : ((os.length : Int) + (ns.length : Int) == 0) = q at *
      cases q
      all_goals
        go_enter Tryd.func8, Tryd.ntmps8
        go_wp2_with fail
        refine (live01_any _).mono ?_
        rintro e w1 ⟨rfl, g1⟩
        go_wp2_with fail
        refine (SH.out w1 g1 _).mono ?_
        rintro e w2 ⟨b, rfl, g2⟩
        have g2' := g1.trans ((Grew.alloc1 _ _).trans g2)
        cases b with
        | false =>
          go_wp2_with fail
          go_ret
          exact ⟨rfl, g2'⟩
        | true =>
          go_wp2_with fail
          refine (DF.out _ g2').mono ?_
          rintro e w3 ⟨pa, pc, qa, qc, rfl, g3, hp, hq⟩
          have g3' := g2'.trans g3
          go_wp2_with fail
          refine (SM.out _ g3').mono ?_
          rintro e w4 ⟨rfl, g4⟩
          have g4' := g3'.trans g4
          go_wp2_with fail
          refine (P1.out _ g4').mono ?_
          rintro e w5 ⟨x, xc, rfl, g5, hx⟩
          have g5' := g4'.trans g5
          go_wp2_with fail
          refine (C1.out _ g5').mono ?_
          rintro e w6 ⟨rfl, g6⟩
          have g6' := g5'.trans g6
          have hx6 := (PropsIn.grew hx g6 (Nat.le_refl _)).mono (Nat.le_refl _) g6.size
          go_wp2_with fail
          refine (S2.out _ _ _ g6' hx6).mono ?_
          rintro e w7 ⟨rfl, g7⟩
          go_wp2_with fail
          go_ret
          exact ⟨rfl, g6'.trans g7⟩
    · have hD : diffT xs ys = ([], [], firstBad [xs, ys]) := by unfold diffT; rw [if_pos hz]
      rw [hD] at DF
      simp only [List.length_nil] at DF
      have t1 : (firstBad [xs, ys] == 0) = false := by simpa using hz
      rw [h1] at C1
      clear ag bg hz hD e1 h1 SM
      generalize firstBad [xs, ys] = v at *
      go_enter Tryd.func8, Tryd.ntmps8
      go_wp2_with fail
      refine (live01_any _).mono ?_
      rintro e w1 ⟨rfl, g1⟩
      go_wp2_with fail
      refine (SH.out w1 g1 _).mono ?_
      rintro e w2 ⟨b, rfl, g2⟩
      have g2' := g1.trans ((Grew.alloc1 _ _).trans g2)
      cases b with
      | false =>
        go_wp2_with fail
        go_ret
        exact ⟨rfl, g2'⟩
      | true =>
        go_wp2_with fail
        refine (DF.out _ g2').mono ?_
        rintro e w3 ⟨pa, pc, qa, qc, rfl, g3, _, _⟩
        have g4' := g2'.trans g3
        go_wp2_with fail
        refine (P1.out _ g4').mono ?_
        rintro e w5 ⟨x, xc, rfl, g5, hx⟩
        have g5' := g4'.trans g5
        go_wp2_with fail
        refine (C1.out _ g5').mono ?_
        rintro e w6 ⟨rfl, g6⟩
        have g6' := g5'.trans g6
        have hx6 := (PropsIn.grew hx g6 (Nat.le_refl _)).mono (Nat.le_refl _) g6.size
        go_wp2_with fail
        refine (S2.out _ _ _ g6' hx6).mono ?_
        rintro e w7 ⟨rfl, g7⟩
        go_wp2_with fail
        go_ret
        exact ⟨rfl, g6'.trans g7⟩
  · have hz : firstBad [xs, ys] ≠ 0 := fun h => h1 (firstBad_two.1 h).1
    have hD : diffT xs ys = ([], [], firstBad [xs, ys]) := by unfold diffT; rw [if_pos hz]
    rw [hD] at DF
    simp only [List.length_nil] at DF
    have e1 : patchE xs [] [] ≠ 0 := by rw [patch_nothing]; exact h1
    have P1 := Lib.hid (fun w' (hg : Grew w w') => patch_no e1 aa none none ac 0 0 w' (ag w' hg) propsIn_nil propsIn_nil hxa (by simp [propsBulk]) (by simp [propsBulk]))
    simp only [List.length_nil, patch_nothing] at P1
    have t1 : (firstBad [xs, ys] == 0) = false := by simpa using hz
    have t2 : (checkPs xs != 0) = true := by simpa using h1
    clear ag bg hz hD e1 h1 SM S2
    generalize firstBad [xs, ys] = v at *
    generalize checkPs xs = c1 at *
    have t3 : (c1 == c1) = true := by simp
    go_enter Tryd.func8, Tryd.ntmps8
    go_wp2_with fail
    refine (live01_any _).mono ?_
    rintro e w1 ⟨rfl, g1⟩
    go_wp2_with fail
    refine (SH.out w1 g1 _).mono ?_
    rintro e w2 ⟨b, rfl, g2⟩
    have g2' := g1.trans ((Grew.alloc1 _ _).trans g2)
    cases b with
    | false =>
      go_wp2_with fail
      go_ret
      exact ⟨rfl, g2'⟩
    | true =>
      go_wp2_with fail
      refine (DF.out _ g2').mono ?_
      rintro e w3 ⟨pa, pc, qa, qc, rfl, g3, _, _⟩
      have g4' := g2'.trans g3
      go_wp2_with fail
      refine (P1.out _ g4').mono ?_
      rintro e w5 ⟨x, xc, rfl, g5⟩
      have g5' := g4'.trans g5
      go_wp2_with fail
      refine (C1.out _ g5').mono ?_
      rintro e w6 ⟨rfl, g6⟩
      go_wp2_with fail
      go_ret
      exact ⟨rfl, g5'.trans g6⟩
end Go.Proofs.YtjbfimeckplcmaaDoor
