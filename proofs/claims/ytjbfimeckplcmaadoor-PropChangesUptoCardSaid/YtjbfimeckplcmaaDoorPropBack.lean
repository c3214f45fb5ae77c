/- THE LAW redlinelaw01.PropBack: the contract. -/
import Derived.Test.YtjbfimeckplcmaaDoorPropTells
import Derived.Test.YtjbfimeckplcmaaDoorPatchLaw
namespace Go.Proofs.YtjbfimeckplcmaaDoor
open Go Go.RowKit

theorem propsBulk_sub {a b : List PropL} (h : a.Sublist b) : propsBulk a ≤ propsBulk b := by
  induction h with
  | slnil => exact Nat.le_refl _
  | cons x _ ih => simp only [propsBulk]; omega
  | cons_cons x _ ih => simp only [propsBulk]; omega

/-- a patch that can be done, of which is known what comes -/
theorem patch_to {l old new m : List PropL} (h : patchE l old new = 0) (hm : ∀ R, IsSort R (minusK l old ++ new) → R = m) (la oa na : Option Addr) (lc oc nc : Nat) (w : World) (hl : PropsIn w 0 w.heap.size la lc l) (ho : PropsIn w 0 w.heap.size oa oc old) (hn : PropsIn w 0 w.heap.size na nc new) (hlb : propsBulk l ≤ 1048576) (hob : propsBulk old ≤ 1048576) (hnb : propsBulk new ≤ 1048576) :
    Calls Tryd.prog 17 #[.slice la l.length lc, .slice oa old.length oc, .slice na new.length nc] w fun e w' => ∃ x c, e = .returned (.tuple #[.slice x m.length c, .int .i64 0]) ∧ Grew w w' ∧ PropsIn w' 0 w'.heap.size x c m :=
  (patch_any l old new la oa na lc oc nc w hl ho hn hlb hob hnb).mono fun e w' ⟨x, c, R, he, hg, hrow, hx⟩ => by
    rcases hx.out with ⟨h1, _⟩ | ⟨_, h2⟩
    · exact absurd h h1
    · obtain rfl := hm R h2
      rw [h] at he
      exact ⟨x, c, he, hg, hrow.1.mono (Nat.zero_le _) (Nat.le_refl _)⟩
/-- a patch that can not be done -/
theorem patch_no {l old new : List PropL} (h : patchE l old new ≠ 0) (la oa na : Option Addr) (lc oc nc : Nat) (w : World) (hl : PropsIn w 0 w.heap.size la lc l) (ho : PropsIn w 0 w.heap.size oa oc old) (hn : PropsIn w 0 w.heap.size na nc new) (hlb : propsBulk l ≤ 1048576) (hob : propsBulk old ≤ 1048576) (hnb : propsBulk new ≤ 1048576) :
    Calls Tryd.prog 17 #[.slice la l.length lc, .slice oa old.length oc, .slice na new.length nc] w fun e w' => ∃ x c, e = .returned (.tuple #[.slice x 0 c, .int .i64 (patchE l old new)]) ∧ Grew w w' :=
  (patch_any l old new la oa na lc oc nc w hl ho hn hlb hob hnb).mono fun e w' ⟨x, c, R, he, hg, hrow, hx⟩ => by
    rcases hx.out with ⟨_, h1⟩ | ⟨h2, _⟩
    · subst h1
      exact ⟨x, c, he, hg⟩
    · exact absurd h2 h

set_option maxHeartbeats 2000000 in
theorem propBack_any (xs ys : List PropL) (aa ba : Option Addr) (ac bc : Nat) (w : World) (ha : PropsIn w 0 w.heap.size aa ac xs) (hb : PropsIn w 0 w.heap.size ba bc ys) (hxa : propsBulk xs ≤ 1048576) (hxb : propsBulk ys ≤ 1048576) :
    Calls Tryd.prog 6 #[.slice aa xs.length ac, .slice ba ys.length bc] w fun e w' => e = .returned (.bool true) ∧ Grew w w' := by
  have la := propsBulk_len xs
  have lb := propsBulk_len ys
  have ag := fun w' (hg : Grew w w') => ((ha.grew hg (Nat.le_refl _)).mono (Nat.le_refl _) hg.size : PropsIn w' 0 w'.heap.size aa ac xs)
  have bg := fun w' (hg : Grew w w') => ((hb.grew hg (Nat.le_refl _)).mono (Nat.le_refl _) hg.size : PropsIn w' 0 w'.heap.size ba bc ys)
  have SH := Lib.hid (fun w' (hg : Grew w w') t => short2_any xs ys aa ba ac bc w' t (ag w' hg) (bg w' hg) hxa hxb)
  have DF := Lib.hid (fun w' (hg : Grew w w') => diff_any xs ys aa ba ac bc w' (ag w' hg) (bg w' hg) hxa hxb)
  have C1 := Lib.hid (fun w' (hg : Grew w w') => check01_any xs aa ac w' _ _ (ag w' hg) (Nat.le_refl _) hxa)
  have C2 := Lib.hid (fun w' (hg : Grew w w') => check01_any ys ba bc w' _ _ (bg w' hg) (Nat.le_refl _) hxb)
  unfold DiffEnds at DF
  by_cases hz : firstBad [xs, ys] = 0
  · obtain ⟨hx0, hy0⟩ := firstBad_two.1 hz
    have hD : diffT xs ys = (withoutP xs ys, withoutP ys xs, 0) := by unfold diffT; rw [hz]; rfl
    rw [hD] at DF
    have s1 : (withoutP xs ys).Sublist xs := List.filter_sublist
    have s2 : (withoutP ys xs).Sublist ys := List.filter_sublist
    have b1 := propsBulk_sub s1
    have b2 := propsBulk_sub s2
    obtain ⟨e1, m1⟩ := patch_diff hx0 hy0
    obtain ⟨e2, m2⟩ := patch_diff hy0 hx0
    have P1 := Lib.hid (fun w' (hg : Grew w w') pa pc qa qc h1 h2 => patch_to e1 m1 aa pa qa ac pc qc w' (ag w' hg) h1 h2 hxa (by omega) (by omega))
    have P2 := Lib.hid (fun w' (hg : Grew w w') pa pc qa qc h1 h2 => patch_to e2 m2 ba pa qa bc pc qc w' (bg w' hg) h1 h2 hxb (by omega) (by omega))
    have S1 : Hid (∀ w' x c, Grew w w' → PropsIn w' 0 w'.heap.size x c ys → Calls Tryd.prog 15 #[.slice x ys.length c, .slice ba ys.length bc] w' fun e w'' => e = .returned (.bool true) ∧ Grew w' w'') := fun w' x c hg h => by
      have := propSame_any x ba c bc ys ys w' _ _ _ _ h (bg w' hg) (by omega) (by omega) (Nat.le_refl _) (Nat.le_refl _)
      rw [decide_eq_true rfl] at this
      exact this
    have S2 : Hid (∀ w' x c, Grew w w' → PropsIn w' 0 w'.heap.size x c xs → Calls Tryd.prog 15 #[.slice x xs.length c, .slice aa xs.length ac] w' fun e w'' => e = .returned (.bool true) ∧ Grew w' w'') := fun w' x c hg h => by
      have := propSame_any x aa c ac xs xs w' _ _ _ _ h (ag w' hg) (by omega) (by omega) (Nat.le_refl _) (Nat.le_refl _)
      rw [decide_eq_true rfl] at this
      exact this
    clear ag bg hz hD e1 e2 m1 m2 C1 C2
    generalize withoutP xs ys = os at *
    generalize withoutP ys xs = ns at *
    go_enter Tryd.func6, Tryd.ntmps6
    go_wp2_with fail
    refine (live01_any _).mono ?_
    rintro e w1 ⟨rfl, g1⟩
    go_wp2_with fail
    refine (SH.out w1 g1 _).mono ?_
    rintro e w2 ⟨b, rfl, g2⟩
    have g2' := g1.trans ((Grew.alloc1 _ _).trans g2)
    cases b with
    | false =>
      go_wp2_with fail
      go_ret
      exact ⟨rfl, g2'⟩
    | true =>
      go_wp2_with fail
      refine (DF.out _ g2').mono ?_
      rintro e w3 ⟨pa, pc, qa, qc, rfl, g3, hp, hq⟩
      have g3' := g2'.trans g3
      go_wp2_with fail
      refine (P1.out _ g3' _ _ _ _ hp hq).mono ?_
      rintro e w4 ⟨x, xc, rfl, g4, hx⟩
      have g4' := g3'.trans g4
      have hp4 := (PropsIn.grew hp g4 (Nat.le_refl _)).mono (Nat.le_refl _) g4.size
      have hq4 := (PropsIn.grew hq g4 (Nat.le_refl _)).mono (Nat.le_refl _) g4.size
      go_wp2_with fail
      refine (P2.out _ g4' _ _ _ _ hq4 hp4).mono ?_
      rintro e w5 ⟨y, yc, rfl, g5, hy⟩
      have g5' := g4'.trans g5
      have hx5 := (PropsIn.grew hx g5 (Nat.le_refl _)).mono (Nat.le_refl _) g5.size
      go_wp2_with fail
      refine (S1.out _ _ _ g5' hx5).mono ?_
      rintro e w6 ⟨rfl, g6⟩
      have g6' := g5'.trans g6
      have hy6 := (PropsIn.grew hy g6 (Nat.le_refl _)).mono (Nat.le_refl _) g6.size
      go_wp2_with fail
      refine (S2.out _ _ _ g6' hy6).mono ?_
      rintro e w7 ⟨rfl, g7⟩
      go_wp2_with fail
      go_ret
      exact ⟨rfl, g6'.trans g7⟩
  · have hD : diffT xs ys = ([], [], firstBad [xs, ys]) := by unfold diffT; rw [if_pos hz]
    rw [hD] at DF
    simp only [List.length_nil] at DF
    have hne : (firstBad [xs, ys] != 0) = true := by simpa using hz
    have hor : checkPs xs ≠ 0 ∨ checkPs ys ≠ 0 := by
      apply Classical.byContradiction
      intro hc
      rw [not_or] at hc
      exact hz (firstBad_two.2 ⟨Classical.byContradiction hc.1, Classical.byContradiction hc.2⟩)
    clear ag bg hz hD
    generalize firstBad [xs, ys] = v at *
    generalize checkPs xs = c1 at *
    generalize checkPs ys = c2 at *
    go_enter Tryd.func6, Tryd.ntmps6
    go_wp2_with fail
    refine (live01_any _).mono ?_
    rintro e w1 ⟨rfl, g1⟩
    go_wp2_with fail
    refine (SH.out w1 g1 _).mono ?_
    rintro e w2 ⟨b, rfl, g2⟩
    have g2' := g1.trans ((Grew.alloc1 _ _).trans g2)
    cases b with
    | false =>
      go_wp2_with fail
      go_ret
      exact ⟨rfl, g2'⟩
    | true =>
      go_wp2_with fail
      refine (DF.out _ g2').mono ?_
      rintro e w3 ⟨pa, pc, qa, qc, rfl, g3, _, _⟩
      have g3' := g2'.trans g3
      by_cases h1 : c1 = 0
      · have t1 : (c1 != 0) = false := by simpa using h1
        have t2 : (c2 != 0) = true := by
          rcases hor with h | h
          · exact absurd h1 h
          · simpa using h
        clear hor h1
        go_wp2_with fail
        refine (C1.out _ g3').mono ?_
        rintro e w4 ⟨rfl, g4⟩
        have g4' := g3'.trans g4
        go_wp2_with fail
        refine (C2.out _ g4').mono ?_
        rintro e w5 ⟨rfl, g5⟩
        go_wp2_with fail
        go_ret
        exact ⟨rfl, g4'.trans g5⟩
      · have t1 : (c1 != 0) = true := by simpa using h1
        clear hor h1
        go_wp2_with fail
        refine (C1.out _ g3').mono ?_
        rintro e w4 ⟨rfl, g4⟩
        go_wp2_with fail
        go_ret
        exact ⟨rfl, g3'.trans g4⟩
end Go.Proofs.YtjbfimeckplcmaaDoor
