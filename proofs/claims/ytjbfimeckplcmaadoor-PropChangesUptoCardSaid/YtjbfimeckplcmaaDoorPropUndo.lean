/- THE LAWS redlinelaw01.PropUndo and PropKeys: the contracts. -/
import Derived.Test.YtjbfimeckplcmaaDoorPropBack
namespace Go.Proofs.YtjbfimeckplcmaaDoor
open Go Go.RowKit

theorem propsBulk_append (a b : List PropL) : propsBulk (a ++ b) = propsBulk a + propsBulk b := by
  induction a with
  | nil => simp [propsBulk]
  | cons p r ih => simp only [List.cons_append, propsBulk, ih]; omega
theorem propsBulk_perm {a b : List PropL} (h : a.Perm b) : propsBulk a = propsBulk b := by
  induction h with
  | nil => rfl
  | cons x _ ih => simp only [propsBulk, ih]
  | swap x y l => simp only [propsBulk]; omega
  | trans _ _ h1 h2 => exact h1.trans h2
theorem patched_bulk {l old new R : List PropL} (h : IsSort R (minusK l old ++ new)) : propsBulk R ≤ propsBulk l + propsBulk new := by
  rw [propsBulk_perm h.1, propsBulk_append]
  have := propsBulk_sub (minus_sub old l)
  omega

/-- three lists of properties that lie in the world, laid side by side: redlinelaw01.short -/
theorem short3_any (xs ys zs : List PropL) (aa ba ca : Option Addr) (ac bc cc : Nat) (w : World) (t : TypeId) (ha : PropsIn w 0 w.heap.size aa ac xs) (hb : PropsIn w 0 w.heap.size ba bc ys) (hc : PropsIn w 0 w.heap.size ca cc zs) (hxa : propsBulk xs ≤ 1048576) (hxb : propsBulk ys ≤ 1048576) (hxc : propsBulk zs ≤ 1048576) :
    Calls Tryd.prog 10 #[.slice (some ⟨w.heap.size, 0, none⟩) 3 3] (w.alloc (.cells #[.slice aa xs.length ac, .slice ba ys.length bc, .slice ca zs.length cc] t)) (SomeBool (w.alloc (.cells #[.slice aa xs.length ac, .slice ba ys.length bc, .slice ca zs.length cc] t))) :=
  short_any [⟨aa, ac, xs⟩, ⟨ba, bc, ys⟩, ⟨ca, cc, zs⟩] (some ⟨w.heap.size, 0, none⟩) 3 _ (pp_three w ⟨aa, ac, xs⟩ ⟨ba, bc, ys⟩ ⟨ca, cc, zs⟩ t ha hb hc) (by
    intro p hp
    rcases List.mem_cons.1 hp with rfl | hp
    · exact hxa
    · rcases List.mem_cons.1 hp with rfl | hp
      · exact hxb
      · obtain rfl : p = ⟨ca, cc, zs⟩ := by simpa using hp
        exact hxc) (by simp)
/-- a patch that can be done -/
theorem patch_yes {l old new : List PropL} (h : patchE l old new = 0) (la oa na : Option Addr) (lc oc nc : Nat) (w : World) (hl : PropsIn w 0 w.heap.size la lc l) (ho : PropsIn w 0 w.heap.size oa oc old) (hn : PropsIn w 0 w.heap.size na nc new) (hlb : propsBulk l ≤ 1048576) (hob : propsBulk old ≤ 1048576) (hnb : propsBulk new ≤ 1048576) :
    Calls Tryd.prog 17 #[.slice la l.length lc, .slice oa old.length oc, .slice na new.length nc] w fun e w' => ∃ x c R, e = .returned (.tuple #[.slice x R.length c, .int .i64 0]) ∧ Grew w w' ∧ PropsIn w' 0 w'.heap.size x c R ∧ Hid (IsSort R (minusK l old ++ new)) :=
  (patch_any l old new la oa na lc oc nc w hl ho hn hlb hob hnb).mono fun e w' ⟨x, c, R, he, hg, hrow, hx⟩ => by
    rcases hx.out with ⟨h1, _⟩ | ⟨_, h2⟩
    · exact absurd h h1
    · rw [h] at he
      exact ⟨x, c, R, he, hg, hrow.1.mono (Nat.zero_le _) (Nat.le_refl _), h2⟩

set_option maxHeartbeats 2000000 in
theorem propUndo_any (l old new : List PropL) (la oa na : Option Addr) (lc oc nc : Nat) (w : World) (hl : PropsIn w 0 w.heap.size la lc l) (ho : PropsIn w 0 w.heap.size oa oc old) (hn : PropsIn w 0 w.heap.size na nc new) (hlb : propsBulk l ≤ 1048576) (hob : propsBulk old ≤ 1048576) (hsum : propsBulk l + propsBulk old + propsBulk new ≤ 1048576) :
    Calls Tryd.prog 7 #[.slice la l.length lc, .slice oa old.length oc, .slice na new.length nc] w fun e w' => e = .returned (.bool true) ∧ Grew w w' := by
  have hnb : propsBulk new ≤ 1048576 := by omega
  have ll := propsBulk_len l
  have lg := fun w' (hg : Grew w w') => ((hl.grew hg (Nat.le_refl _)).mono (Nat.le_refl _) hg.size : PropsIn w' 0 w'.heap.size la lc l)
  have og := fun w' (hg : Grew w w') => ((ho.grew hg (Nat.le_refl _)).mono (Nat.le_refl _) hg.size : PropsIn w' 0 w'.heap.size oa oc old)
  have ng := fun w' (hg : Grew w w') => ((hn.grew hg (Nat.le_refl _)).mono (Nat.le_refl _) hg.size : PropsIn w' 0 w'.heap.size na nc new)
  have SH := Lib.hid (fun w' (hg : Grew w w') t => short3_any l old new la oa na lc oc nc w' t (lg w' hg) (og w' hg) (ng w' hg) hlb hob hnb)
  by_cases hz : patchE l old new = 0
  · have P1 := Lib.hid (fun w' (hg : Grew w w') => patch_yes hz la oa na lc oc nc w' (lg w' hg) (og w' hg) (ng w' hg) hlb hob hnb)
    have P2 : Hid (∀ w' x c R, Grew w w' → PropsIn w' 0 w'.heap.size x c R → IsSort R (minusK l old ++ new) → Calls Tryd.prog 17 #[.slice x R.length c, .slice na new.length nc, .slice oa old.length oc] w' fun e w'' => ∃ y d, e = .returned (.tuple #[.slice y l.length d, .int .i64 0]) ∧ Grew w' w'' ∧ PropsIn w'' 0 w''.heap.size y d l) := fun w' x c R hg h hs => by
      obtain ⟨_, h2, h3⟩ := patch_back hz hs
      have := patched_bulk hs
      exact patch_to h2 h3 x na oa c nc oc w' h (ng w' hg) (og w' hg) (by omega) hnb hob
    have CK : Hid (∀ w' x c R, Grew w w' → PropsIn w' 0 w'.heap.size x c R → IsSort R (minusK l old ++ new) → Calls Tryd.prog 13 #[.slice x R.length c] w' fun e w'' => e = .returned (.int .i64 0) ∧ Grew w' w'') := fun w' x c R hg h hs => by
      have := patched_bulk hs
      have hc := check01_any R x c w' _ _ h (Nat.le_refl _) (by omega)
      rw [(patch_back hz hs).1] at hc
      exact hc
    have S2 : Hid (∀ w' x c, Grew w w' → PropsIn w' 0 w'.heap.size x c l → Calls Tryd.prog 15 #[.slice x l.length c, .slice la l.length lc] w' fun e w'' => e = .returned (.bool true) ∧ Grew w' w'') := fun w' x c hg h => by
      have := propSame_any x la c lc l l w' _ _ _ _ h (lg w' hg) (by omega) (by omega) (Nat.le_refl _) (Nat.le_refl _)
      rw [decide_eq_true rfl] at this
      exact this
    clear lg og ng hz
    go_enter Tryd.func7, Tryd.ntmps7
    go_wp2_with fail
    refine (live01_any _).mono ?_
    rintro e w1 ⟨rfl, g1⟩
    go_wp2_with fail
    refine (SH.out w1 g1 _).mono ?_
    rintro e w2 ⟨b, rfl, g2⟩
    have g2' := g1.trans ((Grew.alloc1 _ _).trans g2)
    cases b with
    | false =>
      go_wp2_with fail
      go_ret
      exact ⟨rfl, g2'⟩
    | true =>
      go_wp2_with fail
      refine (P1.out _ g2').mono ?_
      rintro e w3 ⟨x, xc, R, rfl, g3, hx, hs⟩
      have g3' := g2'.trans g3
      go_wp2_with fail
      refine (P2.out _ _ _ _ g3' hx hs.out).mono ?_
      rintro e w4 ⟨y, yc, rfl, g4, hy⟩
      have g4' := g3'.trans g4
      have hx4 := (PropsIn.grew hx g4 (Nat.le_refl _)).mono (Nat.le_refl _) g4.size
      go_wp2_with fail
      refine (CK.out _ _ _ _ g4' hx4 hs.out).mono ?_
      rintro e w5 ⟨rfl, g5⟩
      have g5' := g4'.trans g5
      have hy5 := (PropsIn.grew hy g5 (Nat.le_refl _)).mono (Nat.le_refl _) g5.size
      go_wp2_with fail
      refine (S2.out _ _ _ g5' hy5).mono ?_
      rintro e w6 ⟨rfl, g6⟩
      go_wp2_with fail
      go_ret
      exact ⟨rfl, g5'.trans g6⟩
  · have P1 := Lib.hid (fun w' (hg : Grew w w') => patch_no hz la oa na lc oc nc w' (lg w' hg) (og w' hg) (ng w' hg) hlb hob hnb)
    have t1 : (patchE l old new != 0) = true := by simpa using hz
    clear lg og ng hz
    generalize patchE l old new = v at *
    go_enter Tryd.func7, Tryd.ntmps7
    go_wp2_with fail
    refine (live01_any _).mono ?_
    rintro e w1 ⟨rfl, g1⟩
    go_wp2_with fail
    refine (SH.out w1 g1 _).mono ?_
    rintro e w2 ⟨b, rfl, g2⟩
    have g2' := g1.trans ((Grew.alloc1 _ _).trans g2)
    cases b with
    | false =>
      go_wp2_with fail
      go_ret
      exact ⟨rfl, g2'⟩
    | true =>
      go_wp2_with fail
      refine (P1.out _ g2').mono ?_
      rintro e w3 ⟨x, xc, rfl, g3⟩
      go_wp2_with fail
      go_ret
      exact ⟨rfl, g2'.trans g3⟩

set_option maxHeartbeats 2000000 in
theorem propKeys_any (l old new : List PropL) (k : ByteArray) (la oa na : Option Addr) (lc oc nc : Nat) (w : World) (hl : PropsIn w 0 w.heap.size la lc l) (ho : PropsIn w 0 w.heap.size oa oc old) (hn : PropsIn w 0 w.heap.size na nc new) (hlb : propsBulk l ≤ 1048576) (hob : propsBulk old ≤ 1048576) (hsum : propsBulk l + propsBulk old + propsBulk new ≤ 1048576) :
    Calls Tryd.prog 5 #[.slice la l.length lc, .slice oa old.length oc, .slice na new.length nc, .string k] w fun e w' => e = .returned (.bool true) ∧ Grew w w' := by
  have hnb : propsBulk new ≤ 1048576 := by omega
  have ll := propsBulk_len l
  have lo := propsBulk_len old
  have ln := propsBulk_len new
  have lg := fun w' (hg : Grew w w') => ((hl.grew hg (Nat.le_refl _)).mono (Nat.le_refl _) hg.size : PropsIn w' 0 w'.heap.size la lc l)
  have og := fun w' (hg : Grew w w') => ((ho.grew hg (Nat.le_refl _)).mono (Nat.le_refl _) hg.size : PropsIn w' 0 w'.heap.size oa oc old)
  have ng := fun w' (hg : Grew w w') => ((hn.grew hg (Nat.le_refl _)).mono (Nat.le_refl _) hg.size : PropsIn w' 0 w'.heap.size na nc new)
  have SH := Lib.hid (fun w' (hg : Grew w w') t => short3_any l old new la oa na lc oc nc w' t (lg w' hg) (og w' hg) (ng w' hg) hlb hob hnb)
  by_cases hz : patchE l old new = 0
  · have P1 := Lib.hid (fun w' (hg : Grew w w') => patch_yes hz la oa na lc oc nc w' (lg w' hg) (og w' hg) (ng w' hg) hlb hob hnb)
    have GR : Hid (∀ w' x c R, Grew w w' → PropsIn w' 0 w'.heap.size x c R → IsSort R (minusK l old ++ new) → Calls Tryd.prog 11 #[.slice x R.length c, .string k] w' fun e w'' => e = .returned (.tuple #[.string ((match getP k new with | some v => some v | none => if (getP k old).isSome then none else getP k l : Option ByteArray).getD .empty), .bool (match getP k new with | some v => some v | none => if (getP k old).isSome then none else getP k l : Option ByteArray).isSome]) ∧ Grew w' w'') := fun w' x c R hg h hs => by
      have := patched_bulk hs
      have hR := propsBulk_len R
      have hc := get_any R x c k w' _ _ h (Nat.le_refl _) (by omega)
      rw [patch_key hz hs] at hc
      exact hc
    have GN := Lib.hid (fun w' (hg : Grew w w') => get_any new na nc k w' _ _ (ng w' hg) (Nat.le_refl _) (by omega))
    have GO := Lib.hid (fun w' (hg : Grew w w') => get_any old oa oc k w' _ _ (og w' hg) (Nat.le_refl _) (by omega))
    have GL := Lib.hid (fun w' (hg : Grew w w') => get_any l la lc k w' _ _ (lg w' hg) (Nat.le_refl _) (by omega))
    clear lg og ng hz
    cases hN : getP k new with
    | some v =>
      rw [hN] at GN GR
      simp only [Option.getD_some, Option.isSome_some] at GN GR
      have hvv : (v.toList == v.toList) = true := by simp
      clear hN GO GL
      go_enter Tryd.func5, Tryd.ntmps5
      go_wp2_with fail
      refine (live01_any _).mono ?_
      rintro e w1 ⟨rfl, g1⟩
      go_wp2_with fail
      refine (SH.out w1 g1 _).mono ?_
      rintro e w2 ⟨b, rfl, g2⟩
      have g2' := g1.trans ((Grew.alloc1 _ _).trans g2)
      cases b with
      | false =>
        go_wp2_with fail
        go_ret
        exact ⟨rfl, g2'⟩
      | true =>
        go_wp2_with fail
        refine (P1.out _ g2').mono ?_
        rintro e w3 ⟨x, xc, R, rfl, g3, hx, hs⟩
        have g3' := g2'.trans g3
        go_wp2_with fail
        refine (GR.out _ _ _ _ g3' hx hs.out).mono ?_
        rintro e w4 ⟨rfl, g4⟩
        have g4' := g3'.trans g4
        go_wp2_with fail
        refine (GN.out _ g4').mono ?_
        rintro e w5 ⟨rfl, g5⟩
        go_wp2_with fail
        go_ret
        exact ⟨rfl, g4'.trans g5⟩
    | none =>
      rw [hN] at GN GR
      cases hO : getP k old with
      | some v =>
        rw [hO] at GO GR
        simp only [Option.getD_some, Option.isSome_some, Option.getD_none, Option.isSome_none, ↓reduceIte] at GN GR GO
        clear hN hO GL
        go_enter Tryd.func5, Tryd.ntmps5
        go_wp2_with fail
        refine (live01_any _).mono ?_
        rintro e w1 ⟨rfl, g1⟩
        go_wp2_with fail
        refine (SH.out w1 g1 _).mono ?_
        rintro e w2 ⟨b, rfl, g2⟩
        have g2' := g1.trans ((Grew.alloc1 _ _).trans g2)
        cases b with
        | false =>
          go_wp2_with fail
          go_ret
          exact ⟨rfl, g2'⟩
        | true =>
          go_wp2_with fail
          refine (P1.out _ g2').mono ?_
          rintro e w3 ⟨x, xc, R, rfl, g3, hx, hs⟩
          have g3' := g2'.trans g3
          go_wp2_with fail
          refine (GR.out _ _ _ _ g3' hx hs.out).mono ?_
          rintro e w4 ⟨rfl, g4⟩
          have g4' := g3'.trans g4
          go_wp2_with fail
          refine (GN.out _ g4').mono ?_
          rintro e w5 ⟨rfl, g5⟩
          have g5' := g4'.trans g5
          go_wp2_with fail
          refine (GO.out _ g5').mono ?_
          rintro e w6 ⟨rfl, g6⟩
          go_wp2_with fail
          go_ret
          exact ⟨rfl, g5'.trans g6⟩
      | none =>
        rw [hO] at GO GR
        simp only [Option.getD_none, Option.isSome_none, Bool.false_eq_true, ↓reduceIte] at GN GR GO
        generalize (getP k l).getD .empty = gv at *
        generalize (getP k l).isSome = gb at *
        have hvv : (gv.toList == gv.toList) = true := by simp
        clear hN hO
        cases gb
        all_goals
          go_enter Tryd.func5, Tryd.ntmps5
          go_wp2_with fail
          refine (live01_any _).mono ?_
          rintro e w1 ⟨rfl, g1⟩
          go_wp2_with fail
          refine (SH.out w1 g1 _).mono ?_
          rintro e w2 ⟨b, rfl, g2⟩
          have g2' := g1.trans ((Grew.alloc1 _ _).trans g2)
          cases b with
          | false =>
            go_wp2_with fail
            go_ret
            exact ⟨rfl, g2'⟩
          | true =>
            go_wp2_with fail
            refine (P1.out _ g2').mono ?_
            rintro e w3 ⟨x, xc, R, rfl, g3, hx, hs⟩
            have g3' := g2'.trans g3
            go_wp2_with fail
            refine (GR.out _ _ _ _ g3' hx hs.out).mono ?_
            rintro e w4 ⟨rfl, g4⟩
            have g4' := g3'.trans g4
            go_wp2_with fail
            refine (GN.out _ g4').mono ?_
            rintro e w5 ⟨rfl, g5⟩
            have g5' := g4'.trans g5
            go_wp2_with fail
            refine (GO.out _ g5').mono ?_
            rintro e w6 ⟨rfl, g6⟩
            have g6' := g5'.trans g6
            go_wp2_with fail
            refine (GL.out _ g6').mono ?_
            rintro e w7 ⟨rfl, g7⟩
            go_wp2_with fail
            go_ret
            exact ⟨rfl, g6'.trans g7⟩
  · have P1 := Lib.hid (fun w' (hg : Grew w w') => patch_no hz la oa na lc oc nc w' (lg w' hg) (og w' hg) (ng w' hg) hlb hob hnb)
    have t1 : (patchE l old new != 0) = true := by simpa using hz
    clear lg og ng hz
    generalize patchE l old new = v at *
    go_enter Tryd.func5, Tryd.ntmps5
    go_wp2_with fail
    refine (live01_any _).mono ?_
    rintro e w1 ⟨rfl, g1⟩
    go_wp2_with fail
    refine (SH.out w1 g1 _).mono ?_
    rintro e w2 ⟨b, rfl, g2⟩
    have g2' := g1.trans ((Grew.alloc1 _ _).trans g2)
    cases b with
    | false =>
      go_wp2_with fail
      go_ret
      exact ⟨rfl, g2'⟩
    | true =>
      go_wp2_with fail
      refine (P1.out _ g2').mono ?_
      rintro e w3 ⟨x, xc, rfl, g3⟩
      go_wp2_with fail
      go_ret
      exact ⟨rfl, g2'.trans g3⟩
end Go.Proofs.YtjbfimeckplcmaaDoor
