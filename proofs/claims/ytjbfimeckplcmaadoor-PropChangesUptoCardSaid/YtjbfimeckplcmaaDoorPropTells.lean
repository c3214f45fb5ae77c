/- THE LAW redlinelaw01.PropTells: the contract. -/
import Derived.Test.YtjbfimeckplcmaaDoorLive01
import Derived.Test.YtjbfimeckplcmaaDoorRefCheck01
import Derived.Test.YtjbfimeckplcmaaDoorRef01
namespace Go.Proofs.YtjbfimeckplcmaaDoor
open Go Go.RowKit

/-- two lists of properties that lie in the world, laid side by side: redlinelaw01.short -/
theorem short2_any (xs ys : List PropL) (aa ba : Option Addr) (ac bc : Nat) (w : World) (t : TypeId) (ha : PropsIn w 0 w.heap.size aa ac xs) (hb : PropsIn w 0 w.heap.size ba bc ys) (hxa : propsBulk xs ≤ 1048576) (hxb : propsBulk ys ≤ 1048576) :
    Calls Tryd.prog 10 #[.slice (some ⟨w.heap.size, 0, none⟩) 2 2] (w.alloc (.cells #[.slice aa xs.length ac, .slice ba ys.length bc] t)) (SomeBool (w.alloc (.cells #[.slice aa xs.length ac, .slice ba ys.length bc] t))) :=
  short_any [⟨aa, ac, xs⟩, ⟨ba, bc, ys⟩] (some ⟨w.heap.size, 0, none⟩) 2 _ (pp_two w ⟨aa, ac, xs⟩ ⟨ba, bc, ys⟩ t ha hb) (by
    intro p hp
    rcases List.mem_cons.1 hp with rfl | hp
    · exact hxa
    · obtain rfl : p = ⟨ba, bc, ys⟩ := by simpa using hp
      exact hxb) (by simp)

set_option maxHeartbeats 2000000 in
theorem propTells_any (xs ys : List PropL) (k : ByteArray) (aa ba : Option Addr) (ac bc : Nat) (w : World) (ha : PropsIn w 0 w.heap.size aa ac xs) (hb : PropsIn w 0 w.heap.size ba bc ys) (hxa : propsBulk xs ≤ 1048576) (hxb : propsBulk ys ≤ 1048576) :
    Calls Tryd.prog 3 #[.slice aa xs.length ac, .slice ba ys.length bc, .string k] w fun e w' => e = .returned (.bool true) ∧ Grew w w' := by
  have la := propsBulk_len xs
  have lb := propsBulk_len ys
  have ag := fun w' (hg : Grew w w') => ((ha.grew hg (Nat.le_refl _)).mono (Nat.le_refl _) hg.size : PropsIn w' 0 w'.heap.size aa ac xs)
  have bg := fun w' (hg : Grew w w') => ((hb.grew hg (Nat.le_refl _)).mono (Nat.le_refl _) hg.size : PropsIn w' 0 w'.heap.size ba bc ys)
  have SH := Lib.hid (fun w' (hg : Grew w w') t => short2_any xs ys aa ba ac bc w' t (ag w' hg) (bg w' hg) hxa hxb)
  have G1 := Lib.hid (fun w' (hg : Grew w w') => get_any xs aa ac k w' _ _ (ag w' hg) (Nat.le_refl _) (by omega))
  have G2 := Lib.hid (fun w' (hg : Grew w w') => refGet_any xs aa ac k w' _ _ (ag w' hg) (Nat.le_refl _) (by omega))
  have C1 := Lib.hid (fun w' (hg : Grew w w') => check01_any xs aa ac w' _ _ (ag w' hg) (Nat.le_refl _) hxa)
  have C2 := Lib.hid (fun w' (hg : Grew w w') => refCheck01_any xs aa ac w' _ _ (ag w' hg) (Nat.le_refl _) hxa)
  have S1 := Lib.hid (fun w' (hg : Grew w w') => propSame_any aa ba ac bc xs ys w' _ _ _ _ (ag w' hg) (bg w' hg) (by omega) (by omega) (Nat.le_refl _) (Nat.le_refl _))
  have S2 := Lib.hid (fun w' (hg : Grew w w') => refSame01_any aa ba ac bc xs ys w' _ _ _ _ (ag w' hg) (bg w' hg) (by omega) (by omega) (Nat.le_refl _) (Nat.le_refl _))
  have S3 : Hid (∀ w', Grew w w' → Calls Tryd.prog 15 #[.slice aa xs.length ac, .slice aa xs.length ac] w' fun e w'' => e = .returned (.bool true) ∧ Grew w' w'') := fun w' (hg : Grew w w') => by
    have := propSame_any aa aa ac ac xs xs w' _ _ _ _ (ag w' hg) (ag w' hg) (by omega) (by omega) (Nat.le_refl _) (Nat.le_refl _)
    rw [decide_eq_true rfl] at this
    exact this
  clear ag bg
  generalize (getP k xs).getD .empty = gv at *
  generalize (getP k xs).isSome = gb at *
  generalize checkPs xs = cp at *
  generalize decide (xs = ys) = sm at *
  go_enter Tryd.func3, Tryd.ntmps3
  go_wp2_with fail
  refine (live01_any _).mono ?_
  rintro e w1 ⟨rfl, g1⟩
  go_wp2_with fail
  refine (SH.out w1 g1 _).mono ?_
  rintro e w2 ⟨b, rfl, g2⟩
  have g2' := g1.trans ((Grew.alloc1 _ _).trans g2)
  cases b with
  | false =>
    go_wp2_with fail
    go_ret
    exact ⟨rfl, g2'⟩
  | true =>
    go_wp2_with fail
    refine (G1.out _ g2').mono ?_
    rintro e w3 ⟨rfl, g3⟩
    have g3' := g2'.trans g3
    go_wp2_with fail
    refine (G2.out _ g3').mono ?_
    rintro e w4 ⟨rfl, g4⟩
    have g4' := g3'.trans g4
    go_wp2_with fail
    refine (C1.out _ g4').mono ?_
    rintro e w5 ⟨rfl, g5⟩
    have g5' := g4'.trans g5
    go_wp2_with fail
    refine (C2.out _ g5').mono ?_
    rintro e w6 ⟨rfl, g6⟩
    have g6' := g5'.trans g6
    go_wp2_with fail
    refine (S1.out _ g6').mono ?_
    rintro e w7 ⟨rfl, g7⟩
    have g7' := g6'.trans g7
    go_wp2_with fail
    refine (S2.out _ g7').mono ?_
    rintro e w8 ⟨rfl, g8⟩
    have g8' := g7'.trans g8
    go_wp2_with fail
    refine (S3.out _ g8').mono ?_
    rintro e w9 ⟨rfl, g9⟩
    go_wp2_with fail
    go_ret
    exact ⟨rfl, g8'.trans g9⟩
end Go.Proofs.YtjbfimeckplcmaaDoor
