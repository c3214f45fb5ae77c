/- redlineref01.Diff: the contract. -/
import Derived.Test.YtjbfimeckplcmaaDoorRefPatch
namespace Go.Proofs.YtjbfimeckplcmaaDoor
open Go Go.RowKit

set_option maxHeartbeats 4000000 in
theorem refDiff_any (xs ys : List PropL) (aa ba : Option Addr) (ac bc : Nat) (w : World) (ha : PropsIn w 0 w.heap.size aa ac xs) (hb : PropsIn w 0 w.heap.size ba bc ys) (hxa : propsBulk xs ≤ 1048576) (hxb : propsBulk ys ≤ 1048576) :
    Calls Tryd.prog 20 #[.slice aa xs.length ac, .slice ba ys.length bc] w (DiffEnds xs ys w) := by
  have la := propsBulk_len xs
  have lb := propsBulk_len ys
  have AG := Lib.hid (fun w' (hg : Grew w w') => ((ha.grew hg (Nat.le_refl _)).mono (Nat.le_refl _) hg.size : PropsIn w' 0 w'.heap.size aa ac xs))
  have BG := Lib.hid (fun w' (hg : Grew w w') => ((hb.grew hg (Nat.le_refl _)).mono (Nat.le_refl _) hg.size : PropsIn w' 0 w'.heap.size ba bc ys))
  have C1 := Lib.hid (fun w' (hg : Grew w w') => refCheck01_any xs aa ac w' _ _ (AG.out w' hg) (Nat.le_refl _) hxa)
  have C2 := Lib.hid (fun w' (hg : Grew w w') => refCheck01_any ys ba bc w' _ _ (BG.out w' hg) (Nat.le_refl _) hxb)
  clear ha hb
  by_cases h1 : checkPs xs = 0
  · by_cases h2 : checkPs ys = 0
    · have HD : Hid (diffT xs ys = (withoutP xs ys, withoutP ys xs, 0)) := by show _ = _; unfold diffT; rw [firstBad_two.2 ⟨h1, h2⟩]; rfl
      rw [h1] at C1
      rw [h2] at C2
      clear h1 h2
      go_enter Tryd.func20, Tryd.ntmps20
      go_wp2_with fail
      refine (C1.out _ (Grew.refl _)).mono ?_
      rintro e w1 ⟨rfl, g1⟩
      go_wp2_with fail
      refine (C2.out _ g1).mono ?_
      rintro e w2 ⟨rfl, g2⟩
      have hg0 := g1.trans g2
      clear C1 C2
      go_wp2_with fail
      go_loopw [9, 27] (fun v i wr => ∃ (k : Nat) (os : List PropL), k ≤ xs.length ∧ i = .int .i64 k ∧ wr.ownsRow w.heap.size 36 2 v os.length (cellsOfProps os) ∧ Grew w wr ∧ os.length ≤ k ∧ Hid (os = withoutP (xs.take k) ys)) (fun _ i _ => xs.length - (intOf i).toNat)
      case atStart => exact ⟨0, [], by omega, rfl, World.ownsRow_nil _ _ _ _, hg0, by simp, (show _ = withoutP (List.take 0 xs) ys by simp [withoutP])⟩
      case round =>
        clear hg0
        obtain ⟨k, os, hk, rfl, hown, hg, hos, HO⟩ := hrel
        have hlo := hown.lt
        obtain ⟨va, vc, rfl⟩ := owned_shape hown
        by_cases hlt : k < xs.length
        · obtain ⟨b, o, rfl, _, hbh, c0, c1⟩ := (AG.out wr hg).at hlt
          have HS := Lib.hid (withoutP_snoc xs ys hlt)
          clear HD AG
          generalize xs.getD k default = p at *
          have H := Lib.hid (fun w' (hg : Grew w w') => refHas_any ys ba bc p w' _ _ (BG.out w' hg) (Nat.le_refl _) (by omega))
          have hg2 := hg.trans (Grew.alloc1 wr (Obj.cells #[.string p.1, .string p.2] 36))
          have hown2 := ownsRow_grew hown (Grew.alloc1 wr (Obj.cells #[.string p.1, .string p.2] 36))
          have PB := Lib.hid (fun w' (g : Grew (wr.alloc (Obj.cells #[.string p.1, .string p.2] 36)) w') => pbox g)
          clear BG hown
          cases hr : hasP ys p with
          | true =>
            rw [hr] at H
            have HC : Hid (os = withoutP (xs.take (k + 1)) ys) := by show _ = _; rw [HS.out, if_pos hr]; exact HO.out
            clear HS HO hr
            go_wp2_with fail
            refine (H.out _ hg2).mono ?_
            rintro e w5 ⟨rfl, g5⟩
            go_wp2_with fail
            go_roundw
            case rel => exact ⟨k + 1, os, by omega, by go_num, ownsRow_grew hown2 g5, hg2.trans g5, by omega, HC⟩
            case measure => simp [intOf]; omega
          | false =>
            rw [hr] at H
            have HC : Hid (os ++ [p] = withoutP (xs.take (k + 1)) ys) := by show _ = _; rw [HS.out, if_neg (by simp [hr]), HO.out]
            clear HS HO hr
            go_wp2_with fail
            refine (H.out _ hg2).mono ?_
            rintro e w5 ⟨rfl, g5⟩
            obtain ⟨d0, d1, hz5⟩ := PB.out _ g5
            have hg5 := hg2.trans g5
            have hown5 := ownsRow_grew hown2 g5
            have hz5' := hg5.size
            have hrow := props_cell1 w5 p 36
            go_wp2_with (at_builtin; refine wp_app1 rfl (.tmp 35) (.tmp 37) rfl w.heap.size (.slice va os.length vc) os rfl (ownsRow_grew hown5 (Grew.alloc1 _ _)) p _ _ _ _ rfl hrow (by omega) (by simp; omega) ?_; intro a' c' w9 hown9 _ hg9)
            go_roundw
            case rel => exact ⟨k + 1, os ++ [p], by omega, by go_num, by simpa using hown9, (hg5.trans (Grew.alloc1 _ _)).grown hg9 (fun j hj => (hlo j hj).1), by simp; omega, HC⟩
            case measure => simp [intOf]; omega
        · obtain rfl : k = xs.length := by omega
          rw [List.take_length] at HO
          have hrow := (ownRow_owned (f := fun i j => propCell (os.getD i default) j) hown (cellsOfProps_at os)).1
          have hp0 : PropsIn wr 0 wr.heap.size va vc os := hrow.mono (Nat.zero_le _) (Nat.le_refl _)
          obtain ⟨w5, hw5⟩ : ∃ w5, w5 = wr := ⟨_, rfl⟩
          rw [← hw5] at hg hp0 ⊢
          clear hw5 hown hrow hlo
          go_wp2_with fail
          go_loopw [10, 42] (fun v i wr => ∃ (k : Nat) (ps : List PropL), k ≤ ys.length ∧ i = .int .i64 k ∧ wr.ownsRow w5.heap.size 36 2 v ps.length (cellsOfProps ps) ∧ Grew w5 wr ∧ ps.length ≤ k ∧ Hid (ps = withoutP (ys.take k) xs)) (fun _ i _ => ys.length - (intOf i).toNat)
          case atStart => exact ⟨0, [], by omega, rfl, World.ownsRow_nil _ _ _ _, Grew.refl _, by simp, (show _ = withoutP (List.take 0 ys) xs by simp [withoutP])⟩
          case round =>
            obtain ⟨k, ps, hk, rfl, hown, hgw, hps, HP⟩ := hrel
            have hlo := hown.lt
            have hgr := hg.trans hgw
            obtain ⟨ua, uc, rfl⟩ := owned_shape hown
            by_cases hlt : k < ys.length
            · obtain ⟨b, o, rfl, _, hbh, c0, c1⟩ := (BG.out wr hgr).at hlt
              have HS := Lib.hid (withoutP_snoc ys xs hlt)
              clear HD BG
              generalize ys.getD k default = p at *
              have H := Lib.hid (fun w' (hg : Grew w w') => refHas_any xs aa ac p w' _ _ (AG.out w' hg) (Nat.le_refl _) (by omega))
              have hg2 := hgr.trans (Grew.alloc1 wr (Obj.cells #[.string p.1, .string p.2] 36))
              have hg2w := hgw.trans (Grew.alloc1 wr (Obj.cells #[.string p.1, .string p.2] 36))
              have hown2 := ownsRow_grew hown (Grew.alloc1 wr (Obj.cells #[.string p.1, .string p.2] 36))
              have PB := Lib.hid (fun w' (g : Grew (wr.alloc (Obj.cells #[.string p.1, .string p.2] 36)) w') => pbox g)
              clear AG hown
              cases hr : hasP xs p with
              | true =>
                rw [hr] at H
                have HC : Hid (ps = withoutP (ys.take (k + 1)) xs) := by show _ = _; rw [HS.out, if_pos hr]; exact HP.out
                clear HS HP hr
                go_wp2_with fail
                refine (H.out _ hg2).mono ?_
                rintro e w6 ⟨rfl, g6⟩
                go_wp2_with fail
                go_roundw
                case rel => exact ⟨k + 1, ps, by omega, by go_num, ownsRow_grew hown2 g6, hg2w.trans g6, by omega, HC⟩
                case measure => simp [intOf]; omega
              | false =>
                rw [hr] at H
                have HC : Hid (ps ++ [p] = withoutP (ys.take (k + 1)) xs) := by show _ = _; rw [HS.out, if_neg (by simp [hr]), HP.out]
                clear HS HP hr
                go_wp2_with fail
                refine (H.out _ hg2).mono ?_
                rintro e w6 ⟨rfl, g6⟩
                obtain ⟨d0, d1, hz6⟩ := PB.out _ g6
                have hg6 := hg2w.trans g6
                have hown6 := ownsRow_grew hown2 g6
                have hz6' := hg6.size
                have hrow := props_cell1 w6 p 36
                go_wp2_with (at_builtin; refine wp_app1 rfl (.tmp 50) (.tmp 52) rfl w5.heap.size (.slice ua ps.length uc) ps rfl (ownsRow_grew hown6 (Grew.alloc1 _ _)) p _ _ _ _ rfl hrow (by omega) (by simp; omega) ?_; intro a' c' w9 hown9 _ hg9)
                go_roundw
                case rel => exact ⟨k + 1, ps ++ [p], by omega, by go_num, by simpa using hown9, (hg6.trans (Grew.alloc1 _ _)).grown hg9 (fun j hj => (hlo j hj).1), by simp; omega, HC⟩
                case measure => simp [intOf]; omega
            · obtain rfl : k = ys.length := by omega
              rw [List.take_length] at HP
              have hrow := (ownRow_owned (f := fun i j => propCell (ps.getD i default) j) hown (cellsOfProps_at ps)).1
              have hq0 : PropsIn wr 0 wr.heap.size ua uc ps := hrow.mono (Nat.zero_le _) (Nat.le_refl _)
              have hp1 : PropsIn wr 0 wr.heap.size va vc os := (hp0.grew hgw (Nat.le_refl _)).mono (Nat.le_refl _) hgw.size
              clear hown hrow hlo hp0
              go_wp2_with fail
              go_ret3
              unfold DiffEnds
              rw [HD.out, ← HO.out, ← HP.out]
              exact ⟨va, vc, ua, uc, rfl, hgr, hp1, hq0⟩
    · have HD : Hid (diffT xs ys = ([], [], checkPs ys)) := by
        show _ = _
        have : firstBad [xs, ys] = checkPs ys := by simp [firstBad, h1, h2]
        unfold diffT
        rw [this, if_pos h2]
      have hne : (checkPs ys != 0) = true := by simpa using h2
      rw [h1] at C1
      clear h1 h2
      generalize checkPs ys = v at *
      go_enter Tryd.func20, Tryd.ntmps20
      go_wp2_with fail
      refine (C1.out _ (Grew.refl _)).mono ?_
      rintro e w1 ⟨rfl, g1⟩
      go_wp2_with fail
      refine (C2.out _ g1).mono ?_
      rintro e w2 ⟨rfl, g2⟩
      go_wp2_with fail
      go_ret3
      unfold DiffEnds
      rw [HD.out]
      exact ⟨none, 0, none, 0, rfl, g1.trans g2, propsIn_nil, propsIn_nil⟩
  · have HD : Hid (diffT xs ys = ([], [], checkPs xs)) := by
      show _ = _
      have : firstBad [xs, ys] = checkPs xs := by simp [firstBad, h1]
      unfold diffT
      rw [this, if_pos h1]
    have hne : (checkPs xs != 0) = true := by simpa using h1
    clear h1
    generalize checkPs xs = v at *
    go_enter Tryd.func20, Tryd.ntmps20
    go_wp2_with fail
    refine (C1.out _ (Grew.refl _)).mono ?_
    rintro e w1 ⟨rfl, g1⟩
    go_wp2_with fail
    go_ret3
    unfold DiffEnds
    rw [HD.out]
    exact ⟨none, 0, none, 0, rfl, g1, propsIn_nil, propsIn_nil⟩
end Go.Proofs.YtjbfimeckplcmaaDoor
