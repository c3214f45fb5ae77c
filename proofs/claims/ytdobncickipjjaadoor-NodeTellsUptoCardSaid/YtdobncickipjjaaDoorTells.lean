/- THE LAW redlinelaw04.NodeTells: the contract. Written by gen_tells.py. -/
import Derived.Test.YtdobncickipjjaaDoorLive
import Derived.Test.YtdobncickipjjaaDoorLeft
import Derived.Test.YtdobncickipjjaaDoorRefCheck04
import Derived.Test.YtdobncickipjjaaDoorRefText
import Derived.Test.YtdobncickipjjaaDoorRef01
import Derived.Test.YtdobncickipjjaaDoorSame
import Derived.Test.YtdobncickipjjaaDoorCopy
import Derived.Test.YtdobncickipjjaaDoorTake
namespace Go.Proofs.YtdobncickipjjaaDoor
open Go Go.RowKit

set_option maxHeartbeats 4000000 in
set_option maxRecDepth 100000 in
theorem nodeTells_any (n : NT) (w : World) (hn : n.Ok w) (hb : n.er.bulk ≤ 1048576) :
    Calls Tryd.prog 4 #[n.val] w fun e w' => e = .returned (.bool true) ∧ Grew w w' := by
  have FW := Lib.hid (fun w hn => few_any n w 200 hn hb (by omega) (by omega))
  cases hf : few n.er 200 with
  | false =>
    rw [hf] at FW
    clear hf
    unfold NT.val
    go_enter Tryd.func4, Tryd.ntmps4
    go_wp2_with fail
    refine (live04_any _).mono ?_
    rintro e w1 ⟨rfl, g1⟩
    have g1' := (Grew.alloc1 _ _).trans g1
    have C := Lib.hid (FW.out w1 (hn.grew g1'))
    obtain ⟨c0, c1, c2, c3, z1⟩ := box4 g1
    go_wp2_with fail
    refine C.out.mono ?_
    rintro e w2 ⟨rfl, g2⟩
    go_wp2_with fail
    go_ret
    exact ⟨rfl, g1'.trans g2⟩
  | true =>
    rw [hf] at FW
    clear hf
    have CP := Lib.hid (fun w' (hg : Grew w w') => copy_any n w' (hn.grew hg) hb)
    have htl : n.er.text.length ≤ 1048576 := by have := T.text_le n.er; omega
    have SZ0 := Lib.hid (fun w' (hg : Grew w w') => size_any n w' (hn.grew hg) hb)
    have RZ0 := Lib.hid (fun w' (hg : Grew w w') => refSize_any n w' (hn.grew hg) hb)
    have CK0 := Lib.hid (fun w' (hg : Grew w w') => check04_any n w' (hn.grew hg) hb)
    have RK0 := Lib.hid (fun w' (hg : Grew w w') => refCheck04_any n w' (hn.grew hg) hb)
    have TY0 := Lib.hid (fun w' (hg : Grew w w') => type_any n w' (hn.grew hg) hb)
    have RY0 := Lib.hid (fun w' (hg : Grew w w') => refType_any n w' (hn.grew hg) hb)
    have TX0 := Lib.hid (fun w' (hg : Grew w w') => text_any n w' (hn.grew hg) hb)
    have RX0 := Lib.hid (fun w' (hg : Grew w w') => refText_any n w' (hn.grew hg) hb)
    have HSA := Lib.hid (fun (x : NT) (hxe : x.er = n.er) w' (hg : Grew w w') (hx : x.Ok w') => (refSame04_any x n w' hx (hn.grew hg) (by rw [hxe]; exact hb) hb).mono (fun e w'' (h : e = .returned (.bool (decide (x.er = n.er))) ∧ Grew w' w'') => (⟨by rw [h.1, hxe, decide_eq_true rfl], h.2⟩ : e = .returned (.bool true) ∧ Grew w' w'')))
    generalize (n.er.size : Int) = sz at *
    generalize n.er.chk = ck at *
    generalize n.er.type = ty at *
    generalize n.er.text = tx at *
    unfold NT.val
    go_enter Tryd.func4, Tryd.ntmps4
    go_wp2_with fail
    refine (live04_any _).mono ?_
    rintro e w1 ⟨rfl, g1⟩
    have g1' := (Grew.alloc1 _ _).trans g1
    have C := Lib.hid (FW.out w1 (hn.grew g1'))
    obtain ⟨c0, c1, c2, c3, z1⟩ := box4 g1
    go_wp2_with fail
    refine C.out.mono ?_
    rintro e w2 ⟨rfl, g2⟩
    clear c0 c1 c2 c3 C FW
    obtain ⟨c0, c1, c2, c3, z2⟩ := box4 (g1.trans g2)
    have g2' := g1'.trans g2
    go_wp2_with fail
    refine (CP.out _ g2').mono ?_
    rintro e w3 ⟨x, rfl, g3, hxo, hxe⟩
    have g3' := g2'.trans g3
    have hx3 : x.Ok w3 := NT.In.ok hxo.1 (Nat.le_refl _)
    have HXE := Lib.hid hxe.out
    clear hxe hxo c0 c1 c2 c3
    obtain ⟨c0, c1, c2, c3, z3⟩ := box4 ((g1.trans g2).trans g3)
    unfold NT.val
    go_wp2_with fail
    have g4 := Grew.alloc1 w3 (Obj.cells #[.bool x.lf, .slice x.pa x.ps.length x.pc, .slice x.ta x.ts.length x.tc, .slice x.ka x.ks.length x.kc] 26)
    have BN := Lib.hid (fun w' (hg : Grew (w3.alloc (Obj.cells #[.bool x.lf, .slice x.pa x.ps.length x.pc, .slice x.ta x.ts.length x.tc, .slice x.ka x.ks.length x.kc] 26)) w') => by
      have h := box4 ((((g1.trans g2).trans g3).trans g4).trans hg)
      exact (⟨h.1, h.2.1, h.2.2.1, h.2.2.2.1⟩ : w'.cell? ⟨w.heap.size, 0, none⟩ = some (.bool n.lf) ∧ w'.cell? ⟨w.heap.size, 1, none⟩ = some (.slice n.pa n.ps.length n.pc) ∧ w'.cell? ⟨w.heap.size, 2, none⟩ = some (.slice n.ta n.ts.length n.tc) ∧ w'.cell? ⟨w.heap.size, 3, none⟩ = some (.slice n.ka n.ks.length n.kc)))
    have BX := Lib.hid (fun w' (hg : Grew (w3.alloc (Obj.cells #[.bool x.lf, .slice x.pa x.ps.length x.pc, .slice x.ta x.ts.length x.tc, .slice x.ka x.ks.length x.kc] 26)) w') => by
      have h := box4 hg
      exact (⟨h.1, h.2.1, h.2.2.1, h.2.2.2.1⟩ : w'.cell? ⟨w3.heap.size, 0, none⟩ = some (.bool x.lf) ∧ w'.cell? ⟨w3.heap.size, 1, none⟩ = some (.slice x.pa x.ps.length x.pc) ∧ w'.cell? ⟨w3.heap.size, 2, none⟩ = some (.slice x.ta x.ts.length x.tc) ∧ w'.cell? ⟨w3.heap.size, 3, none⟩ = some (.slice x.ka x.ks.length x.kc)))
    have hx4 := hx3.grew g4
    have G4 := g3'.trans g4
    generalize w3.alloc (Obj.cells #[.bool x.lf, .slice x.pa x.ps.length x.pc, .slice x.ta x.ts.length x.tc, .slice x.ka x.ks.length x.kc] 26) = w4 at *
    clear g1 g2 g3 g4 g1' g2' g3' hx3 c0 c1 c2 c3 z1 z2 z3 CP
    have SZ := Lib.hid (fun w' (hg : Grew w4 w') => SZ0.out w' (G4.trans hg))
    have RZ := Lib.hid (fun w' (hg : Grew w4 w') => RZ0.out w' (G4.trans hg))
    have CK := Lib.hid (fun w' (hg : Grew w4 w') => CK0.out w' (G4.trans hg))
    have RK := Lib.hid (fun w' (hg : Grew w4 w') => RK0.out w' (G4.trans hg))
    have TY := Lib.hid (fun w' (hg : Grew w4 w') => TY0.out w' (G4.trans hg))
    have RY := Lib.hid (fun w' (hg : Grew w4 w') => RY0.out w' (G4.trans hg))
    have TX := Lib.hid (fun w' (hg : Grew w4 w') => TX0.out w' (G4.trans hg))
    have RX := Lib.hid (fun w' (hg : Grew w4 w') => RX0.out w' (G4.trans hg))
    have SA := Lib.hid (fun w' (hg : Grew w4 w') => HSA.out x HXE.out w' (G4.trans hg) (hx4.grew hg))
    clear SZ0 RZ0 CK0 RK0 TY0 RY0 TX0 RX0 HSA
    refine wp_region_need (Grew w4) (fun j => j.blt 32) (by kernel_rfl) ?_
    have hS : Grew w4 w4.drew := (Grew.refl _).drew
    generalize w4.drew = c4 at *
    refine wpAnyN_at (i := 0) (v := .agg #[.bool n.lf, .slice n.pa n.ps.length n.pc, .slice n.ta n.ts.length n.tc, .slice n.ka n.ks.length n.kc]) (some 11) rfl rfl (by kernel_rfl) (by kernel_rfl) (by kernel_rfl) (by kernel_rfl) (fun _ _ _ h => h) (Or.inl ⟨rfl, fun w' hS => by obtain ⟨n0, n1, n2, n3⟩ := BN.out w' hS; go_simp⟩) hS ?_
    simp only [Act.put, List.setIfInBounds_toArray, List.set_cons_succ, List.set_cons_zero]
    refine wpAnyN_at (i := 2) (v := .agg #[.bool n.lf, .slice n.pa n.ps.length n.pc, .slice n.ta n.ts.length n.tc, .slice n.ka n.ks.length n.kc]) (some 13) rfl rfl (by kernel_rfl) (by kernel_rfl) (by kernel_rfl) (by kernel_rfl) (fun _ _ _ h => h) (Or.inl ⟨rfl, fun w' hS => by obtain ⟨n0, n1, n2, n3⟩ := BN.out w' hS; go_simp⟩) hS ?_
    simp only [Act.put, List.setIfInBounds_toArray, List.set_cons_succ, List.set_cons_zero]
    refine wpAnyN_one (i := 1) (by kernel_rfl) rfl rfl ?_
    intro K' hK'
    go_wp2_with fail
    refine (SZ.out _ hS).mono ?_
    rintro e c5 ⟨rfl, g5⟩
    replace hS := hS.trans g5
    refine hK' _ _ ⟨fun _ => hS, ?_⟩
    clear hK' K' g5
    refine wpAnyN_one (i := 3) (by kernel_rfl) rfl rfl ?_
    intro K' hK'
    go_wp2_with fail
    refine (RZ.out _ hS).mono ?_
    rintro e c5 ⟨rfl, g5⟩
    replace hS := hS.trans g5
    refine hK' _ _ ⟨fun _ => hS, ?_⟩
    clear hK' K' g5
    refine wpAnyN_one (i := 4) (by kernel_rfl) rfl rfl ?_
    intro K' hK'
    go_wp2_with fail
    refine ⟨fun _ => hS, ?_⟩
    refine wpAnyN_one (i := 5) (by kernel_rfl) rfl rfl ?_
    intro K' hK'
    go_wp2_with fail
    refine ⟨fun _ => hS, ?_⟩
    refine wpAnyN_at (i := 6) (v := .agg #[.bool n.lf, .slice n.pa n.ps.length n.pc, .slice n.ta n.ts.length n.tc, .slice n.ka n.ks.length n.kc]) (some 17) rfl rfl (by kernel_rfl) (by kernel_rfl) (by kernel_rfl) (by kernel_rfl) (fun _ _ _ h => h) (Or.inl ⟨rfl, fun w' hS => by obtain ⟨n0, n1, n2, n3⟩ := BN.out w' hS; go_simp⟩) hS ?_
    simp only [Act.put, List.setIfInBounds_toArray, List.set_cons_succ, List.set_cons_zero]
    refine wpAnyN_at (i := 8) (v := .agg #[.bool n.lf, .slice n.pa n.ps.length n.pc, .slice n.ta n.ts.length n.tc, .slice n.ka n.ks.length n.kc]) (some 19) rfl rfl (by kernel_rfl) (by kernel_rfl) (by kernel_rfl) (by kernel_rfl) (fun _ _ _ h => h) (Or.inl ⟨rfl, fun w' hS => by obtain ⟨n0, n1, n2, n3⟩ := BN.out w' hS; go_simp⟩) hS ?_
    simp only [Act.put, List.setIfInBounds_toArray, List.set_cons_succ, List.set_cons_zero]
    refine wpAnyN_one (i := 7) (by kernel_rfl) rfl rfl ?_
    intro K' hK'
    go_wp2_with fail
    refine (CK.out _ hS).mono ?_
    rintro e c5 ⟨rfl, g5⟩
    replace hS := hS.trans g5
    refine hK' _ _ ⟨fun _ => hS, ?_⟩
    clear hK' K' g5
    refine wpAnyN_one (i := 9) (by kernel_rfl) rfl rfl ?_
    intro K' hK'
    go_wp2_with fail
    refine (RK.out _ hS).mono ?_
    rintro e c5 ⟨rfl, g5⟩
    replace hS := hS.trans g5
    refine hK' _ _ ⟨fun _ => hS, ?_⟩
    clear hK' K' g5
    refine wpAnyN_one (i := 10) (by kernel_rfl) rfl rfl ?_
    intro K' hK'
    go_wp2_with fail
    refine ⟨fun _ => hS, ?_⟩
    refine wpAnyN_one (i := 11) (by kernel_rfl) rfl rfl ?_
    intro K' hK'
    go_wp2_with fail
    refine ⟨fun _ => hS, ?_⟩
    refine wpAnyN_one (i := 12) (by kernel_rfl) rfl rfl ?_
    intro K' hK'
    go_wp2_with fail
    refine ⟨fun _ => hS, ?_⟩
    refine wpAnyN_at (i := 13) (v := .agg #[.bool n.lf, .slice n.pa n.ps.length n.pc, .slice n.ta n.ts.length n.tc, .slice n.ka n.ks.length n.kc]) (some 24) rfl rfl (by kernel_rfl) (by kernel_rfl) (by kernel_rfl) (by kernel_rfl) (fun _ _ _ h => h) (Or.inl ⟨rfl, fun w' hS => by obtain ⟨n0, n1, n2, n3⟩ := BN.out w' hS; go_simp⟩) hS ?_
    simp only [Act.put, List.setIfInBounds_toArray, List.set_cons_succ, List.set_cons_zero]
    refine wpAnyN_at (i := 15) (v := .agg #[.bool n.lf, .slice n.pa n.ps.length n.pc, .slice n.ta n.ts.length n.tc, .slice n.ka n.ks.length n.kc]) (some 26) rfl rfl (by kernel_rfl) (by kernel_rfl) (by kernel_rfl) (by kernel_rfl) (fun _ _ _ h => h) (Or.inl ⟨rfl, fun w' hS => by obtain ⟨n0, n1, n2, n3⟩ := BN.out w' hS; go_simp⟩) hS ?_
    simp only [Act.put, List.setIfInBounds_toArray, List.set_cons_succ, List.set_cons_zero]
    refine wpAnyN_one (i := 14) (by kernel_rfl) rfl rfl ?_
    intro K' hK'
    go_wp2_with fail
    refine (TY.out _ hS).mono ?_
    rintro e c5 ⟨rfl, g5⟩
    replace hS := hS.trans g5
    refine hK' _ _ ⟨fun _ => hS, ?_⟩
    clear hK' K' g5
    refine wpAnyN_one (i := 16) (by kernel_rfl) rfl rfl ?_
    intro K' hK'
    go_wp2_with fail
    refine (RY.out _ hS).mono ?_
    rintro e c5 ⟨rfl, g5⟩
    replace hS := hS.trans g5
    refine hK' _ _ ⟨fun _ => hS, ?_⟩
    clear hK' K' g5
    refine wpAnyN_one (i := 17) (by kernel_rfl) rfl rfl ?_
    intro K' hK'
    go_wp2_with fail
    refine ⟨fun _ => hS, ?_⟩
    refine wpAnyN_one (i := 18) (by kernel_rfl) rfl rfl ?_
    intro K' hK'
    go_wp2_with fail
    refine ⟨fun _ => hS, ?_⟩
    refine wpAnyN_one (i := 19) (by kernel_rfl) rfl rfl ?_
    intro K' hK'
    go_wp2_with fail
    refine ⟨fun _ => hS, ?_⟩
    refine wpAnyN_at (i := 20) (v := .agg #[.bool n.lf, .slice n.pa n.ps.length n.pc, .slice n.ta n.ts.length n.tc, .slice n.ka n.ks.length n.kc]) (some 31) rfl rfl (by kernel_rfl) (by kernel_rfl) (by kernel_rfl) (by kernel_rfl) (fun _ _ _ h => h) (Or.inl ⟨rfl, fun w' hS => by obtain ⟨n0, n1, n2, n3⟩ := BN.out w' hS; go_simp⟩) hS ?_
    simp only [Act.put, List.setIfInBounds_toArray, List.set_cons_succ, List.set_cons_zero]
    refine wpAnyN_at (i := 22) (v := .agg #[.bool n.lf, .slice n.pa n.ps.length n.pc, .slice n.ta n.ts.length n.tc, .slice n.ka n.ks.length n.kc]) (some 33) rfl rfl (by kernel_rfl) (by kernel_rfl) (by kernel_rfl) (by kernel_rfl) (fun _ _ _ h => h) (Or.inl ⟨rfl, fun w' hS => by obtain ⟨n0, n1, n2, n3⟩ := BN.out w' hS; go_simp⟩) hS ?_
    simp only [Act.put, List.setIfInBounds_toArray, List.set_cons_succ, List.set_cons_zero]
    refine wpAnyN_one (i := 21) (by kernel_rfl) rfl rfl ?_
    intro K' hK'
    go_wp2_with fail
    refine (TX.out _ hS).mono ?_
    rintro e c5 ⟨a1, k1, rfl, g5, hr1⟩
    have hS5 := hS.trans g5
    refine hK' _ _ ⟨fun _ => hS5, ?_⟩
    clear hK' K'
    refine wpAnyN_one (i := 23) (by kernel_rfl) rfl rfl ?_
    intro K' hK'
    go_wp2_with fail
    refine (RX.out c5 hS5).mono ?_
    rintro e c6 ⟨a2, k2, rfl, g6, hr2⟩
    have hS6 := hS5.trans g6
    have q1 := hr1.grew g6 (Nat.le_refl _)
    have q2 := hr2
    refine hK' _ _ ⟨fun _ => hS6, ?_⟩
    clear hK' K'
    have C := Lib.hid (same03_any a1 a2 k1 k2 tx tx c6 _ _ _ _ q1 q2 htl htl g6.size (Nat.le_refl _))
    rw [decide_eq_true rfl] at C
    clear q1 q2 hr1 hr2
    refine wpAnyN_one (i := 24) (by kernel_rfl) rfl rfl ?_
    intro K' hK'
    go_wp2_with fail
    refine C.out.mono ?_
    rintro e c7 ⟨rfl, g7⟩
    replace hS := hS6.trans g7
    refine hK' _ _ ⟨fun _ => hS, ?_⟩
    clear hK' K' C hS5 hS6 g5 g6 g7
    refine wpAnyN_one (i := 25) (by kernel_rfl) rfl rfl ?_
    intro K' hK'
    go_wp2_with fail
    refine ⟨fun _ => hS, ?_⟩
    refine wpAnyN_one (i := 26) (by kernel_rfl) rfl rfl ?_
    intro K' hK'
    go_wp2_with fail
    refine ⟨fun _ => hS, ?_⟩
    refine wpAnyN_at (i := 27) (v := .agg #[.bool x.lf, .slice x.pa x.ps.length x.pc, .slice x.ta x.ts.length x.tc, .slice x.ka x.ks.length x.kc]) (some 38) rfl rfl (by kernel_rfl) (by kernel_rfl) (by kernel_rfl) (by kernel_rfl) (fun _ _ _ h => h) (Or.inl ⟨rfl, fun w' hS => by obtain ⟨n0, n1, n2, n3⟩ := BX.out w' hS; go_simp⟩) hS ?_
    simp only [Act.put, List.setIfInBounds_toArray, List.set_cons_succ, List.set_cons_zero]
    refine wpAnyN_at (i := 28) (v := .agg #[.bool n.lf, .slice n.pa n.ps.length n.pc, .slice n.ta n.ts.length n.tc, .slice n.ka n.ks.length n.kc]) (some 39) rfl rfl (by kernel_rfl) (by kernel_rfl) (by kernel_rfl) (by kernel_rfl) (fun _ _ _ h => h) (Or.inl ⟨rfl, fun w' hS => by obtain ⟨n0, n1, n2, n3⟩ := BN.out w' hS; go_simp⟩) hS ?_
    simp only [Act.put, List.setIfInBounds_toArray, List.set_cons_succ, List.set_cons_zero]
    refine wpAnyN_one (i := 29) (by kernel_rfl) rfl rfl ?_
    intro K' hK'
    go_wp2_with fail
    refine (SA.out c7 hS).mono ?_
    rintro e c8 ⟨rfl, g8⟩
    replace hS := hS.trans g8
    refine hK' _ _ ⟨fun _ => hS, ?_⟩
    clear hK' K' g8
    refine wpAnyN_one (i := 30) (by kernel_rfl) rfl rfl ?_
    intro K' hK'
    go_wp2_with fail
    refine ⟨fun _ => hS, ?_⟩
    refine wpAnyN_one (i := 31) (by kernel_rfl) rfl rfl ?_
    intro K' hK'
    go_wp2_with fail
    refine ⟨fun _ => hS, ?_⟩
    refine wpAnyN_done (by kernel_rfl) ?_ _
    go_wp2_with fail
    go_ret
    exact ⟨rfl, G4.trans hS⟩
end Go.Proofs.YtdobncickipjjaaDoor
