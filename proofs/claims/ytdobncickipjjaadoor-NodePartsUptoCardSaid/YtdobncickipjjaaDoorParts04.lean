/- THE LAW redlinelaw04.NodeParts: the contract. -/
import Derived.Test.YtdobncickipjjaaDoorLive
import Derived.Test.YtdobncickipjjaaDoorLeft
import Derived.Test.YtdobncickipjjaaDoorCheck04
import Derived.Deep.DeepCutAuto
namespace Go.Proofs.YtdobncickipjjaaDoor
open Go Go.RowKit

theorem chks_take (l : List T) (k : Nat) (x : T) (h : l[k]? = some x) : (T.chks (l.take (k + 1)) = 0) ↔ (T.chks (l.take k) = 0 ∧ x.chk = 0) := by
  induction l generalizing k with
  | nil => simp at h
  | cons y r ih =>
    cases k with
    | zero =>
      obtain rfl : y = x := by simpa using h
      simp only [List.take_succ_cons, List.take_zero, T.chks]
      by_cases h0 : y.chk = 0 <;> simp [h0]
    | succ k =>
      have := ih k (by simpa using h)
      simp only [List.take_succ_cons, T.chks]
      by_cases h0 : y.chk = 0
      · simpa [h0] using this
      · simp [h0]

set_option maxHeartbeats 1000000 in
theorem nodeParts_any (n : NT) (w : World) (hn : n.Ok w) (hb : n.er.bulk ≤ 1048576) :
    Calls Tryd.prog 3 #[n.val] w fun e w' => e = .returned (.bool true) ∧ Grew w w' := by
  have FW := Lib.hid (fun w hn => few_any n w 200 hn hb (by omega) (by omega))
  have hi := NT.In_iff.1 hn
  have hlens := n.lens
  have hpb : propsBulk n.ps ≤ 1048576 := by have := n.er.bulk_eq; simp only [NT.er_ps, NT.er_ts, NT.er_ks] at this; omega
  have l2 : n.ts.length ≤ 1048576 := by omega
  have l3 : n.ks.length ≤ 1048576 := by omega
  clear hlens
  cases hf : few n.er 200 with
  | false =>
    rw [hf] at FW
    clear hf
    unfold NT.val
    go_enter Tryd.func3, Tryd.ntmps3
    go_wp2_with fail
    refine (live04_any _).mono ?_
    rintro e w1 ⟨rfl, g1⟩
    have g1' := (Grew.alloc1 _ _).trans g1
    have C := Lib.hid (FW.out w1 (hn.grew g1'))
    obtain ⟨c0, c1, c2, c3, z1⟩ := box4 g1
    go_wp2_with fail
    refine C.out.mono ?_
    rintro e w2 ⟨rfl, g2⟩
    go_wp2_with fail
    go_ret
    exact ⟨rfl, g1'.trans g2⟩
  | true =>
    rw [hf] at FW
    clear hf
    have C1 := Lib.hid (fun w' (hg : Grew w w') => check01_any n.ps n.pa n.pc w' _ _ (hi.1.grew hg (Nat.le_refl _)) hg.size hpb)
    have C3 := Lib.hid (fun w' (hg : Grew w w') => check03_any n.ts n.ta n.tc w' _ _ (hi.2.1.grew hg (Nat.le_refl _)) hg.size l2)
    have CN := Lib.hid (fun w' (hg : Grew w w') => check04_any n w' (hn.grew hg) hb)
    have HO : Hid (n.er.own = if checkPs n.ps ≠ 0 then checkPs n.ps else if (n.lf && decide (0 < n.ks.length)) || (!n.lf && decide (0 < n.ts.length)) then 7 else checkRs n.ts) := by
      show _ = _
      simp [T.own]
    have HC : Hid (n.er.chk = if n.er.own ≠ 0 then n.er.own else T.chks (n.ks.map NT.er)) := by
      show _ = _
      rw [T.chk_eq, NT.er_ks]
    have hbk : T.bulkAll (n.ks.map NT.er) ≤ 1048576 := by have := n.er.bulk_eq; simp only [NT.er_ps, NT.er_ts, NT.er_ks] at this; omega
    unfold NT.val
    go_enter Tryd.func3, Tryd.ntmps3
    go_wp2_with fail
    refine (live04_any _).mono ?_
    rintro e w1 ⟨rfl, g1⟩
    have g1' := (Grew.alloc1 _ _).trans g1
    have C := Lib.hid (FW.out w1 (hn.grew g1'))
    obtain ⟨c0, c1, c2, c3, z1⟩ := box4 g1
    go_wp2_with fail
    refine C.out.mono ?_
    rintro e w2 ⟨rfl, g2⟩
    clear c0 c1 c2 c3 C FW
    obtain ⟨c0, c1, c2, c3, z2⟩ := box4 (g1.trans g2)
    have g2' := g1'.trans g2
    go_upto_region 5 with fail
    go_cut [3] (fun s3 wx => s3 = .bool (decide (n.er.own = 0)) ∧ Grew w2 wx)
    case first =>
      generalize hcp : checkPs n.ps = cp at *
      generalize hcr : checkRs n.ts = cr at *
      clear hcp hcr HC CN
      by_cases hz : cp = 0
      · by_cases hr : cr = 0
        · subst hz hr
          rcases Bool.eq_false_or_eq_true n.lf with hlf | hlf
          · by_cases hk : n.ks.length = 0
            · have HE : Hid (true = decide (n.er.own = 0)) := by show _ = _; rw [HO.out]; simp [hlf, hk]
              have e0 : ((n.ks.length : Int) == 0) = true := by simp [hk]
              clear HO hk
              have HLF := Lib.hid hlf
              clear hlf
              go_wp2_with fail
              refine (C1.out _ g2').mono ?_
              rintro e w3 ⟨rfl, g3⟩
              obtain ⟨d0, d1, d2, d3, z3⟩ := box4 ((g1.trans g2).trans g3)
              go_wp2_with fail
              refine (C3.out _ (g2'.trans g3)).mono ?_
              rintro e w4 ⟨rfl, g4⟩
              clear d0 d1 d2 d3 c0 c1 c2 c3
              obtain ⟨d0, d1, d2, d3, z4⟩ := box4 (((g1.trans g2).trans g3).trans g4)
              rw [HLF.out] at d0
              go_wp2_with fail
              go_meet
              exact ⟨by rw [HE.out], g3.trans g4⟩
            · have HE : Hid (false = decide (n.er.own = 0)) := by show _ = _; rw [HO.out]; simp [hlf, hk]
              have e0 : ((n.ks.length : Int) == 0) = false := by simp [hk]
              clear HO hk
              have HLF := Lib.hid hlf
              clear hlf
              go_wp2_with fail
              refine (C1.out _ g2').mono ?_
              rintro e w3 ⟨rfl, g3⟩
              obtain ⟨d0, d1, d2, d3, z3⟩ := box4 ((g1.trans g2).trans g3)
              go_wp2_with fail
              refine (C3.out _ (g2'.trans g3)).mono ?_
              rintro e w4 ⟨rfl, g4⟩
              clear d0 d1 d2 d3 c0 c1 c2 c3
              obtain ⟨d0, d1, d2, d3, z4⟩ := box4 (((g1.trans g2).trans g3).trans g4)
              rw [HLF.out] at d0
              go_wp2_with fail
              go_meet
              exact ⟨by rw [HE.out], g3.trans g4⟩
          · by_cases hk : n.ts.length = 0
            · have HE : Hid (true = decide (n.er.own = 0)) := by show _ = _; rw [HO.out]; simp [hlf, hk]
              have e0 : ((n.ts.length : Int) == 0) = true := by simp [hk]
              clear HO hk
              have HLF := Lib.hid hlf
              clear hlf
              go_wp2_with fail
              refine (C1.out _ g2').mono ?_
              rintro e w3 ⟨rfl, g3⟩
              obtain ⟨d0, d1, d2, d3, z3⟩ := box4 ((g1.trans g2).trans g3)
              go_wp2_with fail
              refine (C3.out _ (g2'.trans g3)).mono ?_
              rintro e w4 ⟨rfl, g4⟩
              clear d0 d1 d2 d3 c0 c1 c2 c3
              obtain ⟨d0, d1, d2, d3, z4⟩ := box4 (((g1.trans g2).trans g3).trans g4)
              rw [HLF.out] at d0
              go_wp2_with fail
              go_meet
              exact ⟨by rw [HE.out], g3.trans g4⟩
            · have HE : Hid (false = decide (n.er.own = 0)) := by show _ = _; rw [HO.out]; simp [hlf, hk]
              have e0 : ((n.ts.length : Int) == 0) = false := by simp [hk]
              clear HO hk
              have HLF := Lib.hid hlf
              clear hlf
              go_wp2_with fail
              refine (C1.out _ g2').mono ?_
              rintro e w3 ⟨rfl, g3⟩
              obtain ⟨d0, d1, d2, d3, z3⟩ := box4 ((g1.trans g2).trans g3)
              go_wp2_with fail
              refine (C3.out _ (g2'.trans g3)).mono ?_
              rintro e w4 ⟨rfl, g4⟩
              clear d0 d1 d2 d3 c0 c1 c2 c3
              obtain ⟨d0, d1, d2, d3, z4⟩ := box4 (((g1.trans g2).trans g3).trans g4)
              rw [HLF.out] at d0
              go_wp2_with fail
              go_meet
              exact ⟨by rw [HE.out], g3.trans g4⟩
        · subst hz
          have hne : (cr == 0) = false := by simpa using hr
          have HE : Hid (false = decide (n.er.own = 0)) := by
            show _ = _
            rw [HO.out]
            symm
            rw [decide_eq_false_iff_not]
            simp only [ne_eq, not_true_eq_false, ↓reduceIte]
            split
            · decide
            · exact hr
          clear HO hr
          go_wp2_with fail
          refine (C1.out _ g2').mono ?_
          rintro e w3 ⟨rfl, g3⟩
          obtain ⟨d0, d1, d2, d3, z3⟩ := box4 ((g1.trans g2).trans g3)
          go_wp2_with fail
          refine (C3.out _ (g2'.trans g3)).mono ?_
          rintro e w4 ⟨rfl, g4⟩
          go_wp2_with fail
          go_meet
          exact ⟨by rw [HE.out], g3.trans g4⟩
      · have hne : (cp == 0) = false := by simpa using hz
        have HE : Hid (false = decide (n.er.own = 0)) := by
          show _ = _
          rw [HO.out]
          simp [hz]
        clear HO hz
        go_wp2_with fail
        refine (C1.out _ g2').mono ?_
        rintro e w3 ⟨rfl, g3⟩
        go_wp2_with fail
        go_meet
        exact ⟨by rw [HE.out], g3⟩
    case rest =>
      obtain ⟨rfl, g3⟩ := hcut
      have g3' := g2'.trans g3
      obtain ⟨d0, d1, d2, d3, z3⟩ := box4 ((g1.trans g2).trans g3)
      clear c0 c1 c2 c3 C1 C3 HO
      have h0 : decide (n.er.own = 0) = decide (n.er.own = 0 ∧ T.chks ((n.ks.map NT.er).take 0) = 0) := by simp [T.chks]
      rw [h0]
      clear h0
      go_wp2_with fail
      go_loopw [3, 45] (fun m i wr => ∃ (k : Nat), k ≤ n.ks.length ∧ i = .int .i64 k ∧ m = .bool (decide (n.er.own = 0 ∧ T.chks ((n.ks.map NT.er).take k) = 0)) ∧ Grew wc wr) (fun _ i _ => n.ks.length - (intOf i).toNat)
      case atStart => exact ⟨0, by omega, rfl, rfl, Grew.refl _⟩
      case round =>
        obtain ⟨k, hk, rfl, rfl, hg⟩ := hrel
        by_cases hlt : k < n.ks.length
        · have hTK := chks_take (n.ks.map NT.er) k (n.ks.getD k default).er (by rw [List.getElem?_map, List.getElem?_eq_getElem hlt]; simp [List.getD, List.getElem?_eq_getElem hlt])
          have hkk := hi.2.2.grew (g3'.trans hg) (Nat.le_refl _)
          obtain ⟨b, o, hka, _, hbh, hc0, hc1, hc2, hc3⟩ := hkk.at hlt
          have hmem := getD_mem n.ks k hlt
          have hkx : (n.ks.getD k default).Ok wr := NT.In.ok (hkk.2 _ hmem) (g3'.trans hg).size
          have hbx := T.bulk_mem (er_mem hmem)
          have CX := Lib.hid (fun w' (hg : Grew wr w') => check04_any (n.ks.getD k default) w' (hkx.grew hg) (by omega))
          generalize n.ks.getD k default = x at *
          generalize n.ka = ka at *
          subst hka
          by_cases hq : n.er.own = 0 ∧ T.chks ((n.ks.map NT.er).take k) = 0
          · have h1 : decide (n.er.own = 0 ∧ T.chks ((n.ks.map NT.er).take k) = 0) = true := decide_eq_true hq
            have HM : Hid ((x.er.chk == 0) = decide (n.er.own = 0 ∧ T.chks ((n.ks.map NT.er).take (k + 1)) = 0)) := by
              show _ = _
              rw [Bool.eq_iff_iff, decide_eq_true_iff, hTK]
              simp [hq.1, hq.2]
            rw [h1]
            clear h1 hq hTK
            go_wp2_with fail
            refine (CX.out _ (Grew.alloc1 _ _)).mono ?_
            rintro e w4 ⟨rfl, g4⟩
            go_wp2_with fail
            go_roundw
            case rel => exact ⟨k + 1, by omega, by go_num, by rw [← HM.out], hg.trans ((Grew.alloc1 _ _).trans g4)⟩
            case measure => simp [intOf]; omega
          · have h1 : decide (n.er.own = 0 ∧ T.chks ((n.ks.map NT.er).take k) = 0) = false := decide_eq_false hq
            have HM : Hid (false = decide (n.er.own = 0 ∧ T.chks ((n.ks.map NT.er).take (k + 1)) = 0)) := by
              show _ = _
              symm
              rw [decide_eq_false_iff_not, hTK]
              rintro ⟨h2, h3, _⟩
              exact hq ⟨h2, h3⟩
            rw [h1]
            clear h1 hq hTK
            go_wp2_with fail
            go_roundw
            case rel => exact ⟨k + 1, by omega, by go_num, by rw [← HM.out], hg.trans (Grew.alloc1 _ _)⟩
            case measure => simp [intOf]; omega
        · have HK : (n.ks.map NT.er).take k = n.ks.map NT.er := List.take_of_length_le (by simp; omega)
          have hge : n.ks.length ≤ k := by omega
          have HM : Hid (decide (n.er.own = 0 ∧ T.chks (n.ks.map NT.er) = 0) = (n.er.chk == 0)) := by
            show _ = _
            rw [Bool.eq_iff_iff, decide_eq_true_iff, HC.out]
            by_cases h : n.er.own = 0 <;> simp [h]
          rw [HK, HM.out]
          clear HK HM HC
          obtain ⟨c0, c1, c2, c3, z4⟩ := box4 (((g1.trans g2).trans g3).trans hg)
          generalize hcv : n.er.chk = cv at *
          clear d0 d1 d2 d3 hcv
          go_wp2_with fail
          refine (CN.out _ (g3'.trans hg)).mono ?_
          rintro e w4 ⟨rfl, g4⟩
          go_wp2_with fail
          go_ret
          exact ⟨ret_bool (by simp), (g3'.trans hg).trans g4⟩
end Go.Proofs.YtdobncickipjjaaDoor
