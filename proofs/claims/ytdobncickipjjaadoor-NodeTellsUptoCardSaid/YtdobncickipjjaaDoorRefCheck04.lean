/- redlineref04.Size, check, Check: the contracts. -/
import Derived.Test.YtdobncickipjjaaDoorCheck04
import Derived.Test.YtdobncickipjjaaDoorRefCheck01
import Derived.Test.YtdobncickipjjaaDoorRefCheck03
namespace Go.Proofs.YtdobncickipjjaaDoor
open Go Go.RowKit

theorem kids_at (ks : List NT) (k : Nat) (h : k < ks.length) : (ks.map NT.er).take (k + 1) = (ks.map NT.er).take k ++ [(ks.getD k default).er] := by
  rw [List.take_succ_eq_append_getElem (by simpa using h)]
  simp [List.getD, List.getElem?_eq_getElem h]

set_option maxHeartbeats 1000000 in
theorem refSize_any (n : NT) : ∀ w : World, n.Ok w → n.er.bulk ≤ 1048576 →
    Calls Tryd.prog 12 #[n.val] w fun e w' => e = .returned (.int .i64 n.er.size) ∧ Grew w w' := by
  induction n using NT.ind with
  | h n ih =>
  intro w hn hb
  have HI := Lib.hid ih
  clear ih
  have hi := NT.In_iff.1 hn
  have hlens := n.lens
  have l2 : n.ts.length ≤ 1048576 := by omega
  have l3 : n.ks.length ≤ 1048576 := by omega
  have hsz := T.size_le n.er
  have HSZ := Lib.hid (T.size_eq n.er)
  have hbk : T.bulkAll (n.ks.map NT.er) ≤ 1048576 := by have := n.er.bulk_eq; simp only [NT.er_ps, NT.er_ts, NT.er_ks] at this; omega
  simp only [NT.er_ts, NT.er_ks] at HSZ
  have hsl : 1 + n.ts.length + T.sizes (n.ks.map NT.er) ≤ 1048576 := by have := HSZ.out; omega
  clear hlens hsz
  unfold NT.val
  go_enter Tryd.func12, Tryd.ntmps12
  go_wp2_with fail
  have hg1 := Grew.alloc1 w (Obj.cells #[.bool n.lf, .slice n.pa n.ps.length n.pc, .slice n.ta n.ts.length n.tc, .slice n.ka n.ks.length n.kc] 26)
  generalize w.alloc (Obj.cells #[.bool n.lf, .slice n.pa n.ps.length n.pc, .slice n.ta n.ts.length n.tc, .slice n.ka n.ks.length n.kc] 26) = w1 at *
  go_loopw [3, 13] (fun s i wr => ∃ (k : Nat), k ≤ n.ks.length ∧ i = .int .i64 k ∧ s = .int .i64 ((1 + n.ts.length + T.sizes ((n.ks.map NT.er).take k) : Nat) : Int) ∧ Grew w1 wr) (fun _ i _ => n.ks.length - (intOf i).toNat)
  case atStart => exact ⟨0, by omega, rfl, by simp [T.sizes], Grew.refl _⟩
  case round =>
    obtain ⟨k, hk, rfl, rfl, hg⟩ := hrel
    have hsl1 := T.sizes_take_le (n.ks.map NT.er) k
    by_cases hlt : k < n.ks.length
    · have hsl2 := T.sizes_take_le (n.ks.map NT.er) (k + 1)
      have HS1 : Hid (T.sizes ((n.ks.map NT.er).take (k + 1)) = T.sizes ((n.ks.map NT.er).take k) + (n.ks.getD k default).er.size) := by
        show _ = _
        rw [kids_at _ _ hlt, T.sizes_append]; simp [T.sizes]
      rw [HS1.out] at hsl2
      have hkk := hi.2.2.grew (hg1.trans hg) (Nat.le_refl _)
      obtain ⟨b, o, hka, _, hbh, hc0, hc1, hc2, hc3⟩ := hkk.at hlt
      have hmem := getD_mem n.ks k hlt
      have hkx : (n.ks.getD k default).Ok wr := NT.In.ok (hkk.2 _ hmem) (hg1.trans hg).size
      have hbx := T.bulk_mem (er_mem hmem)
      have CX := Lib.hid (fun w' (hg : Grew wr w') => HI.out _ hmem w' (hkx.grew hg) (by omega))
      generalize n.ks.getD k default = x at *
      generalize T.sizes ((n.ks.map NT.er).take k) = sk at *
      generalize n.ka = ka at *
      subst hka
      clear HI
      go_wp2_with fail
      refine (CX.out _ (Grew.alloc1 _ _)).mono ?_
      rintro e w4 ⟨rfl, g4⟩
      go_wp2_with fail
      go_roundw
      case rel => exact ⟨k + 1, by omega, by go_num, by rw [HS1.out]; go_num, hg.trans ((Grew.alloc1 _ _).trans g4)⟩
      case measure => simp [intOf]; omega
    · have HK : (n.ks.map NT.er).take k = n.ks.map NT.er := List.take_of_length_le (by simp; omega)
      have hge : n.ks.length ≤ k := by omega
      rw [HK] at hsl1 ⊢
      clear HK HI
      go_wp2_with fail
      go_ret
      exact ⟨ret_int (by rw [HSZ.out]), hg1.trans hg⟩

/-- neither a leaf with Kids nor an element with text -/
def NT.bad (n : NT) : Bool := (n.lf && decide (0 < n.ks.length)) || (!n.lf && decide (0 < n.ts.length))
theorem own_bad {n : NT} (h1 : checkPs n.ps = 0) (h2 : n.bad = true) : n.er.own = 7 := by
  have : n.bad = ((n.er.lf && decide (0 < n.er.ks.length)) || (!n.er.lf && decide (0 < n.er.ts.length))) := by simp [NT.bad]
  rw [this] at h2
  unfold T.own
  rw [NT.er_ps, h1, h2]; rfl
theorem own_good {n : NT} (h1 : checkPs n.ps = 0) (h2 : n.bad = false) : n.er.own = checkRs n.ts := by
  have : n.bad = ((n.er.lf && decide (0 < n.er.ks.length)) || (!n.er.lf && decide (0 < n.er.ts.length))) := by simp [NT.bad]
  rw [this] at h2
  unfold T.own
  rw [NT.er_ps, h1, h2, NT.er_ts]; rfl
theorem own_first {n : NT} (h1 : checkPs n.ps ≠ 0) : n.er.own = checkPs n.ps := by
  unfold T.own
  rw [NT.er_ps, if_pos h1]
theorem chk_own {n : NT} (h : n.er.own ≠ 0) : n.er.chk = n.er.own := by rw [T.chk_eq, if_pos h]
theorem chk_kids {n : NT} (h : n.er.own = 0) : n.er.chk = T.chks (n.ks.map NT.er) := by rw [T.chk_eq, if_neg (by simp [h]), NT.er_ks]
theorem chks_bad (l : List T) (k : Nat) (x : T) (hx : l[k]? = some x) (h : T.chks (l.take k) = 0) (hne : x.chk ≠ 0) : T.chks l = x.chk := by
  induction l generalizing k with
  | nil => simp at hx
  | cons y r ih =>
    cases k with
    | zero =>
      obtain rfl : y = x := by simpa using hx
      simp [T.chks, hne]
    | succ k =>
      simp only [List.take_succ_cons, T.chks] at h
      by_cases h0 : y.chk = 0
      · simp only [h0, ne_eq, not_true_eq_false, ↓reduceIte] at h
        simp [T.chks, h0, ih k (by simpa using hx) h]
      · simp [h0] at h
theorem chks_good (l : List T) (k : Nat) (x : T) (hx : l[k]? = some x) (h : T.chks (l.take k) = 0) (h0 : x.chk = 0) : T.chks (l.take (k + 1)) = 0 := by
  induction l generalizing k with
  | nil => simp at hx
  | cons y r ih =>
    cases k with
    | zero =>
      obtain rfl : y = x := by simpa using hx
      simp [T.chks, h0]
    | succ k =>
      simp only [List.take_succ_cons, T.chks] at h ⊢
      by_cases h1 : y.chk = 0
      · simp only [h1, ne_eq, not_true_eq_false, ↓reduceIte] at h ⊢
        exact ih k (by simpa using hx) h
      · simp [h1] at h

set_option maxHeartbeats 2000000 in
theorem refChk_any (n : NT) : ∀ w : World, n.Ok w → n.er.bulk ≤ 1048576 →
    Calls Tryd.prog 35 #[n.val] w fun e w' => e = .returned (.int .i64 n.er.chk) ∧ Grew w w' := by
  induction n using NT.ind with
  | h n ih =>
  intro w hn hb
  have HI := Lib.hid ih
  clear ih
  have hi := NT.In_iff.1 hn
  have hlens := n.lens
  have hpb : propsBulk n.ps ≤ 1048576 := by have := n.er.bulk_eq; simp only [NT.er_ps, NT.er_ts, NT.er_ks] at this; omega
  have l2 : n.ts.length ≤ 1048576 := by omega
  have l3 : n.ks.length ≤ 1048576 := by omega
  have hbk : T.bulkAll (n.ks.map NT.er) ≤ 1048576 := by have := n.er.bulk_eq; simp only [NT.er_ps, NT.er_ts, NT.er_ks] at this; omega
  clear hlens
  have C1 := Lib.hid (fun w' (hg : Grew w w') => refCheck01_any n.ps n.pa n.pc w' _ _ (hi.1.grew hg (Nat.le_refl _)) hg.size hpb)
  have C3 := Lib.hid (fun w' (hg : Grew w w') => refCheck03_any n.ts n.ta n.tc w' _ _ (hi.2.1.grew hg (Nat.le_refl _)) hg.size l2)
  have O1 := Lib.hid (own_first (n := n))
  have O2 := Lib.hid (own_bad (n := n))
  have O3 := Lib.hid (own_good (n := n))
  generalize checkPs n.ps = cp at *
  by_cases hz : cp = 0
  · subst hz
    have O2' := Lib.hid (O2.out rfl)
    have O3' := Lib.hid (O3.out rfl)
    clear O1 O2 O3
    unfold NT.val
    go_enter Tryd.func35, Tryd.ntmps35
    go_wp2_with fail
    refine (C1.out _ (Grew.alloc1 _ _)).mono ?_
    rintro e w1 ⟨rfl, g1⟩
    have g1' := (Grew.alloc1 _ _).trans g1
    obtain ⟨c0, c1, c2, c3, z1⟩ := box4 g1
    clear C1
    go_upto_region 4 with fail
    go_cut [32] (fun s wx => s = .bool n.bad ∧ Grew w1 wx)
    case first =>
      rcases Bool.eq_false_or_eq_true n.lf with hlf | hlf
      · by_cases hk : 0 < n.ks.length
        · have HB : Hid (n.bad = true) := by show _ = _; simp [NT.bad, hlf, hk]
          rw [hlf] at c0
          clear hlf
          go_wp2_with fail
          go_meet
          exact ⟨by rw [HB.out], Grew.refl _⟩
        · have HB : Hid (n.bad = false) := by show _ = _; simp [NT.bad, hlf, hk]
          have hk0 : n.ks.length = 0 := by omega
          have HS := Lib.hid (show Value.slice n.ka 0 n.kc = Value.slice n.ka n.ks.length n.kc by rw [hk0])
          rw [hlf] at c0
          clear hlf hk
          go_wp2_with fail
          rw [HS.out]
          go_meet
          exact ⟨by rw [HB.out], Grew.refl _⟩
      · by_cases hk : 0 < n.ts.length
        · have HB : Hid (n.bad = true) := by show _ = _; simp [NT.bad, hlf, hk]
          rw [hlf] at c0
          clear hlf
          go_wp2_with fail
          go_meet
          exact ⟨by rw [HB.out], Grew.refl _⟩
        · have HB : Hid (n.bad = false) := by show _ = _; simp [NT.bad, hlf, hk]
          have hk0 : n.ts.length = 0 := by omega
          have HS := Lib.hid (show Value.slice n.ta 0 n.tc = Value.slice n.ta n.ts.length n.tc by rw [hk0])
          rw [hlf] at c0
          clear hlf hk
          go_wp2_with fail
          rw [HS.out]
          go_meet
          exact ⟨by rw [HB.out], Grew.refl _⟩
    case rest =>
      obtain ⟨rfl, gc⟩ := hcut
      have g2' := g1'.trans gc
      obtain ⟨d0, d1, d2, d3, z2⟩ := box4 (g1.trans gc)
      clear c0 c1 c2 c3
      cases hbad : n.bad with
      | true =>
        have HE : Hid (n.er.chk = 7) := by
          show _ = _
          have := O2'.out hbad
          rw [chk_own (by rw [this]; decide), this]
        go_wp2_with fail
        go_ret
        exact ⟨ret_int HE.out.symm, g2'⟩
      | false =>
        have HO := Lib.hid (O3'.out hbad)
        clear O2' O3'
        go_wp2_with fail
        refine (C3.out _ g2').mono ?_
        rintro e w3 ⟨rfl, g3⟩
        have g3' := g2'.trans g3
        obtain ⟨c0, c1, c2, c3, z3⟩ := box4 ((g1.trans gc).trans g3)
        clear d0 d1 d2 d3
        by_cases hr : checkRs n.ts = 0
        · have HCK := Lib.hid (chk_kids (HO.out.trans hr))
          rw [hr] at *
          clear hr HO C3
          go_wp2_with fail
          go_loopw [42] (fun i wr => ∃ (k : Nat), k ≤ n.ks.length ∧ i = .int .i64 k ∧ Grew w3 wr ∧ Hid (T.chks ((n.ks.map NT.er).take k) = 0)) (fun i _ => n.ks.length - (intOf i).toNat)
          case atStart => exact ⟨0, by omega, rfl, Grew.refl _, (show T.chks (List.take 0 _) = 0 by simp [T.chks])⟩
          case round =>
            obtain ⟨k, hk, rfl, hg, hc⟩ := hrel
            by_cases hlt : k < n.ks.length
            · have hx : (n.ks.map NT.er)[k]? = some (n.ks.getD k default).er := by rw [List.getElem?_map, List.getElem?_eq_getElem hlt]; simp [List.getD, List.getElem?_eq_getElem hlt]
              have HBAD := Lib.hid (fun h => HCK.out.trans (chks_bad _ k _ hx hc.out h))
              have HGOOD := Lib.hid (fun h => chks_good _ k _ hx hc.out h)
              have hkk := hi.2.2.grew (g3'.trans hg) (Nat.le_refl _)
              obtain ⟨b, o, hka, _, hbh, hc0, hc1, hc2, hc3⟩ := hkk.at hlt
              have hmem := getD_mem n.ks k hlt
              have hkx : (n.ks.getD k default).Ok wr := NT.In.ok (hkk.2 _ hmem) (g3'.trans hg).size
              have hbx := T.bulk_mem (er_mem hmem)
              have CX := Lib.hid (fun w' (hg : Grew wr w') => HI.out _ hmem w' (hkx.grew hg) (by omega))
              clear hx hc
              generalize n.ks.getD k default = x at *
              generalize n.ka = ka at *
              subst hka
              clear HI
              go_wp2_with fail
              refine (CX.out _ (Grew.alloc1 _ _)).mono ?_
              rintro e w4 ⟨rfl, g4⟩
              by_cases hv : x.er.chk = 0
              · have HN := Lib.hid (HGOOD.out hv)
                rw [hv]
                clear hv HBAD HGOOD
                go_wp2_with fail
                go_roundw
                case rel => exact ⟨k + 1, by omega, by go_num, hg.trans ((Grew.alloc1 _ _).trans g4), HN⟩
                case measure => simp [intOf]; omega
              · have HN := Lib.hid (HBAD.out hv)
                have hne : (x.er.chk != 0) = true := by simpa using hv
                clear HBAD HGOOD
                go_wp2_with fail
                go_ret
                exact ⟨ret_int HN.out.symm, g3'.trans (hg.trans ((Grew.alloc1 _ _).trans g4))⟩
            · have hge : n.ks.length ≤ k := by omega
              have HN : Hid (n.er.chk = 0) := by
                show _ = _
                have := hc.out
                rw [List.take_of_length_le (by simp; omega)] at this
                rw [HCK.out, this]
              clear HI
              go_wp2_with fail
              go_ret
              exact ⟨ret_int HN.out.symm, g3'.trans hg⟩
        · have HE : Hid (n.er.chk = checkRs n.ts) := by
            show _ = _
            rw [chk_own (by rw [HO.out]; exact hr), HO.out]
          have hne : (checkRs n.ts != 0) = true := by simpa using hr
          clear HO C3
          generalize checkRs n.ts = cr at *
          go_wp2_with fail
          go_ret
          exact ⟨ret_int HE.out.symm, g3'⟩
  · have HE : Hid (n.er.chk = cp) := by
      show _ = _
      have := O1.out hz
      rw [chk_own (by rw [this]; exact hz), this]
    have hne : (cp != 0) = true := by simpa using hz
    clear O1 O2 O3
    unfold NT.val
    go_enter Tryd.func35, Tryd.ntmps35
    go_wp2_with fail
    refine (C1.out _ (Grew.alloc1 _ _)).mono ?_
    rintro e w1 ⟨rfl, g1⟩
    go_wp2_with fail
    go_ret
    exact ⟨ret_int HE.out.symm, (Grew.alloc1 _ _).trans g1⟩

set_option maxHeartbeats 1000000 in
theorem refCheck04_any (n : NT) (w : World) (hn : n.Ok w) (hb : n.er.bulk ≤ 1048576) :
    Calls Tryd.prog 13 #[n.val] w fun e w' => e = .returned (.int .i64 n.er.chk) ∧ Grew w w' := by
  have SZ := Lib.hid (fun w' (hg : Grew w w') => refSize_any n w' (hn.grew hg) hb)
  have CK := Lib.hid (fun w' (hg : Grew w w') => refChk_any n w' (hn.grew hg) hb)
  have hle : n.er.size ≤ 1048576 := by have := T.size_le n.er; omega
  generalize n.er.size = sz at *
  unfold NT.val
  go_enter Tryd.func13, Tryd.ntmps13
  go_wp2_with fail
  refine (SZ.out _ (Grew.alloc1 _ _)).mono ?_
  rintro e w1 ⟨rfl, g1⟩
  have g1' := (Grew.alloc1 _ _).trans g1
  obtain ⟨c0, c1, c2, c3, z1⟩ := box4 g1
  go_wp2_with fail
  refine (CK.out _ g1').mono ?_
  rintro e w2 ⟨rfl, g2⟩
  go_wp2_with fail
  go_ret
  exact ⟨rfl, g1'.trans g2⟩
end Go.Proofs.YtdobncickipjjaaDoor
