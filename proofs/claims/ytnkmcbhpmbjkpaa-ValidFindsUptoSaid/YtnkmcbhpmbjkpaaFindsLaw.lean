/- The law redlinelaw16.ValidFinds: the contract. -/
import Derived.Test.YtnkmcbhpmbjkpaaRefWrongAll
import Derived.Test.YtnkmcbhpmbjkpaaRef02
namespace Go.Proofs.Ytnkmcbhpmbjkpaa
open Go Go.RowKit

theorem wrong_count {s : SN} {n : NT} {ls : List PN} (h : ls.map PN.l = wrongT s.er n.er) (hb : n.er.bulk ≤ 1048576) : ls.length ≤ 1048576 := by
  have h1 := congrArg List.length h
  have h2 := T.paths_le n.er []
  have h3 : (wrongT s.er n.er).length ≤ (n.er.paths []).length := List.length_filter_le _ _
  rw [List.length_map] at h1
  omega
theorem wrong_short {s : SN} {n : NT} {ls : List PN} (h : ls.map PN.l = wrongT s.er n.er) (hb : n.er.bulk ≤ 1048576) : ∀ p ∈ ls, p.l.length ≤ 1048576 := fun p hp => by
  have hm : p.l ∈ wrongT s.er n.er := by rw [← h]; exact List.mem_map_of_mem hp
  have := paths_depth n.er [] p.l (List.mem_filter.1 hm).1
  simp only [List.length_nil] at this
  omega
set_option maxHeartbeats 40000000 in
set_option maxRecDepth 100000 in
theorem finds_any (s : SN) (n : NT) (w : World) (hs : s.Ok w) (hsm : s.Small) (hn : n.Ok w) (hb : n.er.bulk ≤ 1048576) :
    Calls Try.prog 5 #[s.val, n.val] w fun e w' => e = .returned (.bool true) ∧ Grew w w' := by
  have CL := Lib.hid (fun w1 : World => live16_any w1)
  have CW := Lib.hid (fun w1 (hg : Grew w w1) => few16_any s n w1 (hs.grew hg) hsm (hn.grew hg) hb)
  have CF := Lib.hid (fun w1 (hg : Grew w w1) => find_any s n w1 (hs.grew hg) hsm (hn.grew hg) hb)
  have CF2 := Lib.hid (fun w1 (hg : Grew w w1) => refFind_any s n w1 (hs.grew hg) hsm (hn.grew hg) hb)
  have CWa := Lib.hid (fun w1 (hg : Grew w w1) => wrong_any s n w1 (hs.grew hg) hsm (hn.grew hg) hb)
  have CW2 := Lib.hid (fun w1 (hg : Grew w w1) => refWrongAll_any s n w1 (hs.grew hg) hsm (hn.grew hg) hb)
  have CV1 := Lib.hid (fun w1 (hg : Grew w w1) => valid_any s hsm n w1 (hs.grew hg) (hn.grew hg) hb)
  have CV2 := Lib.hid (fun w1 (hg : Grew w w1) => refValid_any s n w1 (hs.grew hg) hsm (hn.grew hg) hb)
  have hB0 := LawBox.new w s n
  unfold SN.val at *
  unfold NT.val at CW CF CF2 CWa CW2 CV1 CV2 ⊢
  go_enter Try.func5, Try.ntmps5
  go_wp2_with fail
  generalize (w.alloc (.cells #[.slice s.ra s.rules.length s.rc, .string s.els.ty, .int .i64 s.els.td, .string s.els.tt, .int .i64 s.els.od, .string s.els.ot, .slice s.els.ka s.els.kids.length s.els.kc, .int .i64 s.els.fill, .string s.els.ft, .int .i64 s.o0, .int .i64 s.o1, .int .i64 s.o2, .int .i64 s.o3, .int .i64 s.o4, .int .i64 s.o5, .int .i64 s.cap] 30)).alloc (.cells #[.bool n.lf, .slice n.pa n.ps.length n.pc, .slice n.ta n.ts.length n.tc, .slice n.ka n.ks.length n.kc] 35) = w1 at *
  refine (CL.out w1).mono ?_
  rintro e w2 ⟨rfl, g2⟩
  have hB2 := hB0.next g2
  have C := Lib.hid (CW.out w2 hB2.1)
  have HB2 := Lib.hid hB2
  obtain ⟨_, _, ⟨s0, s1, s2, s3, s4, s5, s6, s7, s8, s9, s10, s11, s12, s13, s14, s15⟩, ⟨n0, n1, n2, n3⟩⟩ := hB2
  clear hB0 g2
  go_wp2_with fail
  refine C.out.mono ?_
  clear s0 s1 s2 s3 s4 s5 s6 s7 s8 s9 s10 s11 s12 s13 s14 s15 n0 n1 n2 n3
  rintro e w3 ⟨b, rfl, g3⟩
  have hB3 := HB2.out.next g3
  clear g3 C HB2
  cases b with
  | false =>
    go_wp2_with fail
    go_ret
    exact ⟨rfl, hB3.1⟩
  | true =>
    as_aux_lemma =>
      go_upto_region 5 with fail
      have hS0 : LawBox w s n w3.drew := hB3.next (Grew.refl _).drew
      refine wp_region_need (LawBox w s n) (fun j => j.blt 25) (by kernel_rfl) ?_
      generalize w3.drew = c0 at *
      clear hB3
      as_aux_lemma =>
        refine wpAnyN_at (i := 0) (v := .agg #[.slice s.ra s.rules.length s.rc, .string s.els.ty, .int .i64 s.els.td, .string s.els.tt, .int .i64 s.els.od, .string s.els.ot, .slice s.els.ka s.els.kids.length s.els.kc, .int .i64 s.els.fill, .string s.els.ft, .int .i64 s.o0, .int .i64 s.o1, .int .i64 s.o2, .int .i64 s.o3, .int .i64 s.o4, .int .i64 s.o5, .int .i64 s.cap]) (some 11) rfl rfl (by kernel_rfl) (by kernel_rfl) (by kernel_rfl) (by kernel_rfl) (fun _ _ _ h => h) (Or.inl ⟨rfl, fun w' hS => by obtain ⟨_, _, ⟨s0, s1, s2, s3, s4, s5, s6, s7, s8, s9, s10, s11, s12, s13, s14, s15⟩, _⟩ := hS; go_simp⟩) hS0 ?_
        simp only [Act.put, List.setIfInBounds_toArray, List.set_cons_succ, List.set_cons_zero]
        refine wpAnyN_at (i := 1) (v := .agg #[.bool n.lf, .slice n.pa n.ps.length n.pc, .slice n.ta n.ts.length n.tc, .slice n.ka n.ks.length n.kc]) (some 12) rfl rfl (by kernel_rfl) (by kernel_rfl) (by kernel_rfl) (by kernel_rfl) (fun _ _ _ h => h) (Or.inl ⟨rfl, fun w' hS => by obtain ⟨_, _, _, ⟨n0, n1, n2, n3⟩⟩ := hS; go_simp⟩) hS0 ?_
        simp only [Act.put, List.setIfInBounds_toArray, List.set_cons_succ, List.set_cons_zero]
        refine wpAnyN_at (i := 3) (v := .agg #[.slice s.ra s.rules.length s.rc, .string s.els.ty, .int .i64 s.els.td, .string s.els.tt, .int .i64 s.els.od, .string s.els.ot, .slice s.els.ka s.els.kids.length s.els.kc, .int .i64 s.els.fill, .string s.els.ft, .int .i64 s.o0, .int .i64 s.o1, .int .i64 s.o2, .int .i64 s.o3, .int .i64 s.o4, .int .i64 s.o5, .int .i64 s.cap]) (some 14) rfl rfl (by kernel_rfl) (by kernel_rfl) (by kernel_rfl) (by kernel_rfl) (fun _ _ _ h => h) (Or.inl ⟨rfl, fun w' hS => by obtain ⟨_, _, ⟨s0, s1, s2, s3, s4, s5, s6, s7, s8, s9, s10, s11, s12, s13, s14, s15⟩, _⟩ := hS; go_simp⟩) hS0 ?_
        simp only [Act.put, List.setIfInBounds_toArray, List.set_cons_succ, List.set_cons_zero]
        refine wpAnyN_at (i := 4) (v := .agg #[.bool n.lf, .slice n.pa n.ps.length n.pc, .slice n.ta n.ts.length n.tc, .slice n.ka n.ks.length n.kc]) (some 15) rfl rfl (by kernel_rfl) (by kernel_rfl) (by kernel_rfl) (by kernel_rfl) (fun _ _ _ h => h) (Or.inl ⟨rfl, fun w' hS => by obtain ⟨_, _, _, ⟨n0, n1, n2, n3⟩⟩ := hS; go_simp⟩) hS0 ?_
        simp only [Act.put, List.setIfInBounds_toArray, List.set_cons_succ, List.set_cons_zero]
        refine wpAnyN_one (i := 2) (by kernel_rfl) rfl rfl ?_
        intro K' hK'
        go_wp2_with fail
        refine (CF.out c0 hS0.1).mono ?_
        rintro e c1 ⟨rfl, g1⟩
        have hS1 := hS0.next g1
        refine hK' _ _ ⟨fun _ => hS1, ?_⟩
        clear hK' K'
        refine wpAnyN_one (i := 5) (by kernel_rfl) rfl rfl ?_
        intro K' hK'
        go_wp2_with fail
        refine (CF2.out c1 hS1.1).mono ?_
        rintro e c2 ⟨rfl, g2⟩
        have hS2 := hS1.next g2
        refine hK' _ _ ⟨fun _ => hS2, ?_⟩
        clear hK' K'
        generalize findT s.er n.er = f at *
        unfold findVal
        refine wpAnyN_at (i := 6) (v := .bool true) (some 17) rfl rfl (by kernel_rfl) (by kernel_rfl) (by kernel_rfl) (by kernel_rfl) (fun _ _ _ h => h) (Or.inl ⟨rfl, fun w' hS => by go_simp⟩) hS2 ?_
        simp only [Act.put, List.setIfInBounds_toArray, List.set_cons_succ, List.set_cons_zero]
        refine wpAnyN_at (i := 7) (v := .bool true) (some 18) rfl rfl (by kernel_rfl) (by kernel_rfl) (by kernel_rfl) (by kernel_rfl) (fun _ _ _ h => h) (Or.inl ⟨rfl, fun w' hS => by go_simp⟩) hS2 ?_
        simp only [Act.put, List.setIfInBounds_toArray, List.set_cons_succ, List.set_cons_zero]
        as_aux_lemma =>
          refine wpAnyN_at (i := 8) (v := .agg #[.slice s.ra s.rules.length s.rc, .string s.els.ty, .int .i64 s.els.td, .string s.els.tt, .int .i64 s.els.od, .string s.els.ot, .slice s.els.ka s.els.kids.length s.els.kc, .int .i64 s.els.fill, .string s.els.ft, .int .i64 s.o0, .int .i64 s.o1, .int .i64 s.o2, .int .i64 s.o3, .int .i64 s.o4, .int .i64 s.o5, .int .i64 s.cap]) (some 19) rfl rfl (by kernel_rfl) (by kernel_rfl) (by kernel_rfl) (by kernel_rfl) (fun _ _ _ h => h) (Or.inl ⟨rfl, fun w' hS => by obtain ⟨_, _, ⟨s0, s1, s2, s3, s4, s5, s6, s7, s8, s9, s10, s11, s12, s13, s14, s15⟩, _⟩ := hS; go_simp⟩) hS2 ?_
          simp only [Act.put, List.setIfInBounds_toArray, List.set_cons_succ, List.set_cons_zero]
          refine wpAnyN_at (i := 9) (v := .agg #[.bool n.lf, .slice n.pa n.ps.length n.pc, .slice n.ta n.ts.length n.tc, .slice n.ka n.ks.length n.kc]) (some 20) rfl rfl (by kernel_rfl) (by kernel_rfl) (by kernel_rfl) (by kernel_rfl) (fun _ _ _ h => h) (Or.inl ⟨rfl, fun w' hS => by obtain ⟨_, _, _, ⟨n0, n1, n2, n3⟩⟩ := hS; go_simp⟩) hS2 ?_
          simp only [Act.put, List.setIfInBounds_toArray, List.set_cons_succ, List.set_cons_zero]
          refine wpAnyN_at (i := 11) (v := .agg #[.slice s.ra s.rules.length s.rc, .string s.els.ty, .int .i64 s.els.td, .string s.els.tt, .int .i64 s.els.od, .string s.els.ot, .slice s.els.ka s.els.kids.length s.els.kc, .int .i64 s.els.fill, .string s.els.ft, .int .i64 s.o0, .int .i64 s.o1, .int .i64 s.o2, .int .i64 s.o3, .int .i64 s.o4, .int .i64 s.o5, .int .i64 s.cap]) (some 22) rfl rfl (by kernel_rfl) (by kernel_rfl) (by kernel_rfl) (by kernel_rfl) (fun _ _ _ h => h) (Or.inl ⟨rfl, fun w' hS => by obtain ⟨_, _, ⟨s0, s1, s2, s3, s4, s5, s6, s7, s8, s9, s10, s11, s12, s13, s14, s15⟩, _⟩ := hS; go_simp⟩) hS2 ?_
          simp only [Act.put, List.setIfInBounds_toArray, List.set_cons_succ, List.set_cons_zero]
          refine wpAnyN_at (i := 12) (v := .agg #[.bool n.lf, .slice n.pa n.ps.length n.pc, .slice n.ta n.ts.length n.tc, .slice n.ka n.ks.length n.kc]) (some 23) rfl rfl (by kernel_rfl) (by kernel_rfl) (by kernel_rfl) (by kernel_rfl) (fun _ _ _ h => h) (Or.inl ⟨rfl, fun w' hS => by obtain ⟨_, _, _, ⟨n0, n1, n2, n3⟩⟩ := hS; go_simp⟩) hS2 ?_
          simp only [Act.put, List.setIfInBounds_toArray, List.set_cons_succ, List.set_cons_zero]
          refine wpAnyN_one (i := 10) (by kernel_rfl) rfl rfl ?_
          intro K' hK'
          go_wp2_with fail
          refine (CWa.out c2 hS2.1).mono ?_
          rintro e c3 ⟨xa, xc, xs, rfl, g3, hx1, hx2, hx3⟩
          have hS3 := hS2.next g3
          refine hK' _ _ ⟨fun _ => hS3, ?_⟩
          clear hK' K'
          refine wpAnyN_one (i := 13) (by kernel_rfl) rfl rfl ?_
          intro K' hK'
          go_wp2_with fail
          refine (CW2.out c3 hS3.1).mono ?_
          rintro e c4 ⟨ya, yc, ys, rfl, g4, hy1, hy2, hy3⟩
          have hS4 := hS3.next g4
          refine hK' _ _ ⟨fun _ => hS4, ?_⟩
          clear hK' K'
          have CS := sameAll02_any xa ya xc yc xs ys c4 (RowIn.mono (hx1.grew g4 (Nat.le_refl _)) (Nat.le_refl _) g4.size) hy1 (hx2.grew g4) hy2 (wrong_count hx3.out hb) (wrong_count hy3.out hb) (wrong_short hx3.out hb) (wrong_short hy3.out hb)
          rw [show decide (xs.map PN.l = ys.map PN.l) = true from decide_eq_true (hx3.out.trans hy3.out.symm)] at CS
          refine wpAnyN_one (i := 14) (by kernel_rfl) rfl rfl ?_
          intro K' hK'
          go_wp2_with fail
          refine (CS).mono ?_
          rintro e c5 ⟨rfl, g5⟩
          have hS5 := hS4.next g5
          refine hK' _ _ ⟨fun _ => hS5, ?_⟩
          clear hK' K'
          refine wpAnyN_at (i := 15) (v := .bool true) (some 26) rfl rfl (by kernel_rfl) (by kernel_rfl) (by kernel_rfl) (by kernel_rfl) (fun _ _ _ h => h) (Or.inl ⟨rfl, fun w' hS => by go_simp⟩) hS5 ?_
          simp only [Act.put, List.setIfInBounds_toArray, List.set_cons_succ, List.set_cons_zero]
          refine wpAnyN_at (i := 16) (v := .bool true) (some 27) rfl rfl (by kernel_rfl) (by kernel_rfl) (by kernel_rfl) (by kernel_rfl) (fun _ _ _ h => h) (Or.inl ⟨rfl, fun w' hS => by go_simp⟩) hS5 ?_
          simp only [Act.put, List.setIfInBounds_toArray, List.set_cons_succ, List.set_cons_zero]
          as_aux_lemma =>
            refine wpAnyN_at (i := 17) (v := .agg #[.slice s.ra s.rules.length s.rc, .string s.els.ty, .int .i64 s.els.td, .string s.els.tt, .int .i64 s.els.od, .string s.els.ot, .slice s.els.ka s.els.kids.length s.els.kc, .int .i64 s.els.fill, .string s.els.ft, .int .i64 s.o0, .int .i64 s.o1, .int .i64 s.o2, .int .i64 s.o3, .int .i64 s.o4, .int .i64 s.o5, .int .i64 s.cap]) (some 28) rfl rfl (by kernel_rfl) (by kernel_rfl) (by kernel_rfl) (by kernel_rfl) (fun _ _ _ h => h) (Or.inl ⟨rfl, fun w' hS => by obtain ⟨_, _, ⟨s0, s1, s2, s3, s4, s5, s6, s7, s8, s9, s10, s11, s12, s13, s14, s15⟩, _⟩ := hS; go_simp⟩) hS5 ?_
            simp only [Act.put, List.setIfInBounds_toArray, List.set_cons_succ, List.set_cons_zero]
            refine wpAnyN_at (i := 18) (v := .agg #[.bool n.lf, .slice n.pa n.ps.length n.pc, .slice n.ta n.ts.length n.tc, .slice n.ka n.ks.length n.kc]) (some 29) rfl rfl (by kernel_rfl) (by kernel_rfl) (by kernel_rfl) (by kernel_rfl) (fun _ _ _ h => h) (Or.inl ⟨rfl, fun w' hS => by obtain ⟨_, _, _, ⟨n0, n1, n2, n3⟩⟩ := hS; go_simp⟩) hS5 ?_
            simp only [Act.put, List.setIfInBounds_toArray, List.set_cons_succ, List.set_cons_zero]
            refine wpAnyN_at (i := 20) (v := .agg #[.slice s.ra s.rules.length s.rc, .string s.els.ty, .int .i64 s.els.td, .string s.els.tt, .int .i64 s.els.od, .string s.els.ot, .slice s.els.ka s.els.kids.length s.els.kc, .int .i64 s.els.fill, .string s.els.ft, .int .i64 s.o0, .int .i64 s.o1, .int .i64 s.o2, .int .i64 s.o3, .int .i64 s.o4, .int .i64 s.o5, .int .i64 s.cap]) (some 31) rfl rfl (by kernel_rfl) (by kernel_rfl) (by kernel_rfl) (by kernel_rfl) (fun _ _ _ h => h) (Or.inl ⟨rfl, fun w' hS => by obtain ⟨_, _, ⟨s0, s1, s2, s3, s4, s5, s6, s7, s8, s9, s10, s11, s12, s13, s14, s15⟩, _⟩ := hS; go_simp⟩) hS5 ?_
            simp only [Act.put, List.setIfInBounds_toArray, List.set_cons_succ, List.set_cons_zero]
            refine wpAnyN_at (i := 21) (v := .agg #[.bool n.lf, .slice n.pa n.ps.length n.pc, .slice n.ta n.ts.length n.tc, .slice n.ka n.ks.length n.kc]) (some 32) rfl rfl (by kernel_rfl) (by kernel_rfl) (by kernel_rfl) (by kernel_rfl) (fun _ _ _ h => h) (Or.inl ⟨rfl, fun w' hS => by obtain ⟨_, _, _, ⟨n0, n1, n2, n3⟩⟩ := hS; go_simp⟩) hS5 ?_
            simp only [Act.put, List.setIfInBounds_toArray, List.set_cons_succ, List.set_cons_zero]
            refine wpAnyN_one (i := 19) (by kernel_rfl) rfl rfl ?_
            intro K' hK'
            go_wp2_with fail
            refine (CV1.out c5 hS5.1).mono ?_
            rintro e c6 ⟨rfl, g6⟩
            have hS6 := hS5.next g6
            refine hK' _ _ ⟨fun _ => hS6, ?_⟩
            clear hK' K'
            refine wpAnyN_one (i := 22) (by kernel_rfl) rfl rfl ?_
            intro K' hK'
            go_wp2_with fail
            refine (CV2.out c6 hS6.1).mono ?_
            rintro e c7 ⟨rfl, g7⟩
            have hS7 := hS6.next g7
            refine hK' _ _ ⟨fun _ => hS7, ?_⟩
            clear hK' K'
            generalize validT s.er n.er = v at *
            refine wpAnyN_at (i := 23) (v := .bool true) (some 34) rfl rfl (by kernel_rfl) (by kernel_rfl) (by kernel_rfl) (by kernel_rfl) (fun _ _ _ h => h) (Or.inl ⟨rfl, fun w' hS => by cases v <;> go_simp⟩) hS7 ?_
            simp only [Act.put, List.setIfInBounds_toArray, List.set_cons_succ, List.set_cons_zero]
            refine wpAnyN_at (i := 24) (v := .bool true) (some 35) rfl rfl (by kernel_rfl) (by kernel_rfl) (by kernel_rfl) (by kernel_rfl) (fun _ _ _ h => h) (Or.inl ⟨rfl, fun w' hS => by go_simp⟩) hS7 ?_
            simp only [Act.put, List.setIfInBounds_toArray, List.set_cons_succ, List.set_cons_zero]
            have HS7 := Lib.hid hS7
            clear hS7
            refine wpAnyN_one (i := 25) (by kernel_rfl) rfl rfl ?_
            intro K' hK'
            go_wp2_with fail
            first | refine ⟨fun h => (by cases h), ?_⟩ | refine ⟨by kernel_rfl, ?_⟩
            try refine wpAnyN_done (by kernel_rfl) ?_ _
            go_wp2_with fail
            go_ret
            exact ⟨rfl, HS7.out.1⟩
end Go.Proofs.Ytnkmcbhpmbjkpaa
