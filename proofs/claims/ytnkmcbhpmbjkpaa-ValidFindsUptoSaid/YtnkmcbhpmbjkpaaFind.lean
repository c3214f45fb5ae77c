/- valid.Find: the contract. -/
import Derived.Test.YtnkmcbhpmbjkpaaFindBase
namespace Go.Proofs.Ytnkmcbhpmbjkpaa
open Go Go.RowKit

theorem ebox_new (w : World) : EBox w.heap.size (w.alloc (.cells #[.bool false, .slice none 0 0, .slice none 0 0, .slice none 0 0, .string { data := #[] }, .int .i64 0, .string { data := #[] }, .int .i64 0, .string { data := #[] }, .slice none 0 0, .int .i64 0, .string { data := #[] }, .slice none 0 0] 59)) :=
  ⟨by simp, ⟨by go_simp, by go_simp, by go_simp, by go_simp, by go_simp, by go_simp, by go_simp, by go_simp, by go_simp, by go_simp, by go_simp, by go_simp, by go_simp⟩, fun j => by rw [World.frozen?_alloc_at _ _ _ _ rfl]⟩

set_option maxHeartbeats 20000000 in
set_option maxRecDepth 100000 in
theorem find_elem (s : SN) (n : NT) (w : World) (hs : s.Ok w) (hsm : s.Small) (hn : n.Ok w) (hb : n.er.bulk ≤ 1048576) (hlf : n.lf = false) :
    Calls Try.prog 9 #[s.val, n.val] w fun e w' => e = .returned (findVal (findT s.er n.er)) ∧ Grew w w' := by
  have hlens := n.lens
  have l3 : n.ks.length ≤ 1048576 := by omega
  clear hlens
  have CT := Lib.hid (fun w1 (hg : Grew w w1) => type_any n w1 (hn.grew hg) hb)
  have CR := Lib.hid (fun w1 (hg : Grew w w1) => ruleOf_any s n.er.type w1 (hs.grew hg) hsm)
  have ZA := Lib.hid (fun w1 : World => zeros_at (w := w1) (n := n.ks.length) (by unfold maxLen; omega))
  have hmk : ∀ w1 : World, (Instr.makeSlice 57 (.int .i64 (n.ks.length : Int)) (.int .i64 (n.ks.length : Int))).run Try.prog w1 = .ok (.slice (some ⟨w1.heap.size, 0, none⟩) n.ks.length n.ks.length) (w1.alloc (.cells (madeCells #[.int .i64 0, .string { data := #[] }] (n.ks.length * 2)) 24)) := fun w1 => make_acts w1 l3
  unfold NT.val at CT
  unfold SN.val at CR
  rw [hlf] at CT
  unfold SN.val NT.val
  rw [hlf]
  go_enter Try.func9, Try.ntmps9
  go_upto_region 3 with fail
  go_cut [5] (fun s5 wx => ∃ (eb ab lo hi : Nat) (r : RN), s5 = .pointer (some ⟨eb, 0, none⟩) ∧ FindAt w s n eb ab lo hi r (List.replicate n.ks.length (0, { data := #[] })) wx ∧ r.kids.length ≤ 1048576 ∧ Hid (r.er = s.er.ruleOf n.er.type))
  case first =>
    have hB0 : FBox w s n (((w.alloc (.cells #[.slice s.ra s.rules.length s.rc, .string s.els.ty, .int .i64 s.els.td, .string s.els.tt, .int .i64 s.els.od, .string s.els.ot, .slice s.els.ka s.els.kids.length s.els.kc, .int .i64 s.els.fill, .string s.els.ft, .int .i64 s.o0, .int .i64 s.o1, .int .i64 s.o2, .int .i64 s.o3, .int .i64 s.o4, .int .i64 s.o5, .int .i64 s.cap] 30)).alloc (.cells #[.bool false, .slice n.pa n.ps.length n.pc, .slice n.ta n.ts.length n.tc, .slice n.ka n.ks.length n.kc] 35)).alloc (.cells #[.int .i64 0, .int .i64 0, .int .i64 0] 39)) := ⟨((Grew.alloc1 w _).alloc _).alloc _, by simp, ⟨by go_simp, by go_simp, by go_simp, by go_simp, by go_simp, by go_simp, by go_simp, by go_simp, by go_simp, by go_simp, by go_simp, by go_simp, by go_simp, by go_simp, by go_simp, by go_simp⟩, ⟨by go_simp, by go_simp, by go_simp, by go_simp⟩, ⟨by go_simp, by go_simp, by go_simp⟩, fun j => by rw [World.frozen?_alloc_at _ _ _ _ (by simp)]⟩
    generalize (((w.alloc (.cells #[.slice s.ra s.rules.length s.rc, .string s.els.ty, .int .i64 s.els.td, .string s.els.tt, .int .i64 s.els.od, .string s.els.ot, .slice s.els.ka s.els.kids.length s.els.kc, .int .i64 s.els.fill, .string s.els.ft, .int .i64 s.o0, .int .i64 s.o1, .int .i64 s.o2, .int .i64 s.o3, .int .i64 s.o4, .int .i64 s.o5, .int .i64 s.cap] 30)).alloc (.cells #[.bool false, .slice n.pa n.ps.length n.pc, .slice n.ta n.ts.length n.tc, .slice n.ka n.ks.length n.kc] 35)).alloc (.cells #[.int .i64 0, .int .i64 0, .int .i64 0] 39)) = w1 at *
    have hS0 : FBox w s n w1.drew := hB0.next (Grew.refl _).drew
    refine wp_region_need (FBox w s n) (fun j => j.blt 11) (by kernel_rfl) ?_
    generalize w1.drew = c0 at *
    refine wpAnyN_take (i := 0) (v := .agg #[.bool false, .slice n.pa n.ps.length n.pc, .slice n.ta n.ts.length n.tc, .slice n.ka n.ks.length n.kc]) rfl (by kernel_rfl) (by kernel_rfl) (by kernel_rfl) (by kernel_rfl) (fun _ _ _ h => h) (Or.inl ⟨rfl, fun w' hS => by obtain ⟨_, _, _, ⟨n0, n1, n2, n3⟩, _⟩ := hS; go_simp⟩) hS0 ?_
    refine wpAnyN_take (i := 1) (v := .agg #[.slice s.ra s.rules.length s.rc, .string s.els.ty, .int .i64 s.els.td, .string s.els.tt, .int .i64 s.els.od, .string s.els.ot, .slice s.els.ka s.els.kids.length s.els.kc, .int .i64 s.els.fill, .string s.els.ft, .int .i64 s.o0, .int .i64 s.o1, .int .i64 s.o2, .int .i64 s.o3, .int .i64 s.o4, .int .i64 s.o5, .int .i64 s.cap]) rfl (by kernel_rfl) (by kernel_rfl) (by kernel_rfl) (by kernel_rfl) (fun _ _ _ h => h) (Or.inl ⟨rfl, fun w' hS => by obtain ⟨_, _, ⟨s0, s1, s2, s3, s4, s5, s6, s7, s8, s9, s10, s11, s12, s13, s14, s15⟩, _, _⟩ := hS; go_simp⟩) hS0 ?_
    refine wpAnyN_take (i := 2) (v := .agg #[.bool false, .slice n.pa n.ps.length n.pc, .slice n.ta n.ts.length n.tc, .slice n.ka n.ks.length n.kc]) rfl (by kernel_rfl) (by kernel_rfl) (by kernel_rfl) (by kernel_rfl) (fun _ _ _ h => h) (Or.inl ⟨rfl, fun w' hS => by obtain ⟨_, _, _, ⟨n0, n1, n2, n3⟩, _⟩ := hS; go_simp⟩) hS0 ?_
    refine wpAnyN_take (i := 5) (v := .pointer (some ⟨w.heap.size + 1, 3, none⟩)) rfl (by kernel_rfl) (by kernel_rfl) (by kernel_rfl) (by kernel_rfl) (fun _ _ _ h => h) (Or.inl ⟨rfl, fun w' hS => by go_simp⟩) hS0 ?_
    refine wpAnyN_take (i := 6) (v := .slice n.ka n.ks.length n.kc) rfl (by kernel_rfl) (by kernel_rfl) (by kernel_rfl) (by kernel_rfl) (fun _ _ _ h => h) (Or.inl ⟨rfl, fun w' hS => by obtain ⟨_, _, _, ⟨n0, n1, n2, n3⟩, _⟩ := hS; go_simp⟩) hS0 ?_
    refine wpAnyN_take (i := 7) (v := .int .i64 n.ks.length) rfl (by kernel_rfl) (by kernel_rfl) (by kernel_rfl) (by kernel_rfl) (fun _ _ _ h => h) (Or.inl ⟨rfl, fun w' hS => by go_simp⟩) hS0 ?_
    refine wpAnyN_three (i := 3) (j := 8) (k := 10) (by kernel_rfl) rfl rfl rfl rfl rfl rfl ?_ ?_ ?_
    · intro K' hK'
      go_wp2_with fail
      refine (CT.out c0 hS0.1).mono ?_
      rintro e c1 ⟨rfl, g1⟩
      have z1 := g1.size
      have hS1 := hS0.next g1
      refine hK' _ _ ⟨fun _ => hS1, ?_⟩
      clear hK' K'
      refine wpAnyN_three (i := 4) (j := 8) (k := 10) (by kernel_rfl) rfl rfl rfl rfl rfl rfl ?_ ?_ ?_
      · intro K' hK'
        go_wp2_with fail
        refine (CR.out c1 hS1.1).mono ?_
        rintro e c2 ⟨r, rfl, g2, hr, hrl, hre⟩
        have hR2 : RuleAt c1.heap.size c2.heap.size r c2 := ⟨Nat.le_refl _, hr⟩
        have qR2 := hS1.2.1
        clear hr
        have z2 := g2.size
        have hS2 := hS1.next g2
        refine hK' _ _ ⟨fun _ => hS2, ?_⟩
        clear hK' K'
        refine wpAnyN_two (i := 8) (j := 10) (by kernel_rfl) rfl rfl rfl rfl ?_ ?_
        · intro K' hK'
          go_wp2_with fail
          have hA3 := ZA.out c2
          have g3 := Grew.alloc1 c2 (.cells (madeCells #[.int .i64 0, .string { data := #[] }] (n.ks.length * 2)) 24)
          have qA3 := hS2.2.1
          generalize c2.alloc (.cells (madeCells #[.int .i64 0, .string { data := #[] }] (n.ks.length * 2)) 24) = c3 at *
          have zA3 := hA3.1
          have hR3 := hR2.grew g3
          have z3 := g3.size
          have hS3 := hS2.next g3
          refine ⟨fun _ => hS3, ?_⟩
          refine wpAnyN_take (i := 9) (v := .agg #[.bool false, .slice n.pa n.ps.length n.pc, .slice n.ta n.ts.length n.tc, .slice n.ka n.ks.length n.kc, .string r.ty, .int .i64 r.td, .string r.tt, .int .i64 r.od, .string r.ot, .slice r.ka r.kids.length r.kc, .int .i64 r.fill, .string r.ft, .slice (some ⟨c2.heap.size, 0, none⟩) n.ks.length n.ks.length]) rfl (by kernel_rfl) (by kernel_rfl) (by kernel_rfl) (by kernel_rfl) (fun _ _ _ h => h) (Or.inl ⟨rfl, fun w' hS => by unfold RN.val; go_simp⟩) hS3 ?_
          refine wpAnyN_one (i := 10) (by kernel_rfl) rfl rfl ?_
          intro K' hK'
          go_wp2_with fail
          have hE4 : EBox c3.heap.size (c3.alloc (.cells #[.bool false, .slice none 0 0, .slice none 0 0, .slice none 0 0, .string { data := #[] }, .int .i64 0, .string { data := #[] }, .int .i64 0, .string { data := #[] }, .slice none 0 0, .int .i64 0, .string { data := #[] }, .slice none 0 0] 59)) := ebox_new _
          have g4 := Grew.alloc1 c3 (.cells #[.bool false, .slice none 0 0, .slice none 0 0, .slice none 0 0, .string { data := #[] }, .int .i64 0, .string { data := #[] }, .int .i64 0, .string { data := #[] }, .slice none 0 0, .int .i64 0, .string { data := #[] }, .slice none 0 0] 59)
          have qE4 := hS3.2.1
          generalize c3.alloc (.cells #[.bool false, .slice none 0 0, .slice none 0 0, .slice none 0 0, .string { data := #[] }, .int .i64 0, .string { data := #[] }, .int .i64 0, .string { data := #[] }, .slice none 0 0, .int .i64 0, .string { data := #[] }, .slice none 0 0] 59) = c4 at *
          have zE4 := hE4.1
          have hR4 := hR3.grew g4
          have hA4 := hA3.grew g4
          have z4 := g4.size
          have hS4 := hS3.next g4
          refine ⟨fun _ => hS4, ?_⟩
          refine wpAnyN_one (i := 11) (by kernel_rfl) rfl rfl ?_
          intro K' hK'
          obtain ⟨q0, q1, q2⟩ := id hE4
          obtain ⟨e0, e1, e2, e3, e4, e5, e6, e7, e8, e9, e10, e11, e12⟩ := id q1
          have HQ := Lib.hid q1
          clear q0 q1
          go_wp2_with fail
          clear e0 e1 e2 e3 e4 e5 e6 e7 e8 e9 e10 e11 e12 q2
          refine ⟨fun h => (by cases h), ?_⟩
          refine wpAnyN_done (by kernel_rfl) ?_ _
          go_wp2_with fail
          generalize hF : (((((((((((((c4.setCell ⟨c3.heap.size, 0, none⟩ _).setCell ⟨c3.heap.size, 1, none⟩ _).setCell ⟨c3.heap.size, 2, none⟩ _).setCell ⟨c3.heap.size, 3, none⟩ _).setCell ⟨c3.heap.size, 4, none⟩ _).setCell ⟨c3.heap.size, 5, none⟩ _).setCell ⟨c3.heap.size, 6, none⟩ _).setCell ⟨c3.heap.size, 7, none⟩ _).setCell ⟨c3.heap.size, 8, none⟩ _).setCell ⟨c3.heap.size, 9, none⟩ _).setCell ⟨c3.heap.size, 10, none⟩ _).setCell ⟨c3.heap.size, 11, none⟩ _).setCell ⟨c3.heap.size, 12, none⟩ _) = F
          obtain ⟨fc, hk⟩ := put13 HQ.out hF
          clear hF
          go_meet
          exact ⟨c3.heap.size, c2.heap.size, c1.heap.size, c2.heap.size, r, rfl, findAt_mk hS4 hA4 hR4 (by omega) (by omega) (by omega) (by omega) (by omega) (by omega) hE4.1 (by rw [hlf]; exact fc) hk, hrl, hre⟩
        · intro K' hK'
          go_wp2_with fail
          have hE3 : EBox c2.heap.size (c2.alloc (.cells #[.bool false, .slice none 0 0, .slice none 0 0, .slice none 0 0, .string { data := #[] }, .int .i64 0, .string { data := #[] }, .int .i64 0, .string { data := #[] }, .slice none 0 0, .int .i64 0, .string { data := #[] }, .slice none 0 0] 59)) := ebox_new _
          have g3 := Grew.alloc1 c2 (.cells #[.bool false, .slice none 0 0, .slice none 0 0, .slice none 0 0, .string { data := #[] }, .int .i64 0, .string { data := #[] }, .int .i64 0, .string { data := #[] }, .slice none 0 0, .int .i64 0, .string { data := #[] }, .slice none 0 0] 59)
          have qE3 := hS2.2.1
          generalize c2.alloc (.cells #[.bool false, .slice none 0 0, .slice none 0 0, .slice none 0 0, .string { data := #[] }, .int .i64 0, .string { data := #[] }, .int .i64 0, .string { data := #[] }, .slice none 0 0, .int .i64 0, .string { data := #[] }, .slice none 0 0] 59) = c3 at *
          have zE3 := hE3.1
          have hR3 := hR2.grew g3
          have z3 := g3.size
          have hS3 := hS2.next g3
          refine ⟨fun _ => hS3, ?_⟩
          refine wpAnyN_one (i := 8) (by kernel_rfl) rfl rfl ?_
          intro K' hK'
          go_wp2_with fail
          have hA4 := ZA.out c3
          have g4 := Grew.alloc1 c3 (.cells (madeCells #[.int .i64 0, .string { data := #[] }] (n.ks.length * 2)) 24)
          have qA4 := hS3.2.1
          generalize c3.alloc (.cells (madeCells #[.int .i64 0, .string { data := #[] }] (n.ks.length * 2)) 24) = c4 at *
          have zA4 := hA4.1
          have hR4 := hR3.grew g4
          have hE4 := hE3.grew g4
          have z4 := g4.size
          have hS4 := hS3.next g4
          refine ⟨fun _ => hS4, ?_⟩
          refine wpAnyN_take (i := 9) (v := .agg #[.bool false, .slice n.pa n.ps.length n.pc, .slice n.ta n.ts.length n.tc, .slice n.ka n.ks.length n.kc, .string r.ty, .int .i64 r.td, .string r.tt, .int .i64 r.od, .string r.ot, .slice r.ka r.kids.length r.kc, .int .i64 r.fill, .string r.ft, .slice (some ⟨c3.heap.size, 0, none⟩) n.ks.length n.ks.length]) rfl (by kernel_rfl) (by kernel_rfl) (by kernel_rfl) (by kernel_rfl) (fun _ _ _ h => h) (Or.inl ⟨rfl, fun w' hS => by unfold RN.val; go_simp⟩) hS4 ?_
          refine wpAnyN_one (i := 11) (by kernel_rfl) rfl rfl ?_
          intro K' hK'
          obtain ⟨q0, q1, q2⟩ := id hE4
          obtain ⟨e0, e1, e2, e3, e4, e5, e6, e7, e8, e9, e10, e11, e12⟩ := id q1
          have HQ := Lib.hid q1
          clear q0 q1
          go_wp2_with fail
          clear e0 e1 e2 e3 e4 e5 e6 e7 e8 e9 e10 e11 e12 q2
          refine ⟨fun h => (by cases h), ?_⟩
          refine wpAnyN_done (by kernel_rfl) ?_ _
          go_wp2_with fail
          generalize hF : (((((((((((((c4.setCell ⟨c2.heap.size, 0, none⟩ _).setCell ⟨c2.heap.size, 1, none⟩ _).setCell ⟨c2.heap.size, 2, none⟩ _).setCell ⟨c2.heap.size, 3, none⟩ _).setCell ⟨c2.heap.size, 4, none⟩ _).setCell ⟨c2.heap.size, 5, none⟩ _).setCell ⟨c2.heap.size, 6, none⟩ _).setCell ⟨c2.heap.size, 7, none⟩ _).setCell ⟨c2.heap.size, 8, none⟩ _).setCell ⟨c2.heap.size, 9, none⟩ _).setCell ⟨c2.heap.size, 10, none⟩ _).setCell ⟨c2.heap.size, 11, none⟩ _).setCell ⟨c2.heap.size, 12, none⟩ _) = F
          obtain ⟨fc, hk⟩ := put13 HQ.out hF
          clear hF
          go_meet
          exact ⟨c2.heap.size, c3.heap.size, c1.heap.size, c2.heap.size, r, rfl, findAt_mk hS4 hA4 hR4 (by omega) (by omega) (by omega) (by omega) (by omega) (by omega) hE4.1 (by rw [hlf]; exact fc) hk, hrl, hre⟩
      · intro K' hK'
        go_wp2_with fail
        have hA2 := ZA.out c1
        have g2 := Grew.alloc1 c1 (.cells (madeCells #[.int .i64 0, .string { data := #[] }] (n.ks.length * 2)) 24)
        have qA2 := hS1.2.1
        generalize c1.alloc (.cells (madeCells #[.int .i64 0, .string { data := #[] }] (n.ks.length * 2)) 24) = c2 at *
        have zA2 := hA2.1
        have z2 := g2.size
        have hS2 := hS1.next g2
        refine ⟨fun _ => hS2, ?_⟩
        refine wpAnyN_two (i := 4) (j := 10) (by kernel_rfl) rfl rfl rfl rfl ?_ ?_
        · intro K' hK'
          go_wp2_with fail
          refine (CR.out c2 hS2.1).mono ?_
          rintro e c3 ⟨r, rfl, g3, hr, hrl, hre⟩
          have hR3 : RuleAt c2.heap.size c3.heap.size r c3 := ⟨Nat.le_refl _, hr⟩
          have qR3 := hS2.2.1
          clear hr
          have hA3 := hA2.grew g3
          have z3 := g3.size
          have hS3 := hS2.next g3
          refine hK' _ _ ⟨fun _ => hS3, ?_⟩
          clear hK' K'
          refine wpAnyN_take (i := 9) (v := .agg #[.bool false, .slice n.pa n.ps.length n.pc, .slice n.ta n.ts.length n.tc, .slice n.ka n.ks.length n.kc, .string r.ty, .int .i64 r.td, .string r.tt, .int .i64 r.od, .string r.ot, .slice r.ka r.kids.length r.kc, .int .i64 r.fill, .string r.ft, .slice (some ⟨c1.heap.size, 0, none⟩) n.ks.length n.ks.length]) rfl (by kernel_rfl) (by kernel_rfl) (by kernel_rfl) (by kernel_rfl) (fun _ _ _ h => h) (Or.inl ⟨rfl, fun w' hS => by unfold RN.val; go_simp⟩) hS3 ?_
          refine wpAnyN_one (i := 10) (by kernel_rfl) rfl rfl ?_
          intro K' hK'
          go_wp2_with fail
          have hE4 : EBox c3.heap.size (c3.alloc (.cells #[.bool false, .slice none 0 0, .slice none 0 0, .slice none 0 0, .string { data := #[] }, .int .i64 0, .string { data := #[] }, .int .i64 0, .string { data := #[] }, .slice none 0 0, .int .i64 0, .string { data := #[] }, .slice none 0 0] 59)) := ebox_new _
          have g4 := Grew.alloc1 c3 (.cells #[.bool false, .slice none 0 0, .slice none 0 0, .slice none 0 0, .string { data := #[] }, .int .i64 0, .string { data := #[] }, .int .i64 0, .string { data := #[] }, .slice none 0 0, .int .i64 0, .string { data := #[] }, .slice none 0 0] 59)
          have qE4 := hS3.2.1
          generalize c3.alloc (.cells #[.bool false, .slice none 0 0, .slice none 0 0, .slice none 0 0, .string { data := #[] }, .int .i64 0, .string { data := #[] }, .int .i64 0, .string { data := #[] }, .slice none 0 0, .int .i64 0, .string { data := #[] }, .slice none 0 0] 59) = c4 at *
          have zE4 := hE4.1
          have hR4 := hR3.grew g4
          have hA4 := hA3.grew g4
          have z4 := g4.size
          have hS4 := hS3.next g4
          refine ⟨fun _ => hS4, ?_⟩
          refine wpAnyN_one (i := 11) (by kernel_rfl) rfl rfl ?_
          intro K' hK'
          obtain ⟨q0, q1, q2⟩ := id hE4
          obtain ⟨e0, e1, e2, e3, e4, e5, e6, e7, e8, e9, e10, e11, e12⟩ := id q1
          have HQ := Lib.hid q1
          clear q0 q1
          go_wp2_with fail
          clear e0 e1 e2 e3 e4 e5 e6 e7 e8 e9 e10 e11 e12 q2
          refine ⟨fun h => (by cases h), ?_⟩
          refine wpAnyN_done (by kernel_rfl) ?_ _
          go_wp2_with fail
          generalize hF : (((((((((((((c4.setCell ⟨c3.heap.size, 0, none⟩ _).setCell ⟨c3.heap.size, 1, none⟩ _).setCell ⟨c3.heap.size, 2, none⟩ _).setCell ⟨c3.heap.size, 3, none⟩ _).setCell ⟨c3.heap.size, 4, none⟩ _).setCell ⟨c3.heap.size, 5, none⟩ _).setCell ⟨c3.heap.size, 6, none⟩ _).setCell ⟨c3.heap.size, 7, none⟩ _).setCell ⟨c3.heap.size, 8, none⟩ _).setCell ⟨c3.heap.size, 9, none⟩ _).setCell ⟨c3.heap.size, 10, none⟩ _).setCell ⟨c3.heap.size, 11, none⟩ _).setCell ⟨c3.heap.size, 12, none⟩ _) = F
          obtain ⟨fc, hk⟩ := put13 HQ.out hF
          clear hF
          go_meet
          exact ⟨c3.heap.size, c1.heap.size, c2.heap.size, c3.heap.size, r, rfl, findAt_mk hS4 hA4 hR4 (by omega) (by omega) (by omega) (by omega) (by omega) (by omega) hE4.1 (by rw [hlf]; exact fc) hk, hrl, hre⟩
        · intro K' hK'
          go_wp2_with fail
          have hE3 : EBox c2.heap.size (c2.alloc (.cells #[.bool false, .slice none 0 0, .slice none 0 0, .slice none 0 0, .string { data := #[] }, .int .i64 0, .string { data := #[] }, .int .i64 0, .string { data := #[] }, .slice none 0 0, .int .i64 0, .string { data := #[] }, .slice none 0 0] 59)) := ebox_new _
          have g3 := Grew.alloc1 c2 (.cells #[.bool false, .slice none 0 0, .slice none 0 0, .slice none 0 0, .string { data := #[] }, .int .i64 0, .string { data := #[] }, .int .i64 0, .string { data := #[] }, .slice none 0 0, .int .i64 0, .string { data := #[] }, .slice none 0 0] 59)
          have qE3 := hS2.2.1
          generalize c2.alloc (.cells #[.bool false, .slice none 0 0, .slice none 0 0, .slice none 0 0, .string { data := #[] }, .int .i64 0, .string { data := #[] }, .int .i64 0, .string { data := #[] }, .slice none 0 0, .int .i64 0, .string { data := #[] }, .slice none 0 0] 59) = c3 at *
          have zE3 := hE3.1
          have hA3 := hA2.grew g3
          have z3 := g3.size
          have hS3 := hS2.next g3
          refine ⟨fun _ => hS3, ?_⟩
          refine wpAnyN_one (i := 4) (by kernel_rfl) rfl rfl ?_
          intro K' hK'
          go_wp2_with fail
          refine (CR.out c3 hS3.1).mono ?_
          rintro e c4 ⟨r, rfl, g4, hr, hrl, hre⟩
          have hR4 : RuleAt c3.heap.size c4.heap.size r c4 := ⟨Nat.le_refl _, hr⟩
          have qR4 := hS3.2.1
          clear hr
          have hA4 := hA3.grew g4
          have hE4 := hE3.grew g4
          have z4 := g4.size
          have hS4 := hS3.next g4
          refine hK' _ _ ⟨fun _ => hS4, ?_⟩
          clear hK' K'
          refine wpAnyN_take (i := 9) (v := .agg #[.bool false, .slice n.pa n.ps.length n.pc, .slice n.ta n.ts.length n.tc, .slice n.ka n.ks.length n.kc, .string r.ty, .int .i64 r.td, .string r.tt, .int .i64 r.od, .string r.ot, .slice r.ka r.kids.length r.kc, .int .i64 r.fill, .string r.ft, .slice (some ⟨c1.heap.size, 0, none⟩) n.ks.length n.ks.length]) rfl (by kernel_rfl) (by kernel_rfl) (by kernel_rfl) (by kernel_rfl) (fun _ _ _ h => h) (Or.inl ⟨rfl, fun w' hS => by unfold RN.val; go_simp⟩) hS4 ?_
          refine wpAnyN_one (i := 11) (by kernel_rfl) rfl rfl ?_
          intro K' hK'
          obtain ⟨q0, q1, q2⟩ := id hE4
          obtain ⟨e0, e1, e2, e3, e4, e5, e6, e7, e8, e9, e10, e11, e12⟩ := id q1
          have HQ := Lib.hid q1
          clear q0 q1
          go_wp2_with fail
          clear e0 e1 e2 e3 e4 e5 e6 e7 e8 e9 e10 e11 e12 q2
          refine ⟨fun h => (by cases h), ?_⟩
          refine wpAnyN_done (by kernel_rfl) ?_ _
          go_wp2_with fail
          generalize hF : (((((((((((((c4.setCell ⟨c2.heap.size, 0, none⟩ _).setCell ⟨c2.heap.size, 1, none⟩ _).setCell ⟨c2.heap.size, 2, none⟩ _).setCell ⟨c2.heap.size, 3, none⟩ _).setCell ⟨c2.heap.size, 4, none⟩ _).setCell ⟨c2.heap.size, 5, none⟩ _).setCell ⟨c2.heap.size, 6, none⟩ _).setCell ⟨c2.heap.size, 7, none⟩ _).setCell ⟨c2.heap.size, 8, none⟩ _).setCell ⟨c2.heap.size, 9, none⟩ _).setCell ⟨c2.heap.size, 10, none⟩ _).setCell ⟨c2.heap.size, 11, none⟩ _).setCell ⟨c2.heap.size, 12, none⟩ _) = F
          obtain ⟨fc, hk⟩ := put13 HQ.out hF
          clear hF
          go_meet
          exact ⟨c2.heap.size, c1.heap.size, c3.heap.size, c4.heap.size, r, rfl, findAt_mk hS4 hA4 hR4 (by omega) (by omega) (by omega) (by omega) (by omega) (by omega) hE4.1 (by rw [hlf]; exact fc) hk, hrl, hre⟩
      · intro K' hK'
        go_wp2_with fail
        have hE2 : EBox c1.heap.size (c1.alloc (.cells #[.bool false, .slice none 0 0, .slice none 0 0, .slice none 0 0, .string { data := #[] }, .int .i64 0, .string { data := #[] }, .int .i64 0, .string { data := #[] }, .slice none 0 0, .int .i64 0, .string { data := #[] }, .slice none 0 0] 59)) := ebox_new _
        have g2 := Grew.alloc1 c1 (.cells #[.bool false, .slice none 0 0, .slice none 0 0, .slice none 0 0, .string { data := #[] }, .int .i64 0, .string { data := #[] }, .int .i64 0, .string { data := #[] }, .slice none 0 0, .int .i64 0, .string { data := #[] }, .slice none 0 0] 59)
        have qE2 := hS1.2.1
        generalize c1.alloc (.cells #[.bool false, .slice none 0 0, .slice none 0 0, .slice none 0 0, .string { data := #[] }, .int .i64 0, .string { data := #[] }, .int .i64 0, .string { data := #[] }, .slice none 0 0, .int .i64 0, .string { data := #[] }, .slice none 0 0] 59) = c2 at *
        have zE2 := hE2.1
        have z2 := g2.size
        have hS2 := hS1.next g2
        refine ⟨fun _ => hS2, ?_⟩
        refine wpAnyN_two (i := 4) (j := 8) (by kernel_rfl) rfl rfl rfl rfl ?_ ?_
        · intro K' hK'
          go_wp2_with fail
          refine (CR.out c2 hS2.1).mono ?_
          rintro e c3 ⟨r, rfl, g3, hr, hrl, hre⟩
          have hR3 : RuleAt c2.heap.size c3.heap.size r c3 := ⟨Nat.le_refl _, hr⟩
          have qR3 := hS2.2.1
          clear hr
          have hE3 := hE2.grew g3
          have z3 := g3.size
          have hS3 := hS2.next g3
          refine hK' _ _ ⟨fun _ => hS3, ?_⟩
          clear hK' K'
          refine wpAnyN_one (i := 8) (by kernel_rfl) rfl rfl ?_
          intro K' hK'
          go_wp2_with fail
          have hA4 := ZA.out c3
          have g4 := Grew.alloc1 c3 (.cells (madeCells #[.int .i64 0, .string { data := #[] }] (n.ks.length * 2)) 24)
          have qA4 := hS3.2.1
          generalize c3.alloc (.cells (madeCells #[.int .i64 0, .string { data := #[] }] (n.ks.length * 2)) 24) = c4 at *
          have zA4 := hA4.1
          have hR4 := hR3.grew g4
          have hE4 := hE3.grew g4
          have z4 := g4.size
          have hS4 := hS3.next g4
          refine ⟨fun _ => hS4, ?_⟩
          refine wpAnyN_take (i := 9) (v := .agg #[.bool false, .slice n.pa n.ps.length n.pc, .slice n.ta n.ts.length n.tc, .slice n.ka n.ks.length n.kc, .string r.ty, .int .i64 r.td, .string r.tt, .int .i64 r.od, .string r.ot, .slice r.ka r.kids.length r.kc, .int .i64 r.fill, .string r.ft, .slice (some ⟨c3.heap.size, 0, none⟩) n.ks.length n.ks.length]) rfl (by kernel_rfl) (by kernel_rfl) (by kernel_rfl) (by kernel_rfl) (fun _ _ _ h => h) (Or.inl ⟨rfl, fun w' hS => by unfold RN.val; go_simp⟩) hS4 ?_
          refine wpAnyN_one (i := 11) (by kernel_rfl) rfl rfl ?_
          intro K' hK'
          obtain ⟨q0, q1, q2⟩ := id hE4
          obtain ⟨e0, e1, e2, e3, e4, e5, e6, e7, e8, e9, e10, e11, e12⟩ := id q1
          have HQ := Lib.hid q1
          clear q0 q1
          go_wp2_with fail
          clear e0 e1 e2 e3 e4 e5 e6 e7 e8 e9 e10 e11 e12 q2
          refine ⟨fun h => (by cases h), ?_⟩
          refine wpAnyN_done (by kernel_rfl) ?_ _
          go_wp2_with fail
          generalize hF : (((((((((((((c4.setCell ⟨c1.heap.size, 0, none⟩ _).setCell ⟨c1.heap.size, 1, none⟩ _).setCell ⟨c1.heap.size, 2, none⟩ _).setCell ⟨c1.heap.size, 3, none⟩ _).setCell ⟨c1.heap.size, 4, none⟩ _).setCell ⟨c1.heap.size, 5, none⟩ _).setCell ⟨c1.heap.size, 6, none⟩ _).setCell ⟨c1.heap.size, 7, none⟩ _).setCell ⟨c1.heap.size, 8, none⟩ _).setCell ⟨c1.heap.size, 9, none⟩ _).setCell ⟨c1.heap.size, 10, none⟩ _).setCell ⟨c1.heap.size, 11, none⟩ _).setCell ⟨c1.heap.size, 12, none⟩ _) = F
          obtain ⟨fc, hk⟩ := put13 HQ.out hF
          clear hF
          go_meet
          exact ⟨c1.heap.size, c3.heap.size, c2.heap.size, c3.heap.size, r, rfl, findAt_mk hS4 hA4 hR4 (by omega) (by omega) (by omega) (by omega) (by omega) (by omega) hE4.1 (by rw [hlf]; exact fc) hk, hrl, hre⟩
        · intro K' hK'
          go_wp2_with fail
          have hA3 := ZA.out c2
          have g3 := Grew.alloc1 c2 (.cells (madeCells #[.int .i64 0, .string { data := #[] }] (n.ks.length * 2)) 24)
          have qA3 := hS2.2.1
          generalize c2.alloc (.cells (madeCells #[.int .i64 0, .string { data := #[] }] (n.ks.length * 2)) 24) = c3 at *
          have zA3 := hA3.1
          have hE3 := hE2.grew g3
          have z3 := g3.size
          have hS3 := hS2.next g3
          refine ⟨fun _ => hS3, ?_⟩
          refine wpAnyN_one (i := 4) (by kernel_rfl) rfl rfl ?_
          intro K' hK'
          go_wp2_with fail
          refine (CR.out c3 hS3.1).mono ?_
          rintro e c4 ⟨r, rfl, g4, hr, hrl, hre⟩
          have hR4 : RuleAt c3.heap.size c4.heap.size r c4 := ⟨Nat.le_refl _, hr⟩
          have qR4 := hS3.2.1
          clear hr
          have hA4 := hA3.grew g4
          have hE4 := hE3.grew g4
          have z4 := g4.size
          have hS4 := hS3.next g4
          refine hK' _ _ ⟨fun _ => hS4, ?_⟩
          clear hK' K'
          refine wpAnyN_take (i := 9) (v := .agg #[.bool false, .slice n.pa n.ps.length n.pc, .slice n.ta n.ts.length n.tc, .slice n.ka n.ks.length n.kc, .string r.ty, .int .i64 r.td, .string r.tt, .int .i64 r.od, .string r.ot, .slice r.ka r.kids.length r.kc, .int .i64 r.fill, .string r.ft, .slice (some ⟨c2.heap.size, 0, none⟩) n.ks.length n.ks.length]) rfl (by kernel_rfl) (by kernel_rfl) (by kernel_rfl) (by kernel_rfl) (fun _ _ _ h => h) (Or.inl ⟨rfl, fun w' hS => by unfold RN.val; go_simp⟩) hS4 ?_
          refine wpAnyN_one (i := 11) (by kernel_rfl) rfl rfl ?_
          intro K' hK'
          obtain ⟨q0, q1, q2⟩ := id hE4
          obtain ⟨e0, e1, e2, e3, e4, e5, e6, e7, e8, e9, e10, e11, e12⟩ := id q1
          have HQ := Lib.hid q1
          clear q0 q1
          go_wp2_with fail
          clear e0 e1 e2 e3 e4 e5 e6 e7 e8 e9 e10 e11 e12 q2
          refine ⟨fun h => (by cases h), ?_⟩
          refine wpAnyN_done (by kernel_rfl) ?_ _
          go_wp2_with fail
          generalize hF : (((((((((((((c4.setCell ⟨c1.heap.size, 0, none⟩ _).setCell ⟨c1.heap.size, 1, none⟩ _).setCell ⟨c1.heap.size, 2, none⟩ _).setCell ⟨c1.heap.size, 3, none⟩ _).setCell ⟨c1.heap.size, 4, none⟩ _).setCell ⟨c1.heap.size, 5, none⟩ _).setCell ⟨c1.heap.size, 6, none⟩ _).setCell ⟨c1.heap.size, 7, none⟩ _).setCell ⟨c1.heap.size, 8, none⟩ _).setCell ⟨c1.heap.size, 9, none⟩ _).setCell ⟨c1.heap.size, 10, none⟩ _).setCell ⟨c1.heap.size, 11, none⟩ _).setCell ⟨c1.heap.size, 12, none⟩ _) = F
          obtain ⟨fc, hk⟩ := put13 HQ.out hF
          clear hF
          go_meet
          exact ⟨c1.heap.size, c2.heap.size, c3.heap.size, c4.heap.size, r, rfl, findAt_mk hS4 hA4 hR4 (by omega) (by omega) (by omega) (by omega) (by omega) (by omega) hE4.1 (by rw [hlf]; exact fc) hk, hrl, hre⟩
    · intro K' hK'
      go_wp2_with fail
      have hA1 := ZA.out c0
      have g1 := Grew.alloc1 c0 (.cells (madeCells #[.int .i64 0, .string { data := #[] }] (n.ks.length * 2)) 24)
      have qA1 := hS0.2.1
      generalize c0.alloc (.cells (madeCells #[.int .i64 0, .string { data := #[] }] (n.ks.length * 2)) 24) = c1 at *
      have zA1 := hA1.1
      have z1 := g1.size
      have hS1 := hS0.next g1
      refine ⟨fun _ => hS1, ?_⟩
      refine wpAnyN_two (i := 3) (j := 10) (by kernel_rfl) rfl rfl rfl rfl ?_ ?_
      · intro K' hK'
        go_wp2_with fail
        refine (CT.out c1 hS1.1).mono ?_
        rintro e c2 ⟨rfl, g2⟩
        have hA2 := hA1.grew g2
        have z2 := g2.size
        have hS2 := hS1.next g2
        refine hK' _ _ ⟨fun _ => hS2, ?_⟩
        clear hK' K'
        refine wpAnyN_two (i := 4) (j := 10) (by kernel_rfl) rfl rfl rfl rfl ?_ ?_
        · intro K' hK'
          go_wp2_with fail
          refine (CR.out c2 hS2.1).mono ?_
          rintro e c3 ⟨r, rfl, g3, hr, hrl, hre⟩
          have hR3 : RuleAt c2.heap.size c3.heap.size r c3 := ⟨Nat.le_refl _, hr⟩
          have qR3 := hS2.2.1
          clear hr
          have hA3 := hA2.grew g3
          have z3 := g3.size
          have hS3 := hS2.next g3
          refine hK' _ _ ⟨fun _ => hS3, ?_⟩
          clear hK' K'
          refine wpAnyN_take (i := 9) (v := .agg #[.bool false, .slice n.pa n.ps.length n.pc, .slice n.ta n.ts.length n.tc, .slice n.ka n.ks.length n.kc, .string r.ty, .int .i64 r.td, .string r.tt, .int .i64 r.od, .string r.ot, .slice r.ka r.kids.length r.kc, .int .i64 r.fill, .string r.ft, .slice (some ⟨c0.heap.size, 0, none⟩) n.ks.length n.ks.length]) rfl (by kernel_rfl) (by kernel_rfl) (by kernel_rfl) (by kernel_rfl) (fun _ _ _ h => h) (Or.inl ⟨rfl, fun w' hS => by unfold RN.val; go_simp⟩) hS3 ?_
          refine wpAnyN_one (i := 10) (by kernel_rfl) rfl rfl ?_
          intro K' hK'
          go_wp2_with fail
          have hE4 : EBox c3.heap.size (c3.alloc (.cells #[.bool false, .slice none 0 0, .slice none 0 0, .slice none 0 0, .string { data := #[] }, .int .i64 0, .string { data := #[] }, .int .i64 0, .string { data := #[] }, .slice none 0 0, .int .i64 0, .string { data := #[] }, .slice none 0 0] 59)) := ebox_new _
          have g4 := Grew.alloc1 c3 (.cells #[.bool false, .slice none 0 0, .slice none 0 0, .slice none 0 0, .string { data := #[] }, .int .i64 0, .string { data := #[] }, .int .i64 0, .string { data := #[] }, .slice none 0 0, .int .i64 0, .string { data := #[] }, .slice none 0 0] 59)
          have qE4 := hS3.2.1
          generalize c3.alloc (.cells #[.bool false, .slice none 0 0, .slice none 0 0, .slice none 0 0, .string { data := #[] }, .int .i64 0, .string { data := #[] }, .int .i64 0, .string { data := #[] }, .slice none 0 0, .int .i64 0, .string { data := #[] }, .slice none 0 0] 59) = c4 at *
          have zE4 := hE4.1
          have hR4 := hR3.grew g4
          have hA4 := hA3.grew g4
          have z4 := g4.size
          have hS4 := hS3.next g4
          refine ⟨fun _ => hS4, ?_⟩
          refine wpAnyN_one (i := 11) (by kernel_rfl) rfl rfl ?_
          intro K' hK'
          obtain ⟨q0, q1, q2⟩ := id hE4
          obtain ⟨e0, e1, e2, e3, e4, e5, e6, e7, e8, e9, e10, e11, e12⟩ := id q1
          have HQ := Lib.hid q1
          clear q0 q1
          go_wp2_with fail
          clear e0 e1 e2 e3 e4 e5 e6 e7 e8 e9 e10 e11 e12 q2
          refine ⟨fun h => (by cases h), ?_⟩
          refine wpAnyN_done (by kernel_rfl) ?_ _
          go_wp2_with fail
          generalize hF : (((((((((((((c4.setCell ⟨c3.heap.size, 0, none⟩ _).setCell ⟨c3.heap.size, 1, none⟩ _).setCell ⟨c3.heap.size, 2, none⟩ _).setCell ⟨c3.heap.size, 3, none⟩ _).setCell ⟨c3.heap.size, 4, none⟩ _).setCell ⟨c3.heap.size, 5, none⟩ _).setCell ⟨c3.heap.size, 6, none⟩ _).setCell ⟨c3.heap.size, 7, none⟩ _).setCell ⟨c3.heap.size, 8, none⟩ _).setCell ⟨c3.heap.size, 9, none⟩ _).setCell ⟨c3.heap.size, 10, none⟩ _).setCell ⟨c3.heap.size, 11, none⟩ _).setCell ⟨c3.heap.size, 12, none⟩ _) = F
          obtain ⟨fc, hk⟩ := put13 HQ.out hF
          clear hF
          go_meet
          exact ⟨c3.heap.size, c0.heap.size, c2.heap.size, c3.heap.size, r, rfl, findAt_mk hS4 hA4 hR4 (by omega) (by omega) (by omega) (by omega) (by omega) (by omega) hE4.1 (by rw [hlf]; exact fc) hk, hrl, hre⟩
        · intro K' hK'
          go_wp2_with fail
          have hE3 : EBox c2.heap.size (c2.alloc (.cells #[.bool false, .slice none 0 0, .slice none 0 0, .slice none 0 0, .string { data := #[] }, .int .i64 0, .string { data := #[] }, .int .i64 0, .string { data := #[] }, .slice none 0 0, .int .i64 0, .string { data := #[] }, .slice none 0 0] 59)) := ebox_new _
          have g3 := Grew.alloc1 c2 (.cells #[.bool false, .slice none 0 0, .slice none 0 0, .slice none 0 0, .string { data := #[] }, .int .i64 0, .string { data := #[] }, .int .i64 0, .string { data := #[] }, .slice none 0 0, .int .i64 0, .string { data := #[] }, .slice none 0 0] 59)
          have qE3 := hS2.2.1
          generalize c2.alloc (.cells #[.bool false, .slice none 0 0, .slice none 0 0, .slice none 0 0, .string { data := #[] }, .int .i64 0, .string { data := #[] }, .int .i64 0, .string { data := #[] }, .slice none 0 0, .int .i64 0, .string { data := #[] }, .slice none 0 0] 59) = c3 at *
          have zE3 := hE3.1
          have hA3 := hA2.grew g3
          have z3 := g3.size
          have hS3 := hS2.next g3
          refine ⟨fun _ => hS3, ?_⟩
          refine wpAnyN_one (i := 4) (by kernel_rfl) rfl rfl ?_
          intro K' hK'
          go_wp2_with fail
          refine (CR.out c3 hS3.1).mono ?_
          rintro e c4 ⟨r, rfl, g4, hr, hrl, hre⟩
          have hR4 : RuleAt c3.heap.size c4.heap.size r c4 := ⟨Nat.le_refl _, hr⟩
          have qR4 := hS3.2.1
          clear hr
          have hA4 := hA3.grew g4
          have hE4 := hE3.grew g4
          have z4 := g4.size
          have hS4 := hS3.next g4
          refine hK' _ _ ⟨fun _ => hS4, ?_⟩
          clear hK' K'
          refine wpAnyN_take (i := 9) (v := .agg #[.bool false, .slice n.pa n.ps.length n.pc, .slice n.ta n.ts.length n.tc, .slice n.ka n.ks.length n.kc, .string r.ty, .int .i64 r.td, .string r.tt, .int .i64 r.od, .string r.ot, .slice r.ka r.kids.length r.kc, .int .i64 r.fill, .string r.ft, .slice (some ⟨c0.heap.size, 0, none⟩) n.ks.length n.ks.length]) rfl (by kernel_rfl) (by kernel_rfl) (by kernel_rfl) (by kernel_rfl) (fun _ _ _ h => h) (Or.inl ⟨rfl, fun w' hS => by unfold RN.val; go_simp⟩) hS4 ?_
          refine wpAnyN_one (i := 11) (by kernel_rfl) rfl rfl ?_
          intro K' hK'
          obtain ⟨q0, q1, q2⟩ := id hE4
          obtain ⟨e0, e1, e2, e3, e4, e5, e6, e7, e8, e9, e10, e11, e12⟩ := id q1
          have HQ := Lib.hid q1
          clear q0 q1
          go_wp2_with fail
          clear e0 e1 e2 e3 e4 e5 e6 e7 e8 e9 e10 e11 e12 q2
          refine ⟨fun h => (by cases h), ?_⟩
          refine wpAnyN_done (by kernel_rfl) ?_ _
          go_wp2_with fail
          generalize hF : (((((((((((((c4.setCell ⟨c2.heap.size, 0, none⟩ _).setCell ⟨c2.heap.size, 1, none⟩ _).setCell ⟨c2.heap.size, 2, none⟩ _).setCell ⟨c2.heap.size, 3, none⟩ _).setCell ⟨c2.heap.size, 4, none⟩ _).setCell ⟨c2.heap.size, 5, none⟩ _).setCell ⟨c2.heap.size, 6, none⟩ _).setCell ⟨c2.heap.size, 7, none⟩ _).setCell ⟨c2.heap.size, 8, none⟩ _).setCell ⟨c2.heap.size, 9, none⟩ _).setCell ⟨c2.heap.size, 10, none⟩ _).setCell ⟨c2.heap.size, 11, none⟩ _).setCell ⟨c2.heap.size, 12, none⟩ _) = F
          obtain ⟨fc, hk⟩ := put13 HQ.out hF
          clear hF
          go_meet
          exact ⟨c2.heap.size, c0.heap.size, c3.heap.size, c4.heap.size, r, rfl, findAt_mk hS4 hA4 hR4 (by omega) (by omega) (by omega) (by omega) (by omega) (by omega) hE4.1 (by rw [hlf]; exact fc) hk, hrl, hre⟩
      · intro K' hK'
        go_wp2_with fail
        have hE2 : EBox c1.heap.size (c1.alloc (.cells #[.bool false, .slice none 0 0, .slice none 0 0, .slice none 0 0, .string { data := #[] }, .int .i64 0, .string { data := #[] }, .int .i64 0, .string { data := #[] }, .slice none 0 0, .int .i64 0, .string { data := #[] }, .slice none 0 0] 59)) := ebox_new _
        have g2 := Grew.alloc1 c1 (.cells #[.bool false, .slice none 0 0, .slice none 0 0, .slice none 0 0, .string { data := #[] }, .int .i64 0, .string { data := #[] }, .int .i64 0, .string { data := #[] }, .slice none 0 0, .int .i64 0, .string { data := #[] }, .slice none 0 0] 59)
        have qE2 := hS1.2.1
        generalize c1.alloc (.cells #[.bool false, .slice none 0 0, .slice none 0 0, .slice none 0 0, .string { data := #[] }, .int .i64 0, .string { data := #[] }, .int .i64 0, .string { data := #[] }, .slice none 0 0, .int .i64 0, .string { data := #[] }, .slice none 0 0] 59) = c2 at *
        have zE2 := hE2.1
        have hA2 := hA1.grew g2
        have z2 := g2.size
        have hS2 := hS1.next g2
        refine ⟨fun _ => hS2, ?_⟩
        refine wpAnyN_one (i := 3) (by kernel_rfl) rfl rfl ?_
        intro K' hK'
        go_wp2_with fail
        refine (CT.out c2 hS2.1).mono ?_
        rintro e c3 ⟨rfl, g3⟩
        have hA3 := hA2.grew g3
        have hE3 := hE2.grew g3
        have z3 := g3.size
        have hS3 := hS2.next g3
        refine hK' _ _ ⟨fun _ => hS3, ?_⟩
        clear hK' K'
        refine wpAnyN_one (i := 4) (by kernel_rfl) rfl rfl ?_
        intro K' hK'
        go_wp2_with fail
        refine (CR.out c3 hS3.1).mono ?_
        rintro e c4 ⟨r, rfl, g4, hr, hrl, hre⟩
        have hR4 : RuleAt c3.heap.size c4.heap.size r c4 := ⟨Nat.le_refl _, hr⟩
        have qR4 := hS3.2.1
        clear hr
        have hA4 := hA3.grew g4
        have hE4 := hE3.grew g4
        have z4 := g4.size
        have hS4 := hS3.next g4
        refine hK' _ _ ⟨fun _ => hS4, ?_⟩
        clear hK' K'
        refine wpAnyN_take (i := 9) (v := .agg #[.bool false, .slice n.pa n.ps.length n.pc, .slice n.ta n.ts.length n.tc, .slice n.ka n.ks.length n.kc, .string r.ty, .int .i64 r.td, .string r.tt, .int .i64 r.od, .string r.ot, .slice r.ka r.kids.length r.kc, .int .i64 r.fill, .string r.ft, .slice (some ⟨c0.heap.size, 0, none⟩) n.ks.length n.ks.length]) rfl (by kernel_rfl) (by kernel_rfl) (by kernel_rfl) (by kernel_rfl) (fun _ _ _ h => h) (Or.inl ⟨rfl, fun w' hS => by unfold RN.val; go_simp⟩) hS4 ?_
        refine wpAnyN_one (i := 11) (by kernel_rfl) rfl rfl ?_
        intro K' hK'
        obtain ⟨q0, q1, q2⟩ := id hE4
        obtain ⟨e0, e1, e2, e3, e4, e5, e6, e7, e8, e9, e10, e11, e12⟩ := id q1
        have HQ := Lib.hid q1
        clear q0 q1
        go_wp2_with fail
        clear e0 e1 e2 e3 e4 e5 e6 e7 e8 e9 e10 e11 e12 q2
        refine ⟨fun h => (by cases h), ?_⟩
        refine wpAnyN_done (by kernel_rfl) ?_ _
        go_wp2_with fail
        generalize hF : (((((((((((((c4.setCell ⟨c1.heap.size, 0, none⟩ _).setCell ⟨c1.heap.size, 1, none⟩ _).setCell ⟨c1.heap.size, 2, none⟩ _).setCell ⟨c1.heap.size, 3, none⟩ _).setCell ⟨c1.heap.size, 4, none⟩ _).setCell ⟨c1.heap.size, 5, none⟩ _).setCell ⟨c1.heap.size, 6, none⟩ _).setCell ⟨c1.heap.size, 7, none⟩ _).setCell ⟨c1.heap.size, 8, none⟩ _).setCell ⟨c1.heap.size, 9, none⟩ _).setCell ⟨c1.heap.size, 10, none⟩ _).setCell ⟨c1.heap.size, 11, none⟩ _).setCell ⟨c1.heap.size, 12, none⟩ _) = F
        obtain ⟨fc, hk⟩ := put13 HQ.out hF
        clear hF
        go_meet
        exact ⟨c1.heap.size, c0.heap.size, c3.heap.size, c4.heap.size, r, rfl, findAt_mk hS4 hA4 hR4 (by omega) (by omega) (by omega) (by omega) (by omega) (by omega) hE4.1 (by rw [hlf]; exact fc) hk, hrl, hre⟩
    · intro K' hK'
      go_wp2_with fail
      have hE1 : EBox c0.heap.size (c0.alloc (.cells #[.bool false, .slice none 0 0, .slice none 0 0, .slice none 0 0, .string { data := #[] }, .int .i64 0, .string { data := #[] }, .int .i64 0, .string { data := #[] }, .slice none 0 0, .int .i64 0, .string { data := #[] }, .slice none 0 0] 59)) := ebox_new _
      have g1 := Grew.alloc1 c0 (.cells #[.bool false, .slice none 0 0, .slice none 0 0, .slice none 0 0, .string { data := #[] }, .int .i64 0, .string { data := #[] }, .int .i64 0, .string { data := #[] }, .slice none 0 0, .int .i64 0, .string { data := #[] }, .slice none 0 0] 59)
      have qE1 := hS0.2.1
      generalize c0.alloc (.cells #[.bool false, .slice none 0 0, .slice none 0 0, .slice none 0 0, .string { data := #[] }, .int .i64 0, .string { data := #[] }, .int .i64 0, .string { data := #[] }, .slice none 0 0, .int .i64 0, .string { data := #[] }, .slice none 0 0] 59) = c1 at *
      have zE1 := hE1.1
      have z1 := g1.size
      have hS1 := hS0.next g1
      refine ⟨fun _ => hS1, ?_⟩
      refine wpAnyN_two (i := 3) (j := 8) (by kernel_rfl) rfl rfl rfl rfl ?_ ?_
      · intro K' hK'
        go_wp2_with fail
        refine (CT.out c1 hS1.1).mono ?_
        rintro e c2 ⟨rfl, g2⟩
        have hE2 := hE1.grew g2
        have z2 := g2.size
        have hS2 := hS1.next g2
        refine hK' _ _ ⟨fun _ => hS2, ?_⟩
        clear hK' K'
        refine wpAnyN_two (i := 4) (j := 8) (by kernel_rfl) rfl rfl rfl rfl ?_ ?_
        · intro K' hK'
          go_wp2_with fail
          refine (CR.out c2 hS2.1).mono ?_
          rintro e c3 ⟨r, rfl, g3, hr, hrl, hre⟩
          have hR3 : RuleAt c2.heap.size c3.heap.size r c3 := ⟨Nat.le_refl _, hr⟩
          have qR3 := hS2.2.1
          clear hr
          have hE3 := hE2.grew g3
          have z3 := g3.size
          have hS3 := hS2.next g3
          refine hK' _ _ ⟨fun _ => hS3, ?_⟩
          clear hK' K'
          refine wpAnyN_one (i := 8) (by kernel_rfl) rfl rfl ?_
          intro K' hK'
          go_wp2_with fail
          have hA4 := ZA.out c3
          have g4 := Grew.alloc1 c3 (.cells (madeCells #[.int .i64 0, .string { data := #[] }] (n.ks.length * 2)) 24)
          have qA4 := hS3.2.1
          generalize c3.alloc (.cells (madeCells #[.int .i64 0, .string { data := #[] }] (n.ks.length * 2)) 24) = c4 at *
          have zA4 := hA4.1
          have hR4 := hR3.grew g4
          have hE4 := hE3.grew g4
          have z4 := g4.size
          have hS4 := hS3.next g4
          refine ⟨fun _ => hS4, ?_⟩
          refine wpAnyN_take (i := 9) (v := .agg #[.bool false, .slice n.pa n.ps.length n.pc, .slice n.ta n.ts.length n.tc, .slice n.ka n.ks.length n.kc, .string r.ty, .int .i64 r.td, .string r.tt, .int .i64 r.od, .string r.ot, .slice r.ka r.kids.length r.kc, .int .i64 r.fill, .string r.ft, .slice (some ⟨c3.heap.size, 0, none⟩) n.ks.length n.ks.length]) rfl (by kernel_rfl) (by kernel_rfl) (by kernel_rfl) (by kernel_rfl) (fun _ _ _ h => h) (Or.inl ⟨rfl, fun w' hS => by unfold RN.val; go_simp⟩) hS4 ?_
          refine wpAnyN_one (i := 11) (by kernel_rfl) rfl rfl ?_
          intro K' hK'
          obtain ⟨q0, q1, q2⟩ := id hE4
          obtain ⟨e0, e1, e2, e3, e4, e5, e6, e7, e8, e9, e10, e11, e12⟩ := id q1
          have HQ := Lib.hid q1
          clear q0 q1
          go_wp2_with fail
          clear e0 e1 e2 e3 e4 e5 e6 e7 e8 e9 e10 e11 e12 q2
          refine ⟨fun h => (by cases h), ?_⟩
          refine wpAnyN_done (by kernel_rfl) ?_ _
          go_wp2_with fail
          generalize hF : (((((((((((((c4.setCell ⟨c0.heap.size, 0, none⟩ _).setCell ⟨c0.heap.size, 1, none⟩ _).setCell ⟨c0.heap.size, 2, none⟩ _).setCell ⟨c0.heap.size, 3, none⟩ _).setCell ⟨c0.heap.size, 4, none⟩ _).setCell ⟨c0.heap.size, 5, none⟩ _).setCell ⟨c0.heap.size, 6, none⟩ _).setCell ⟨c0.heap.size, 7, none⟩ _).setCell ⟨c0.heap.size, 8, none⟩ _).setCell ⟨c0.heap.size, 9, none⟩ _).setCell ⟨c0.heap.size, 10, none⟩ _).setCell ⟨c0.heap.size, 11, none⟩ _).setCell ⟨c0.heap.size, 12, none⟩ _) = F
          obtain ⟨fc, hk⟩ := put13 HQ.out hF
          clear hF
          go_meet
          exact ⟨c0.heap.size, c3.heap.size, c2.heap.size, c3.heap.size, r, rfl, findAt_mk hS4 hA4 hR4 (by omega) (by omega) (by omega) (by omega) (by omega) (by omega) hE4.1 (by rw [hlf]; exact fc) hk, hrl, hre⟩
        · intro K' hK'
          go_wp2_with fail
          have hA3 := ZA.out c2
          have g3 := Grew.alloc1 c2 (.cells (madeCells #[.int .i64 0, .string { data := #[] }] (n.ks.length * 2)) 24)
          have qA3 := hS2.2.1
          generalize c2.alloc (.cells (madeCells #[.int .i64 0, .string { data := #[] }] (n.ks.length * 2)) 24) = c3 at *
          have zA3 := hA3.1
          have hE3 := hE2.grew g3
          have z3 := g3.size
          have hS3 := hS2.next g3
          refine ⟨fun _ => hS3, ?_⟩
          refine wpAnyN_one (i := 4) (by kernel_rfl) rfl rfl ?_
          intro K' hK'
          go_wp2_with fail
          refine (CR.out c3 hS3.1).mono ?_
          rintro e c4 ⟨r, rfl, g4, hr, hrl, hre⟩
          have hR4 : RuleAt c3.heap.size c4.heap.size r c4 := ⟨Nat.le_refl _, hr⟩
          have qR4 := hS3.2.1
          clear hr
          have hA4 := hA3.grew g4
          have hE4 := hE3.grew g4
          have z4 := g4.size
          have hS4 := hS3.next g4
          refine hK' _ _ ⟨fun _ => hS4, ?_⟩
          clear hK' K'
          refine wpAnyN_take (i := 9) (v := .agg #[.bool false, .slice n.pa n.ps.length n.pc, .slice n.ta n.ts.length n.tc, .slice n.ka n.ks.length n.kc, .string r.ty, .int .i64 r.td, .string r.tt, .int .i64 r.od, .string r.ot, .slice r.ka r.kids.length r.kc, .int .i64 r.fill, .string r.ft, .slice (some ⟨c2.heap.size, 0, none⟩) n.ks.length n.ks.length]) rfl (by kernel_rfl) (by kernel_rfl) (by kernel_rfl) (by kernel_rfl) (fun _ _ _ h => h) (Or.inl ⟨rfl, fun w' hS => by unfold RN.val; go_simp⟩) hS4 ?_
          refine wpAnyN_one (i := 11) (by kernel_rfl) rfl rfl ?_
          intro K' hK'
          obtain ⟨q0, q1, q2⟩ := id hE4
          obtain ⟨e0, e1, e2, e3, e4, e5, e6, e7, e8, e9, e10, e11, e12⟩ := id q1
          have HQ := Lib.hid q1
          clear q0 q1
          go_wp2_with fail
          clear e0 e1 e2 e3 e4 e5 e6 e7 e8 e9 e10 e11 e12 q2
          refine ⟨fun h => (by cases h), ?_⟩
          refine wpAnyN_done (by kernel_rfl) ?_ _
          go_wp2_with fail
          generalize hF : (((((((((((((c4.setCell ⟨c0.heap.size, 0, none⟩ _).setCell ⟨c0.heap.size, 1, none⟩ _).setCell ⟨c0.heap.size, 2, none⟩ _).setCell ⟨c0.heap.size, 3, none⟩ _).setCell ⟨c0.heap.size, 4, none⟩ _).setCell ⟨c0.heap.size, 5, none⟩ _).setCell ⟨c0.heap.size, 6, none⟩ _).setCell ⟨c0.heap.size, 7, none⟩ _).setCell ⟨c0.heap.size, 8, none⟩ _).setCell ⟨c0.heap.size, 9, none⟩ _).setCell ⟨c0.heap.size, 10, none⟩ _).setCell ⟨c0.heap.size, 11, none⟩ _).setCell ⟨c0.heap.size, 12, none⟩ _) = F
          obtain ⟨fc, hk⟩ := put13 HQ.out hF
          clear hF
          go_meet
          exact ⟨c0.heap.size, c2.heap.size, c3.heap.size, c4.heap.size, r, rfl, findAt_mk hS4 hA4 hR4 (by omega) (by omega) (by omega) (by omega) (by omega) (by omega) hE4.1 (by rw [hlf]; exact fc) hk, hrl, hre⟩
      · intro K' hK'
        go_wp2_with fail
        have hA2 := ZA.out c1
        have g2 := Grew.alloc1 c1 (.cells (madeCells #[.int .i64 0, .string { data := #[] }] (n.ks.length * 2)) 24)
        have qA2 := hS1.2.1
        generalize c1.alloc (.cells (madeCells #[.int .i64 0, .string { data := #[] }] (n.ks.length * 2)) 24) = c2 at *
        have zA2 := hA2.1
        have hE2 := hE1.grew g2
        have z2 := g2.size
        have hS2 := hS1.next g2
        refine ⟨fun _ => hS2, ?_⟩
        refine wpAnyN_one (i := 3) (by kernel_rfl) rfl rfl ?_
        intro K' hK'
        go_wp2_with fail
        refine (CT.out c2 hS2.1).mono ?_
        rintro e c3 ⟨rfl, g3⟩
        have hA3 := hA2.grew g3
        have hE3 := hE2.grew g3
        have z3 := g3.size
        have hS3 := hS2.next g3
        refine hK' _ _ ⟨fun _ => hS3, ?_⟩
        clear hK' K'
        refine wpAnyN_one (i := 4) (by kernel_rfl) rfl rfl ?_
        intro K' hK'
        go_wp2_with fail
        refine (CR.out c3 hS3.1).mono ?_
        rintro e c4 ⟨r, rfl, g4, hr, hrl, hre⟩
        have hR4 : RuleAt c3.heap.size c4.heap.size r c4 := ⟨Nat.le_refl _, hr⟩
        have qR4 := hS3.2.1
        clear hr
        have hA4 := hA3.grew g4
        have hE4 := hE3.grew g4
        have z4 := g4.size
        have hS4 := hS3.next g4
        refine hK' _ _ ⟨fun _ => hS4, ?_⟩
        clear hK' K'
        refine wpAnyN_take (i := 9) (v := .agg #[.bool false, .slice n.pa n.ps.length n.pc, .slice n.ta n.ts.length n.tc, .slice n.ka n.ks.length n.kc, .string r.ty, .int .i64 r.td, .string r.tt, .int .i64 r.od, .string r.ot, .slice r.ka r.kids.length r.kc, .int .i64 r.fill, .string r.ft, .slice (some ⟨c1.heap.size, 0, none⟩) n.ks.length n.ks.length]) rfl (by kernel_rfl) (by kernel_rfl) (by kernel_rfl) (by kernel_rfl) (fun _ _ _ h => h) (Or.inl ⟨rfl, fun w' hS => by unfold RN.val; go_simp⟩) hS4 ?_
        refine wpAnyN_one (i := 11) (by kernel_rfl) rfl rfl ?_
        intro K' hK'
        obtain ⟨q0, q1, q2⟩ := id hE4
        obtain ⟨e0, e1, e2, e3, e4, e5, e6, e7, e8, e9, e10, e11, e12⟩ := id q1
        have HQ := Lib.hid q1
        clear q0 q1
        go_wp2_with fail
        clear e0 e1 e2 e3 e4 e5 e6 e7 e8 e9 e10 e11 e12 q2
        refine ⟨fun h => (by cases h), ?_⟩
        refine wpAnyN_done (by kernel_rfl) ?_ _
        go_wp2_with fail
        generalize hF : (((((((((((((c4.setCell ⟨c0.heap.size, 0, none⟩ _).setCell ⟨c0.heap.size, 1, none⟩ _).setCell ⟨c0.heap.size, 2, none⟩ _).setCell ⟨c0.heap.size, 3, none⟩ _).setCell ⟨c0.heap.size, 4, none⟩ _).setCell ⟨c0.heap.size, 5, none⟩ _).setCell ⟨c0.heap.size, 6, none⟩ _).setCell ⟨c0.heap.size, 7, none⟩ _).setCell ⟨c0.heap.size, 8, none⟩ _).setCell ⟨c0.heap.size, 9, none⟩ _).setCell ⟨c0.heap.size, 10, none⟩ _).setCell ⟨c0.heap.size, 11, none⟩ _).setCell ⟨c0.heap.size, 12, none⟩ _) = F
        obtain ⟨fc, hk⟩ := put13 HQ.out hF
        clear hF
        go_meet
        exact ⟨c0.heap.size, c1.heap.size, c3.heap.size, c4.heap.size, r, rfl, findAt_mk hS4 hA4 hR4 (by omega) (by omega) (by omega) (by omega) (by omega) (by omega) hE4.1 (by rw [hlf]; exact fc) hk, hrl, hre⟩
  case rest =>
    obtain ⟨eb, ab, lo, hi, r, rfl, hFA, hrl, hre⟩ := hcut
    obtain ⟨ka, hka⟩ : ∃ x, n.ka = x := ⟨_, rfl⟩
    have HKA := Lib.hid hka
    have HFA := Lib.hid hFA
    obtain ⟨⟨_, qz, _, ⟨_, _, _, n3⟩, _⟩, _⟩ := hFA
    rw [hka] at n3
    clear hka
    go_wp2_with fail
    clear n3
    go_loopw [29] (fun i wr => ∃ (k : Nat), k ≤ n.ks.length ∧ i = .int .i64 k ∧ FindAt w s n eb ab lo hi r (actsTo r.er.actOf (n.ks.map NT.er) k) wr) (fun i _ => n.ks.length - (intOf i).toNat)
    case atStart => exact ⟨0, by omega, rfl, by rw [actsTo_zero, List.length_map]; exact HFA.out⟩
    case round =>
      obtain ⟨k, hk1, rfl, hF⟩ := hrel
      have hal := actsTo_len r.er.actOf (n.ks.map NT.er) k (by rw [List.length_map]; exact hk1)
      rw [List.length_map] at hal
      have HAL := Lib.hid hal
      clear hal
      by_cases hlt : k < n.ks.length
      · have hkn := (NT.In_iff.1 (hn.grew hF.1.1)).2.2
        obtain ⟨b, o, hka2, _, hbh, c0, c1, c2, c3⟩ := hkn.at hlt
        obtain rfl : ka = some ⟨b, o, none⟩ := by rw [← HKA.out]; exact hka2
        have HX : Hid ((n.ks.getD k default).Ok w ∧ (n.ks.getD k default).er.bulk ≤ 1048576) := by
          show _ ∧ _
          have mx := getD_mem n.ks k hlt
          have b1 := T.bulk_kid (n := n.er) (k := (n.ks.getD k default).er) (by rw [NT.er_ks]; exact er_mem mx)
          exact ⟨(NT.In_iff.1 hn).2.2.2 _ mx, by omega⟩
        have HN : Hid ((actsTo r.er.actOf (n.ks.map NT.er) k).set k (r.er.actOf (n.ks.getD k default).er) = actsTo r.er.actOf (n.ks.map NT.er) (k + 1)) := by
          show _ = _
          have h := actsTo_set r.er.actOf (n.ks.map NT.er) k (by rw [List.length_map]; exact hlt)
          have e : (n.ks.map NT.er).getD k default = (n.ks.getD k default).er := by simp [List.getD, List.getElem?_eq_getElem hlt]
          rw [e] at h; exact h
        have hla : k < (actsTo r.er.actOf (n.ks.map NT.er) k).length := by rw [HAL.out]; exact hlt
        have hla2 : (k : Int) < ((actsTo r.er.actOf (n.ks.map NT.er) k).length : Int) := by omega
        have hla3 : (actsTo r.er.actOf (n.ks.map NT.er) k).length ≤ 1048576 := by rw [HAL.out]; exact l3
        clear hkn hka2 HAL
        generalize n.ks.getD k default = x at *
        generalize actsTo r.er.actOf (n.ks.map NT.er) k = acts at *
        have AC := Lib.hid (fun w1 (hg : Grew wr w1) => actOf_any r x w1 (RN.In.mono (hF.next hg).2.2.2.2.2.2.2.2.2.2.2 (Nat.zero_le _) (hF.next hg).2.2.2.2.2.2.2.2.2.2.1) hrl (HX.out.1.grew ((hF.next hg).1.1)) HX.out.2)
        unfold RN.val NT.val at AC
        go_wp2_with fail
        have hB0 : LoopBox w s n eb ab lo hi r acts x wr.heap.size (wr.alloc (.cells #[.bool x.lf, .slice x.pa x.ps.length x.pc, .slice x.ta x.ts.length x.tc, .slice x.ka x.ks.length x.kc] 35)) := ⟨hF.next (Grew.alloc1 _ _), ⟨by go_simp, by go_simp, by go_simp, by go_simp⟩, by simp, Nat.ne_of_gt hF.2.2.2.2.2.2.2.2.2.1.1⟩
        have hz := (Grew.alloc1 wr (.cells #[.bool x.lf, .slice x.pa x.ps.length x.pc, .slice x.ta x.ts.length x.tc, .slice x.ka x.ks.length x.kc] 35))
        generalize wr.alloc (.cells #[.bool x.lf, .slice x.pa x.ps.length x.pc, .slice x.ta x.ts.length x.tc, .slice x.ka x.ks.length x.kc] 35) = w1 at *
        have hS0 : LoopBox w s n eb ab lo hi r acts x wr.heap.size w1.drew := hB0.next (Grew.refl _).drew
        refine wp_region_need (LoopBox w s n eb ab lo hi r acts x wr.heap.size) (fun j => j.blt 8) (by kernel_rfl) ?_
        have gz := hz.drew
        generalize w1.drew = w2 at *
        clear c0 c1 c2 c3
        refine wpAnyN_take (i := 0) (v := .pointer (some ⟨eb, 12, none⟩)) rfl (by kernel_rfl) (by kernel_rfl) (by kernel_rfl) (by kernel_rfl) (fun _ _ _ h => h) (Or.inl ⟨rfl, fun w' hS => by go_simp⟩) hS0 ?_
        refine wpAnyN_take (i := 1) (v := .slice (some ⟨ab, 0, none⟩) acts.length acts.length) rfl (by kernel_rfl) (by kernel_rfl) (by kernel_rfl) (by kernel_rfl) (fun _ _ _ h => h) (Or.inl ⟨rfl, fun w' hS => by obtain ⟨⟨_, _, _, _, _, _, _, _, ⟨_, _, _, _, e4, e5, e6, e7, e8, e9, e10, e11, e12⟩, _, _⟩, ⟨x0, x1, x2, x3⟩, _, _⟩ := hS; go_simp⟩) hS0 ?_
        refine wpAnyN_take (i := 2) (v := .int .i64 k) rfl (by kernel_rfl) (by kernel_rfl) (by kernel_rfl) (by kernel_rfl) (fun _ _ _ h => h) (Or.inl ⟨rfl, fun w' hS => by go_simp⟩) hS0 ?_
        refine wpAnyN_take (i := 3) (v := .pointer (some ⟨eb, 4, none⟩)) rfl (by kernel_rfl) (by kernel_rfl) (by kernel_rfl) (by kernel_rfl) (fun _ _ _ h => h) (Or.inl ⟨rfl, fun w' hS => by go_simp⟩) hS0 ?_
        refine wpAnyN_take (i := 4) (v := .agg #[.string r.ty, .int .i64 r.td, .string r.tt, .int .i64 r.od, .string r.ot, .slice r.ka r.kids.length r.kc, .int .i64 r.fill, .string r.ft]) rfl (by kernel_rfl) (by kernel_rfl) (by kernel_rfl) (by kernel_rfl) (fun _ _ _ h => h) (Or.inl ⟨rfl, fun w' hS => by obtain ⟨⟨_, _, _, _, _, _, _, _, ⟨_, _, _, _, e4, e5, e6, e7, e8, e9, e10, e11, e12⟩, _, _⟩, ⟨x0, x1, x2, x3⟩, _, _⟩ := hS; go_simp⟩) hS0 ?_
        refine wpAnyN_take (i := 5) (v := .agg #[.bool x.lf, .slice x.pa x.ps.length x.pc, .slice x.ta x.ts.length x.tc, .slice x.ka x.ks.length x.kc]) rfl (by kernel_rfl) (by kernel_rfl) (by kernel_rfl) (by kernel_rfl) (fun _ _ _ h => h) (Or.inl ⟨rfl, fun w' hS => by obtain ⟨⟨_, _, _, _, _, _, _, _, ⟨_, _, _, _, e4, e5, e6, e7, e8, e9, e10, e11, e12⟩, _, _⟩, ⟨x0, x1, x2, x3⟩, _, _⟩ := hS; go_simp⟩) hS0 ?_
        refine wpAnyN_one (i := 6) (by kernel_rfl) rfl rfl ?_
        intro K' hK'
        go_wp2_with fail
        refine (AC.out w2 gz).mono ?_
        rintro e w3 ⟨rfl, g3⟩
        have hS3 := hS0.next g3
        unfold actVal
        refine hK' _ _ ⟨fun _ => hS3, ?_⟩
        clear hK' K'
        have HP := Lib.hid (fun F (hF : ((w3.setCell ⟨ab, k * 2, none⟩ (.int .i64 (r.er.actOf x.er).1)).setCell ⟨ab, k * 2 + 1, none⟩ (.string (r.er.actOf x.er).2)) = F) => (by subst hF; exact hS3.1.put hla (r.er.actOf x.er) : FindAt w s n eb ab lo hi r (acts.set k (r.er.actOf x.er)) F))
        generalize r.er.actOf x.er = av at *
        have HS := Lib.hid hS3
        obtain ⟨d0, d1⟩ : (∃ v, w3.cell? ⟨ab, k * 2, none⟩ = some v) ∧ (∃ v, w3.cell? ⟨ab, k * 2 + 1, none⟩ = some v) := by
          obtain ⟨b', o', e', _, _, hc⟩ := hS3.1.2.2.2.2.2.2.2.2.2.1.2.1.2 (by omega)
          injection e' with e'
          injection e' with e1 e2
          subst e1 e2
          have h0 := hc k hla 0 (by omega)
          have h1 := hc k hla 1 (by omega)
          rw [Nat.zero_add] at h0 h1
          exact ⟨⟨_, h0⟩, ⟨_, h1⟩⟩
        obtain ⟨v0, d0⟩ := d0
        obtain ⟨v1, d1⟩ := d1
        have df : ∀ j, w3.frozen? ⟨ab, j, none⟩ = false := fun j => hS3.1.2.2.2.2.2.2.2.2.2.1.2.2 (by omega) _ rfl j
        refine wpAnyN_take (i := 7) (v := .pointer (some ⟨ab, k * 2, none⟩)) rfl (by kernel_rfl) (by kernel_rfl) (by kernel_rfl) (by kernel_rfl) (fun _ _ _ h => h) (Or.inl ⟨rfl, fun w' hS => by go_simp⟩) hS3 ?_
        refine wpAnyN_one (i := 8) (by kernel_rfl) rfl rfl ?_
        intro K' hK'
        go_wp2_with fail
        refine ⟨fun h => (by cases h), ?_⟩
        refine wpAnyN_done (by kernel_rfl) ?_ _
        go_wp2_with fail
        generalize hF2 : (w3.setCell ⟨ab, k * 2, none⟩ _).setCell ⟨ab, k * 2 + 1, none⟩ _ = w4
        have hF4 := HP.out w4 hF2
        rw [HN.out] at hF4
        clear hF2 HP HS d0 d1 df
        go_roundw
        case rel => exact ⟨k + 1, by omega, by go_num, hF4⟩
        case measure => simp [intOf]; omega
      · obtain rfl : n.ks.length = k := by omega
        clear HAL hk1
        have hfull : actsTo r.er.actOf (n.ks.map NT.er) n.ks.length = (n.ks.map NT.er).map r.er.actOf := by
          have := actsTo_all r.er.actOf (n.ks.map NT.er)
          rwa [List.length_map] at this
        rw [hfull] at hF
        clear hfull
        have hlt2 : ¬ (n.ks.length : Int) < n.ks.length := by omega
        have hla : ((n.ks.map NT.er).map r.er.actOf).length ≤ 1048576 := by rw [List.length_map, List.length_map]; exact l3
        obtain ⟨acts, hacts⟩ : ∃ a, (n.ks.map NT.er).map r.er.actOf = a := ⟨_, rfl⟩
        rw [hacts] at hF hla
        have HACT := Lib.hid hacts
        clear hacts
        obtain ⟨e0, e1, e2, e3, e4, e5, e6, e7, e8, e9, e10, e11, e12⟩ := hF.2.2.2.2.2.2.2.2.1
        have LV : Hid (∀ w1, Calls Try.prog 26 #[.agg #[.bool false, .slice n.pa n.ps.length n.pc, .slice n.ta n.ts.length n.tc, .slice n.ka n.ks.length n.kc, .string r.ty, .int .i64 r.td, .string r.tt, .int .i64 r.od, .string r.ot, .slice r.ka r.kids.length r.kc, .int .i64 r.fill, .string r.ft, .slice (some ⟨ab, 0, none⟩) acts.length acts.length]] w1 fun e' w' => ∃ d2 d3 d4 : Nat, e' = .returned (looksVal (EN.mk n r (some ⟨ab, 0, none⟩) acts.length acts) w1.heap.size d2 d3 d4) ∧ LooksOk (EN.mk n r (some ⟨ab, 0, none⟩) acts.length acts) w1 d2 d3 d4 w') := by
          show ∀ w1, _
          intro w1
          have := looks_any (EN.mk n r (some ⟨ab, 0, none⟩) acts.length acts) w1
          unfold EN.val at this
          simp only at this
          rw [hlf] at this
          exact this
        go_wp2_with fail
        refine (LV.out wr).mono ?_
        rintro e' w5 ⟨d2, d3, d4, rfl, hL⟩
        have hF5 := hF.next hL.1
        unfold looksVal
        clear e0 e1 e2 e3 e4 e5 e6 e7 e8 e9 e10 e11 e12 LV
        generalize hev : (EN.mk n r (some ⟨ab, 0, none⟩) acts.length acts).val = ev at *
        have HEV := Lib.hid hev
        clear hev
        go_upto_region 10 with fail
        have hL2 := l2_mk (ev := ev) hn hF5 hL
        have hF6 := hF5.next (Grew.alloc1 w5 (.cells #[.nilFunc, .func (.func 49) #[] #[.pointer (some ⟨wr.heap.size, 0, none⟩), .pointer (some ⟨d2, 0, none⟩)], .func (.func 49) #[] #[.pointer (some ⟨wr.heap.size, 0, none⟩), .pointer (some ⟨d3, 0, none⟩)], .func (.func 49) #[] #[.pointer (some ⟨wr.heap.size, 0, none⟩), .pointer (some ⟨d4, 0, none⟩)], .func (.func 51) #[ev] #[], .func (.func 52) #[ev] #[], .func (.func 53) #[ev] #[]] 62))
        generalize w5.alloc (.cells #[.nilFunc, .func (.func 49) #[] #[.pointer (some ⟨wr.heap.size, 0, none⟩), .pointer (some ⟨d2, 0, none⟩)], .func (.func 49) #[] #[.pointer (some ⟨wr.heap.size, 0, none⟩), .pointer (some ⟨d3, 0, none⟩)], .func (.func 49) #[] #[.pointer (some ⟨wr.heap.size, 0, none⟩), .pointer (some ⟨d4, 0, none⟩)], .func (.func 51) #[ev] #[], .func (.func 52) #[ev] #[], .func (.func 53) #[ev] #[]] 62) = w6 at *
        obtain ⟨_, _, _, _, _, _, _, _, _, s9, s10, s11, s12, s13, s14, _⟩ := hF6.1.2.2.1
        have HIX := Lib.hid (order_index s)
        have HFT : Hid (findT s.er n.er = findAll r.er n.er s.er.order) := by
          show _ = _
          unfold findT
          rw [NT.er_lf, hlf, hre.out]; rfl
        have HC1 := Lib.hid (fun w' (h : L2 w (EN.mk n r (some ⟨ab, 0, none⟩) acts.length acts) ev wr.heap.size d2 d3 d4 w5.heap.size w') => l2_do (r := r.er) (n := n.er) h hla (by rw [NT.er_ks]; exact HACT.out) 1 d2 (Or.inl ⟨rfl, rfl⟩))
        have HC2 := Lib.hid (fun w' (h : L2 w (EN.mk n r (some ⟨ab, 0, none⟩) acts.length acts) ev wr.heap.size d2 d3 d4 w5.heap.size w') => l2_do (r := r.er) (n := n.er) h hla (by rw [NT.er_ks]; exact HACT.out) 2 d3 (Or.inr (Or.inl ⟨rfl, rfl⟩)))
        have HC3 := Lib.hid (fun w' (h : L2 w (EN.mk n r (some ⟨ab, 0, none⟩) acts.length acts) ev wr.heap.size d2 d3 d4 w5.heap.size w') => l2_do (r := r.er) (n := n.er) h hla (by rw [NT.er_ks]; exact HACT.out) 3 d4 (Or.inr (Or.inr ⟨rfl, rfl⟩)))
        have HC4 := Lib.hid (fun w' (h : L2 w (EN.mk n r (some ⟨ab, 0, none⟩) acts.length acts) ev wr.heap.size d2 d3 d4 w5.heap.size w') => l2_merge (r := r.er) (n := n.er) h HEV.out hb (NT.er_ks n).symm)
        have HC5 := Lib.hid (fun w' (h : L2 w (EN.mk n r (some ⟨ab, 0, none⟩) acts.length acts) ev wr.heap.size d2 d3 d4 w5.heap.size w') => l2_empty (r := r.er) (n := n.er) h HEV.out l3 (NT.er_ks n).symm)
        have HC6 := Lib.hid (fun w' (_ : L2 w (EN.mk n r (some ⟨ab, 0, none⟩) acts.length acts) ev wr.heap.size d2 d3 d4 w5.heap.size w') => l2_fill (w' := w') (r := r.er) (n := n.er) HEV.out (NT.er_ks n).symm rfl)
        have HL := Lib.hid hL2
        clear hL hF5 hF6 hL2
        go_wp2_with fail
        clear s9 s10 s11 s12 s13 s14
        obtain ⟨wo, rfl⟩ : ∃ wo : World, wo = wr := ⟨_, rfl⟩
        go_loopw [47] (fun i wr => ∃ (k : Nat), k ≤ 6 ∧ i = .int .i64 k ∧ L2 w (EN.mk n r (some ⟨ab, 0, none⟩) acts.length acts) ev wo.heap.size d2 d3 d4 w5.heap.size wr ∧ Hid (findAll r.er n.er (s.er.order.drop k) = findAll r.er n.er s.er.order)) (fun i _ => 6 - (intOf i).toNat)
        case atStart => exact ⟨0, by omega, rfl, HL.out, rfl⟩
        case round =>
          obtain ⟨k, hk1, rfl, hL2, HFA⟩ := hrel
          have HLr := Lib.hid hL2
          obtain ⟨hg, hz, ⟨⟨z0, z1, z2⟩, zf⟩, _, _, _, lbz, ⟨f1, f2, f3, f4, f5, f6⟩⟩ := id hL2
          clear hL2
          by_cases hlt : k < 6
          · have hix := HIX.out k hlt
            have hlt2 : (k : Int) < 6 := by omega
            have HNX := Lib.hid (fun (c : Int) (hc : s.er.order.getD k 0 = c) (h : (c < 1 ∨ 6 < c) ∨ ¬ 0 ≤ (lookT r.er n.er c).1) => (findAll_next (r := r.er) (n := n.er) (l := s.er.order) hlt hc h).symm.trans HFA.out)
            have HHE := Lib.hid (fun (c : Int) (hc : s.er.order.getD k 0 = c) h1 h6 (h : 0 ≤ (lookT r.er n.er c).1) => (findAll_here (r := r.er) (n := n.er) (l := s.er.order) hlt hc h1 h6 h).symm.trans HFA.out)
            obtain ⟨c, hc⟩ : ∃ c, s.er.order.getD k 0 = c := ⟨_, rfl⟩
            rw [hc] at hix
            have HN2 := Lib.hid (HNX.out c hc)
            have HH2 := Lib.hid (HHE.out c hc)
            clear hc HNX HHE
            by_cases hc0 : c < 1
            · have HV := Lib.hid (HN2.out (Or.inl (Or.inl hc0)))
              go_wp2_with fail
              go_roundw
              case rel => exact ⟨k + 1, by omega, by go_num, HLr.out, HV.out⟩
              case measure => simp [intOf]; omega
            · by_cases hc6 : 6 < c
              · have HV := Lib.hid (HN2.out (Or.inl (Or.inr hc6)))
                go_wp2_with fail
                go_roundw
                case rel => exact ⟨k + 1, by omega, by go_num, HLr.out, HV.out⟩
                case measure => simp [intOf]; omega
              · have hcs : c = 1 ∨ c = 2 ∨ c = 3 ∨ c = 4 ∨ c = 5 ∨ c = 6 := by omega
                rcases hcs with rfl | rfl | rfl | rfl | rfl | rfl
                · have HN3 := Lib.hid (fun h => HN2.out (Or.inr h))
                  have HH3 := Lib.hid (HH2.out (by omega) (by omega))
                  clear HN2 HH2 hc0 hc6
                  have CC := Lib.hid (HC1.out wr HLr.out)
                  generalize lookT r.er n.er 1 = la at *
                  obtain ⟨la1, la2⟩ := la
                  by_cases h0 : 0 ≤ la1
                  · have HV := Lib.hid (HFT.out.trans (HH3.out h0).symm)
                    clear HN3 HH3
                    go_wp2_with fail
                    refine CC.out.mono ?_
                    rintro e' w7 ⟨rfl, g7⟩
                    obtain ⟨_, hz7, ⟨⟨z0, z1, z2⟩, zf⟩, _⟩ := HLr.out.next g7
                    go_wp2_with fail
                    generalize hF : ((w7.setCell ⟨w.heap.size + 1 + 1, 0, none⟩ _).setCell ⟨w.heap.size + 1 + 1, 1, none⟩ _).setCell ⟨w.heap.size + 1 + 1, 2, none⟩ _ = F
                    obtain ⟨⟨q0, q1, q2⟩, hk⟩ := put3 ⟨z0, z1, z2⟩ hF
                    clear hF
                    refine bodyPost_ret (v := findVal (1, la1, la2)) (by simp [results, Try.results9, go_sem, findVal, q0, q1, q2]) rfl ⟨ret_val (by rw [HV.out]), (hg.trans g7).keep hk (fun x hx => by omega)⟩
                  · have HV := Lib.hid (HN3.out h0)
                    clear HN3 HH3
                    go_wp2_with fail
                    refine CC.out.mono ?_
                    rintro e' w7 ⟨rfl, g7⟩
                    go_wp2_with fail
                    go_roundw
                    case rel => exact ⟨k + 1, by omega, by go_num, HLr.out.next g7, HV.out⟩
                    case measure => simp [intOf]; omega
                · have HN3 := Lib.hid (fun h => HN2.out (Or.inr h))
                  have HH3 := Lib.hid (HH2.out (by omega) (by omega))
                  clear HN2 HH2 hc0 hc6
                  have CC := Lib.hid (HC2.out wr HLr.out)
                  generalize lookT r.er n.er 2 = la at *
                  obtain ⟨la1, la2⟩ := la
                  by_cases h0 : 0 ≤ la1
                  · have HV := Lib.hid (HFT.out.trans (HH3.out h0).symm)
                    clear HN3 HH3
                    go_wp2_with fail
                    refine CC.out.mono ?_
                    rintro e' w7 ⟨rfl, g7⟩
                    obtain ⟨_, hz7, ⟨⟨z0, z1, z2⟩, zf⟩, _⟩ := HLr.out.next g7
                    go_wp2_with fail
                    generalize hF : ((w7.setCell ⟨w.heap.size + 1 + 1, 0, none⟩ _).setCell ⟨w.heap.size + 1 + 1, 1, none⟩ _).setCell ⟨w.heap.size + 1 + 1, 2, none⟩ _ = F
                    obtain ⟨⟨q0, q1, q2⟩, hk⟩ := put3 ⟨z0, z1, z2⟩ hF
                    clear hF
                    refine bodyPost_ret (v := findVal (2, la1, la2)) (by simp [results, Try.results9, go_sem, findVal, q0, q1, q2]) rfl ⟨ret_val (by rw [HV.out]), (hg.trans g7).keep hk (fun x hx => by omega)⟩
                  · have HV := Lib.hid (HN3.out h0)
                    clear HN3 HH3
                    go_wp2_with fail
                    refine CC.out.mono ?_
                    rintro e' w7 ⟨rfl, g7⟩
                    go_wp2_with fail
                    go_roundw
                    case rel => exact ⟨k + 1, by omega, by go_num, HLr.out.next g7, HV.out⟩
                    case measure => simp [intOf]; omega
                · have HN3 := Lib.hid (fun h => HN2.out (Or.inr h))
                  have HH3 := Lib.hid (HH2.out (by omega) (by omega))
                  clear HN2 HH2 hc0 hc6
                  have CC := Lib.hid (HC3.out wr HLr.out)
                  generalize lookT r.er n.er 3 = la at *
                  obtain ⟨la1, la2⟩ := la
                  by_cases h0 : 0 ≤ la1
                  · have HV := Lib.hid (HFT.out.trans (HH3.out h0).symm)
                    clear HN3 HH3
                    go_wp2_with fail
                    refine CC.out.mono ?_
                    rintro e' w7 ⟨rfl, g7⟩
                    obtain ⟨_, hz7, ⟨⟨z0, z1, z2⟩, zf⟩, _⟩ := HLr.out.next g7
                    go_wp2_with fail
                    generalize hF : ((w7.setCell ⟨w.heap.size + 1 + 1, 0, none⟩ _).setCell ⟨w.heap.size + 1 + 1, 1, none⟩ _).setCell ⟨w.heap.size + 1 + 1, 2, none⟩ _ = F
                    obtain ⟨⟨q0, q1, q2⟩, hk⟩ := put3 ⟨z0, z1, z2⟩ hF
                    clear hF
                    refine bodyPost_ret (v := findVal (3, la1, la2)) (by simp [results, Try.results9, go_sem, findVal, q0, q1, q2]) rfl ⟨ret_val (by rw [HV.out]), (hg.trans g7).keep hk (fun x hx => by omega)⟩
                  · have HV := Lib.hid (HN3.out h0)
                    clear HN3 HH3
                    go_wp2_with fail
                    refine CC.out.mono ?_
                    rintro e' w7 ⟨rfl, g7⟩
                    go_wp2_with fail
                    go_roundw
                    case rel => exact ⟨k + 1, by omega, by go_num, HLr.out.next g7, HV.out⟩
                    case measure => simp [intOf]; omega
                · have HN3 := Lib.hid (fun h => HN2.out (Or.inr h))
                  have HH3 := Lib.hid (HH2.out (by omega) (by omega))
                  clear HN2 HH2 hc0 hc6
                  have CC := Lib.hid (HC4.out wr HLr.out)
                  generalize lookT r.er n.er 4 = la at *
                  obtain ⟨la1, la2⟩ := la
                  by_cases h0 : 0 ≤ la1
                  · have HV := Lib.hid (HFT.out.trans (HH3.out h0).symm)
                    clear HN3 HH3
                    go_wp2_with fail
                    refine CC.out.mono ?_
                    rintro e' w7 ⟨rfl, g7⟩
                    obtain ⟨_, hz7, ⟨⟨z0, z1, z2⟩, zf⟩, _⟩ := HLr.out.next g7
                    go_wp2_with fail
                    generalize hF : ((w7.setCell ⟨w.heap.size + 1 + 1, 0, none⟩ _).setCell ⟨w.heap.size + 1 + 1, 1, none⟩ _).setCell ⟨w.heap.size + 1 + 1, 2, none⟩ _ = F
                    obtain ⟨⟨q0, q1, q2⟩, hk⟩ := put3 ⟨z0, z1, z2⟩ hF
                    clear hF
                    refine bodyPost_ret (v := findVal (4, la1, la2)) (by simp [results, Try.results9, go_sem, findVal, q0, q1, q2]) rfl ⟨ret_val (by rw [HV.out]), (hg.trans g7).keep hk (fun x hx => by omega)⟩
                  · have HV := Lib.hid (HN3.out h0)
                    clear HN3 HH3
                    go_wp2_with fail
                    refine CC.out.mono ?_
                    rintro e' w7 ⟨rfl, g7⟩
                    go_wp2_with fail
                    go_roundw
                    case rel => exact ⟨k + 1, by omega, by go_num, HLr.out.next g7, HV.out⟩
                    case measure => simp [intOf]; omega
                · have HN3 := Lib.hid (fun h => HN2.out (Or.inr h))
                  have HH3 := Lib.hid (HH2.out (by omega) (by omega))
                  clear HN2 HH2 hc0 hc6
                  have CC := Lib.hid (HC5.out wr HLr.out)
                  generalize lookT r.er n.er 5 = la at *
                  obtain ⟨la1, la2⟩ := la
                  by_cases h0 : 0 ≤ la1
                  · have HV := Lib.hid (HFT.out.trans (HH3.out h0).symm)
                    clear HN3 HH3
                    go_wp2_with fail
                    refine CC.out.mono ?_
                    rintro e' w7 ⟨rfl, g7⟩
                    obtain ⟨_, hz7, ⟨⟨z0, z1, z2⟩, zf⟩, _⟩ := HLr.out.next g7
                    go_wp2_with fail
                    generalize hF : ((w7.setCell ⟨w.heap.size + 1 + 1, 0, none⟩ _).setCell ⟨w.heap.size + 1 + 1, 1, none⟩ _).setCell ⟨w.heap.size + 1 + 1, 2, none⟩ _ = F
                    obtain ⟨⟨q0, q1, q2⟩, hk⟩ := put3 ⟨z0, z1, z2⟩ hF
                    clear hF
                    refine bodyPost_ret (v := findVal (5, la1, la2)) (by simp [results, Try.results9, go_sem, findVal, q0, q1, q2]) rfl ⟨ret_val (by rw [HV.out]), (hg.trans g7).keep hk (fun x hx => by omega)⟩
                  · have HV := Lib.hid (HN3.out h0)
                    clear HN3 HH3
                    go_wp2_with fail
                    refine CC.out.mono ?_
                    rintro e' w7 ⟨rfl, g7⟩
                    go_wp2_with fail
                    go_roundw
                    case rel => exact ⟨k + 1, by omega, by go_num, HLr.out.next g7, HV.out⟩
                    case measure => simp [intOf]; omega
                · have HN3 := Lib.hid (fun h => HN2.out (Or.inr h))
                  have HH3 := Lib.hid (HH2.out (by omega) (by omega))
                  clear HN2 HH2 hc0 hc6
                  have CC := Lib.hid (HC6.out wr HLr.out)
                  generalize lookT r.er n.er 6 = la at *
                  obtain ⟨la1, la2⟩ := la
                  by_cases h0 : 0 ≤ la1
                  · have HV := Lib.hid (HFT.out.trans (HH3.out h0).symm)
                    clear HN3 HH3
                    go_wp2_with fail
                    refine CC.out.mono ?_
                    rintro e' w7 ⟨rfl, g7⟩
                    obtain ⟨_, hz7, ⟨⟨z0, z1, z2⟩, zf⟩, _⟩ := HLr.out.next g7
                    go_wp2_with fail
                    generalize hF : ((w7.setCell ⟨w.heap.size + 1 + 1, 0, none⟩ _).setCell ⟨w.heap.size + 1 + 1, 1, none⟩ _).setCell ⟨w.heap.size + 1 + 1, 2, none⟩ _ = F
                    obtain ⟨⟨q0, q1, q2⟩, hk⟩ := put3 ⟨z0, z1, z2⟩ hF
                    clear hF
                    refine bodyPost_ret (v := findVal (6, la1, la2)) (by simp [results, Try.results9, go_sem, findVal, q0, q1, q2]) rfl ⟨ret_val (by rw [HV.out]), (hg.trans g7).keep hk (fun x hx => by omega)⟩
                  · have HV := Lib.hid (HN3.out h0)
                    clear HN3 HH3
                    go_wp2_with fail
                    refine CC.out.mono ?_
                    rintro e' w7 ⟨rfl, g7⟩
                    go_wp2_with fail
                    go_roundw
                    case rel => exact ⟨k + 1, by omega, by go_num, HLr.out.next g7, HV.out⟩
                    case measure => simp [intOf]; omega
          · obtain rfl : k = 6 := by omega
            have HV : Hid (findT s.er n.er = (0, 0, 0)) := by
              show _ = _
              rw [HFT.out, ← HFA.out]; rfl
            go_wp2_with fail
            generalize hF : ((wr.setCell ⟨w.heap.size + 1 + 1, 0, none⟩ _).setCell ⟨w.heap.size + 1 + 1, 1, none⟩ _).setCell ⟨w.heap.size + 1 + 1, 2, none⟩ _ = F
            obtain ⟨⟨q0, q1, q2⟩, hk⟩ := put3 ⟨z0, z1, z2⟩ hF
            clear hF
            refine bodyPost_ret (v := findVal (0, 0, 0)) (by simp [results, Try.results9, go_sem, findVal, q0, q1, q2]) rfl ⟨ret_val (by rw [HV.out]), hg.keep hk (fun x hx => by omega)⟩
end Go.Proofs.Ytnkmcbhpmbjkpaa
