/- The law redlinelaw16.ValidLeaf: the contract, one of three cases. -/
import Derived.Test.YtnkmcbhpmbjkpaaLeafBase
namespace Go.Proofs.Ytnkmcbhpmbjkpaa
open Go Go.RowKit

set_option maxHeartbeats 40000000 in
set_option maxRecDepth 100000 in
theorem leafLaw_B (s : SN) (n : NT) (kind : ByteArray) (w : World) (hfill : (s.er.ruleOf kind).fill = 0) (hs : s.Ok w) (hsm : s.Small) (hn : n.Ok w) (hb : n.er.bulk ≤ 1048576) (hkl : kind.size ≤ 1048576) :
    Calls Try.prog 4 #[s.val, n.val, .string kind] w fun e w' => e = .returned (.bool true) ∧ Grew w w' := by
  have HFL := Lib.hid hfill
  clear hfill
  have CL := Lib.hid (fun w1 : World => live16_any w1)
  have CW := Lib.hid (fun w1 (hg : Grew w w1) => few16_any s n w1 (hs.grew hg) hsm (hn.grew hg) hb)
  have hlok : ∀ w1, Grew w w1 → (NT.mk true n.pa n.pc n.ps n.ta n.tc n.ts none 0 []).Ok w1 := fun w1 hg => by
    have h := NT.In_iff.1 (hn.grew hg)
    exact NT.Ok.of h.1 h.2.1 kidsIn_nil
  have hlb : (NT.mk true n.pa n.pc n.ps n.ta n.tc n.ts none 0 []).er.bulk ≤ 1048576 := by
    have h2 := T.bulk_eq n.er
    simp only [NT.er_ps, NT.er_ts] at h2
    rw [T.bulk_eq]; simp [NT.er_eq, T.bulkAll]; omega
  have CF := Lib.hid (fun w1 (hg : Grew w w1) => find_any s _ w1 (hs.grew hg) hsm (hlok w1 hg) hlb)
  have CU := Lib.hid (fun w1 (hg : Grew w w1) => valid_any s hsm _ w1 (hs.grew hg) (hlok w1 hg) hlb)
  rw [findT_leaf s.er (NT.mk true n.pa n.pc n.ps n.ta n.tc n.ts none 0 []).er (by simp)] at CF
  rw [validT_leaf s.er (NT.mk true n.pa n.pc n.ps n.ta n.tc n.ts none 0 []).er (by simp) (by simp)] at CU
  have CE := Lib.hid (fun w1 => elem_any kind none 0 [] w1 kidsIn_nil)
  have CR := Lib.hid (fun w1 (hg : Grew w w1) => ruleOf_any s kind w1 (hs.grew hg) hsm)
  have HV := Lib.hid (fun (x : NT) w1 (hg : Grew w w1) (hx : x.Ok w1) (hxb : x.er.bulk ≤ 1048576) => valid_any s hsm x w1 (hs.grew hg) hx hxb)
  have HX := Lib.hid (fun (x : NT) w1 (hg : Grew w w1) (hx : x.Ok w1) (hxb : x.er.bulk ≤ 1048576) => find_any s x w1 (hs.grew hg) hsm hx hxb)
  clear hlok hlb
  have hB0 := LawBox.new w s n
  unfold SN.val at *
  unfold NT.val at CW CF CU ⊢
  simp only [NT.lf_mk, NT.pa_mk, NT.pc_mk, NT.ps_mk, NT.ta_mk, NT.tc_mk, NT.ts_mk, NT.ka_mk, NT.kc_mk, NT.ks_mk, List.length_nil] at CF CU
  unfold findVal at CF
  go_enter Try.func4, Try.ntmps4
  go_wp2_with fail
  generalize (w.alloc (.cells #[.slice s.ra s.rules.length s.rc, .string s.els.ty, .int .i64 s.els.td, .string s.els.tt, .int .i64 s.els.od, .string s.els.ot, .slice s.els.ka s.els.kids.length s.els.kc, .int .i64 s.els.fill, .string s.els.ft, .int .i64 s.o0, .int .i64 s.o1, .int .i64 s.o2, .int .i64 s.o3, .int .i64 s.o4, .int .i64 s.o5, .int .i64 s.cap] 30)).alloc (.cells #[.bool n.lf, .slice n.pa n.ps.length n.pc, .slice n.ta n.ts.length n.tc, .slice n.ka n.ks.length n.kc] 35) = w1 at *
  refine (CL.out w1).mono ?_
  rintro e w2 ⟨rfl, g2⟩
  have hB2 := hB0.next g2
  have C := Lib.hid (CW.out w2 hB2.1)
  have HB2 := Lib.hid hB2
  obtain ⟨_, _, ⟨s0, s1, s2, s3, s4, s5, s6, s7, s8, s9, s10, s11, s12, s13, s14, s15⟩, ⟨n0, n1, n2, n3⟩⟩ := hB2
  clear hB0 g2
  go_wp2_with fail
  refine C.out.mono ?_
  clear s0 s1 s2 s3 s4 s5 s6 s7 s8 s9 s10 s11 s12 s13 s14 s15 n0 n1 n2 n3
  rintro e w3 ⟨b, rfl, g3⟩
  have hB3 := HB2.out.next g3
  clear g3 C HB2
  cases b with
  | false =>
    go_wp2_with fail
    go_ret
    exact ⟨rfl, hB3.1⟩
  | true =>
    by_cases hk100 : (100 : Int) < kind.size
    · go_wp2_with fail
      go_ret
      exact ⟨rfl, hB3.1⟩
    · have HB3 := Lib.hid hB3
      obtain ⟨_, _, ⟨s0, s1, s2, s3, s4, s5, s6, s7, s8, s9, s10, s11, s12, s13, s14, s15⟩, ⟨n0, n1, n2, n3⟩⟩ := hB3
      go_upto_region 6 with fail
      have hx0 : LeafBox w s (NT.mk true n.pa n.pc n.ps n.ta n.tc n.ts none 0 []) w3.heap.size (w3.alloc (.cells #[.bool true, .slice n.pa n.ps.length n.pc, .slice n.ta n.ts.length n.tc, .slice none 0 0] 35)) := ⟨HB3.out.1.trans (Grew.alloc1 _ _), (HB3.out.next (Grew.alloc1 _ _)).2.2.1, (by have := HB3.out.2.1; simp; omega), by simp, ⟨by go_simp, by go_simp, by go_simp, by go_simp⟩⟩
      generalize w3.alloc (.cells #[.bool true, .slice n.pa n.ps.length n.pc, .slice n.ta n.ts.length n.tc, .slice none 0 0] 35) = w4 at *
      clear s0 s1 s2 s3 s4 s5 s6 s7 s8 s9 s10 s11 s12 s13 s14 s15 n0 n1 n2 n3
      as_aux_lemma =>
        have HX0 := Lib.hid hx0
        obtain ⟨_, ⟨s0, s1, s2, s3, s4, s5, s6, s7, s8, s9, s10, s11, s12, s13, s14, s15⟩, _, _, ⟨n0, n1, n2, n3⟩⟩ := hx0
        simp only [NT.lf_mk, NT.pa_mk, NT.pc_mk, NT.ps_mk, NT.ta_mk, NT.tc_mk, NT.ts_mk, NT.ka_mk, NT.kc_mk, NT.ks_mk, List.length_nil] at n0 n1 n2 n3
        go_wp2_with fail
        refine (CF.out w4 HX0.out.1).mono ?_
        clear s0 s1 s2 s3 s4 s5 s6 s7 s8 s9 s10 s11 s12 s13 s14 s15 n0 n1 n2 n3
        rintro e w5 ⟨rfl, g5⟩
        have HX1 := Lib.hid (HX0.out.next g5)
        clear HX0 g5
        obtain ⟨_, ⟨s0, s1, s2, s3, s4, s5, s6, s7, s8, s9, s10, s11, s12, s13, s14, s15⟩, _, _, ⟨n0, n1, n2, n3⟩⟩ := id HX1.out
        simp only [NT.lf_mk, NT.pa_mk, NT.pc_mk, NT.ps_mk, NT.ta_mk, NT.tc_mk, NT.ts_mk, NT.ka_mk, NT.kc_mk, NT.ks_mk, List.length_nil] at n0 n1 n2 n3
        go_wp2_with fail
        refine (CU.out w5 HX1.out.1).mono ?_
        clear s0 s1 s2 s3 s4 s5 s6 s7 s8 s9 s10 s11 s12 s13 s14 s15 n0 n1 n2 n3
        rintro e w6 ⟨rfl, g6⟩
        have HX2 := Lib.hid (HX1.out.next g6)
        clear HX1 g6
        go_wp2_with fail
        refine (CE.out w6).mono ?_
        rintro e w7 ⟨x, rfl, g7, hx, hxe⟩
        have HX3 := Lib.hid (HX2.out.next g7)
        clear HX2 g7
        have hxb : x.er.bulk ≤ 1048576 := by
          rw [hxe.out, T.bulk_eq]
          cases kind.toList.isEmpty <;> simp [propsBulk, T.bulkAll, show typeKey.size = 4 from rfl] <;> omega
        have hxk : x.er.ks = [] := by rw [hxe.out]; rfl
        have hxt : x.er.type = kind := by rw [hxe.out]; exact elem_type kind []
        clear hxe
        unfold NT.val
        go_upto_region 9 with fail
        have hB5 : LeafBox w s x w7.heap.size (w7.alloc (.cells #[.bool x.lf, .slice x.pa x.ps.length x.pc, .slice x.ta x.ts.length x.tc, .slice x.ka x.ks.length x.kc] 35)) := ⟨HX3.out.1.trans (Grew.alloc1 _ _), (HX3.out.next (Grew.alloc1 _ _)).2.1, (by have := HX3.out.2.2.1; simp; omega), by simp, ⟨by go_simp, by go_simp, by go_simp, by go_simp⟩⟩
        have hg5 := Grew.alloc1 w7 (.cells #[.bool x.lf, .slice x.pa x.ps.length x.pc, .slice x.ta x.ts.length x.tc, .slice x.ka x.ks.length x.kc] 35)
        generalize w7.alloc (.cells #[.bool x.lf, .slice x.pa x.ps.length x.pc, .slice x.ta x.ts.length x.tc, .slice x.ka x.ks.length x.kc] 35) = w5 at *
        generalize w7.heap.size = b at *
        as_aux_lemma =>
          have CV0 := Lib.hid (fun w1 (hg : Grew w w1) (hx : x.Ok w1) => HV.out x w1 hg hx hxb)
          have CX0 := Lib.hid (fun w1 (hg : Grew w w1) (hx : x.Ok w1) => HX.out x w1 hg hx hxb)
          have hty := hxt
          have HVB := Lib.hid (validT_bare s.er x.er hxk)
          have HFB := Lib.hid (fun hf => findT_bare s.er x.er hxk hf)
          rw [hxt] at HFB
          clear hty hxt hxk
          have CV := Lib.hid (fun w1 (h : LeafBox w s x b w1) (hx : x.Ok w1) => CV0.out w1 h.1 hx)
          have CX := Lib.hid (fun w1 (h : LeafBox w s x b w1) (hx : x.Ok w1) => CX0.out w1 h.1 hx)
          have hx5 := NT.Ok.grew hx hg5
          have HXO := Lib.hid hx5
          clear CV0 CX0 hx hx5 hg5
          unfold NT.val at CV CX
          have hfill := HFL.out
          rw [HFB.out hfill] at CX HVB
          have hv : validT s.er x.er = true := HVB.out
          rw [hv] at CV
          clear hv HVB HFB
          have hS0 : LeafBox w s x b w5.drew := hB5.next (Grew.refl _).drew
          refine wp_region_need (LeafBox w s x b) (fun j => j.blt 21) (by kernel_rfl) ?_
          have g0 : Grew w5 w5.drew := (Grew.refl _).drew
          generalize w5.drew = c0 at *
          refine wpAnyN_take (i := 0) (v := .agg #[.slice s.ra s.rules.length s.rc, .string s.els.ty, .int .i64 s.els.td, .string s.els.tt, .int .i64 s.els.od, .string s.els.ot, .slice s.els.ka s.els.kids.length s.els.kc, .int .i64 s.els.fill, .string s.els.ft, .int .i64 s.o0, .int .i64 s.o1, .int .i64 s.o2, .int .i64 s.o3, .int .i64 s.o4, .int .i64 s.o5, .int .i64 s.cap]) rfl (by kernel_rfl) (by kernel_rfl) (by kernel_rfl) (by kernel_rfl) (fun _ _ _ h => h) (Or.inl ⟨rfl, fun w' hS => by obtain ⟨_, ⟨s0, s1, s2, s3, s4, s5, s6, s7, s8, s9, s10, s11, s12, s13, s14, s15⟩, _⟩ := hS; go_simp⟩) hS0 ?_
          refine wpAnyN_take (i := 1) (v := .agg #[.bool x.lf, .slice x.pa x.ps.length x.pc, .slice x.ta x.ts.length x.tc, .slice x.ka x.ks.length x.kc]) rfl (by kernel_rfl) (by kernel_rfl) (by kernel_rfl) (by kernel_rfl) (fun _ _ _ h => h) (Or.inl ⟨rfl, fun w' hS => by obtain ⟨_, _, _, _, ⟨n0, n1, n2, n3⟩⟩ := hS; go_simp⟩) hS0 ?_
          refine wpAnyN_take (i := 3) (v := .agg #[.slice s.ra s.rules.length s.rc, .string s.els.ty, .int .i64 s.els.td, .string s.els.tt, .int .i64 s.els.od, .string s.els.ot, .slice s.els.ka s.els.kids.length s.els.kc, .int .i64 s.els.fill, .string s.els.ft, .int .i64 s.o0, .int .i64 s.o1, .int .i64 s.o2, .int .i64 s.o3, .int .i64 s.o4, .int .i64 s.o5, .int .i64 s.cap]) rfl (by kernel_rfl) (by kernel_rfl) (by kernel_rfl) (by kernel_rfl) (fun _ _ _ h => h) (Or.inl ⟨rfl, fun w' hS => by obtain ⟨_, ⟨s0, s1, s2, s3, s4, s5, s6, s7, s8, s9, s10, s11, s12, s13, s14, s15⟩, _⟩ := hS; go_simp⟩) hS0 ?_
          refine wpAnyN_take (i := 4) (v := .agg #[.bool x.lf, .slice x.pa x.ps.length x.pc, .slice x.ta x.ts.length x.tc, .slice x.ka x.ks.length x.kc]) rfl (by kernel_rfl) (by kernel_rfl) (by kernel_rfl) (by kernel_rfl) (fun _ _ _ h => h) (Or.inl ⟨rfl, fun w' hS => by obtain ⟨_, _, _, _, ⟨n0, n1, n2, n3⟩⟩ := hS; go_simp⟩) hS0 ?_
          refine wpAnyN_take (i := 6) (v := .agg #[.int .i64 0, .int .i64 0, .int .i64 0]) rfl (by kernel_rfl) (by kernel_rfl) (by kernel_rfl) (by kernel_rfl) (fun _ _ _ h => h) (Or.inl ⟨rfl, fun w' hS => by go_simp⟩) hS0 ?_
          refine wpAnyN_one (i := 2) (by kernel_rfl) rfl rfl ?_
          intro K' hK'
          go_wp2_with fail
          refine (CV.out c0 hS0 (NT.Ok.grew HXO.out g0)).mono ?_
          rintro e c1 ⟨rfl, g1⟩
          have hS1 := hS0.next g1
          refine hK' _ _ ⟨fun _ => hS1, ?_⟩
          clear hK' K'
          as_aux_lemma =>
            refine wpAnyN_one (i := 5) (by kernel_rfl) rfl rfl ?_
            intro K' hK'
            go_wp2_with fail
            refine (CX.out c1 hS1 (NT.Ok.grew HXO.out (g0.trans g1))).mono ?_
            rintro e c2 ⟨rfl, g2⟩
            have hS2 := hS1.next g2
            unfold findVal
            refine hK' _ _ ⟨fun _ => hS2, ?_⟩
            clear hK' K'
            refine wpAnyN_take (i := 7) (v := .bool true) rfl (by kernel_rfl) (by kernel_rfl) (by kernel_rfl) (by kernel_rfl) (fun _ _ _ h => h) (Or.inl ⟨rfl, fun w' hS => by go_simp⟩) hS2 ?_
            refine wpAnyN_take (i := 8) (v := .bool true) rfl (by kernel_rfl) (by kernel_rfl) (by kernel_rfl) (by kernel_rfl) (fun _ _ _ h => h) (Or.inl ⟨rfl, fun w' hS => by go_simp⟩) hS2 ?_
            refine wpAnyN_take (i := 9) (v := .bool true) rfl (by kernel_rfl) (by kernel_rfl) (by kernel_rfl) (by kernel_rfl) (fun _ _ _ h => h) (Or.inl ⟨rfl, fun w' hS => by go_simp⟩) hS2 ?_
            refine wpAnyN_take (i := 10) (v := .agg #[.slice s.ra s.rules.length s.rc, .string s.els.ty, .int .i64 s.els.td, .string s.els.tt, .int .i64 s.els.od, .string s.els.ot, .slice s.els.ka s.els.kids.length s.els.kc, .int .i64 s.els.fill, .string s.els.ft, .int .i64 s.o0, .int .i64 s.o1, .int .i64 s.o2, .int .i64 s.o3, .int .i64 s.o4, .int .i64 s.o5, .int .i64 s.cap]) rfl (by kernel_rfl) (by kernel_rfl) (by kernel_rfl) (by kernel_rfl) (fun _ _ _ h => h) (Or.inl ⟨rfl, fun w' hS => by obtain ⟨_, ⟨s0, s1, s2, s3, s4, s5, s6, s7, s8, s9, s10, s11, s12, s13, s14, s15⟩, _⟩ := hS; go_simp⟩) hS2 ?_
            refine wpAnyN_take (i := 11) (v := .string kind) rfl (by kernel_rfl) (by kernel_rfl) (by kernel_rfl) (by kernel_rfl) (fun _ _ _ h => h) (Or.inl ⟨rfl, fun w' hS => by go_simp⟩) hS2 ?_
            as_aux_lemma =>
              refine wpAnyN_one (i := 12) (by kernel_rfl) rfl rfl ?_
              intro K' hK'
              go_wp2_with fail
              refine (CR.out c2 hS2.1).mono ?_
              rintro e c3 ⟨r, rfl, g3, _, _, hre⟩
              have hS3 := hS2.next g3
              have hfl := congrArg RuleT.fill hre.out
              rw [RN.er_fill] at hfl
              rw [hfill] at hfl
              unfold RN.val
              rw [hfl]
              refine hK' _ _ ⟨fun _ => hS3, ?_⟩
              clear hK' K'
              have hrf := rule_fill r.ty r.tt r.ot r.ft r.td r.od 0 (.slice r.ka r.kids.length r.kc)
              refine wpAnyN_one (i := 13) (by kernel_rfl) rfl rfl ?_
              intro K' hK'
              go_wp2_with fail
              refine ⟨fun _ => hS3, ?_⟩
              refine wpAnyN_one (i := 14) (by kernel_rfl) rfl rfl ?_
              intro K' hK'
              go_wp2_with fail
              refine ⟨fun _ => hS3, ?_⟩
              refine wpAnyN_one (i := 15) (by kernel_rfl) rfl rfl ?_
              intro K' hK'
              go_wp2_with fail
              refine ⟨fun _ => hS3, ?_⟩
              refine wpAnyN_take (i := 16) (v := .agg #[.slice s.ra s.rules.length s.rc, .string s.els.ty, .int .i64 s.els.td, .string s.els.tt, .int .i64 s.els.od, .string s.els.ot, .slice s.els.ka s.els.kids.length s.els.kc, .int .i64 s.els.fill, .string s.els.ft, .int .i64 s.o0, .int .i64 s.o1, .int .i64 s.o2, .int .i64 s.o3, .int .i64 s.o4, .int .i64 s.o5, .int .i64 s.cap]) rfl (by kernel_rfl) (by kernel_rfl) (by kernel_rfl) (by kernel_rfl) (fun _ _ _ h => h) (Or.inl ⟨rfl, fun w' hS => by obtain ⟨_, ⟨s0, s1, s2, s3, s4, s5, s6, s7, s8, s9, s10, s11, s12, s13, s14, s15⟩, _⟩ := hS; go_simp⟩) hS3 ?_
              refine wpAnyN_take (i := 17) (v := .agg #[.bool x.lf, .slice x.pa x.ps.length x.pc, .slice x.ta x.ts.length x.tc, .slice x.ka x.ks.length x.kc]) rfl (by kernel_rfl) (by kernel_rfl) (by kernel_rfl) (by kernel_rfl) (fun _ _ _ h => h) (Or.inl ⟨rfl, fun w' hS => by obtain ⟨_, _, _, _, ⟨n0, n1, n2, n3⟩⟩ := hS; go_simp⟩) hS3 ?_
              refine wpAnyN_one (i := 18) (by kernel_rfl) rfl rfl ?_
              intro K' hK'
              go_wp2_with fail
              refine (CV.out c3 hS3 (NT.Ok.grew HXO.out (g0.trans (g1.trans (g2.trans g3))))).mono ?_
              rintro e c4 ⟨rfl, g4⟩
              have hS4 := hS3.next g4
              refine hK' _ _ ⟨fun _ => hS4, ?_⟩
              clear hK' K'
              refine wpAnyN_one (i := 19) (by kernel_rfl) rfl rfl ?_
              intro K' hK'
              go_wp2_with fail
              refine ⟨fun _ => hS4, ?_⟩
              refine wpAnyN_one (i := 20) (by kernel_rfl) rfl rfl ?_
              intro K' hK'
              go_wp2_with fail
              refine ⟨fun _ => hS4, ?_⟩
              refine wpAnyN_one (i := 21) (by kernel_rfl) rfl rfl ?_
              intro K' hK'
              go_wp2_with fail
              refine ⟨fun h => (by cases h), ?_⟩
              refine wpAnyN_done (by kernel_rfl) ?_ _
              go_wp2_with fail
              go_ret
              exact ⟨rfl, hS4.1⟩
end Go.Proofs.Ytnkmcbhpmbjkpaa
