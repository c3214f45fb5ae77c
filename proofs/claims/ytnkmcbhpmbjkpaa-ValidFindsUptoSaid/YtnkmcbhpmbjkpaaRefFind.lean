/- redlineref16.Find: the contract. -/
import Derived.Test.YtnkmcbhpmbjkpaaRefFindPure
import Derived.Test.YtnkmcbhpmbjkpaaGet
import Derived.Test.YtnkmcbhpmbjkpaaTake
namespace Go.Proofs.Ytnkmcbhpmbjkpaa
open Go Go.RowKit

/-- a rule's box -/
def RN.Bx (r : RN) (b : Nat) (w : World) : Prop := w.cell? ⟨b, 0, none⟩ = some (.string r.ty) ∧ w.cell? ⟨b, 1, none⟩ = some (.int .i64 r.td) ∧ w.cell? ⟨b, 2, none⟩ = some (.string r.tt) ∧ w.cell? ⟨b, 3, none⟩ = some (.int .i64 r.od) ∧ w.cell? ⟨b, 4, none⟩ = some (.string r.ot) ∧ w.cell? ⟨b, 5, none⟩ = some (.slice r.ka r.kids.length r.kc) ∧ w.cell? ⟨b, 6, none⟩ = some (.int .i64 r.fill) ∧ w.cell? ⟨b, 7, none⟩ = some (.string r.ft)
theorem RN.Bx.grew {r : RN} {b : Nat} {w w' : World} (h : r.Bx b w) (hg : Grew w w') (hb : b < w.heap.size) : r.Bx b w' := by
  have q : ∀ j, w'.cell? ⟨b, j, none⟩ = w.cell? ⟨b, j, none⟩ := fun j => hg.cell (p := ⟨b, j, none⟩) hb
  unfold RN.Bx at h ⊢
  simp only [q]; exact h
/-- a rule's box, still empty -/
def RZ (b : Nat) (w : World) : Prop := b < w.heap.size ∧ (w.cell? ⟨b, 0, none⟩ = some (.string { data := #[] }) ∧ w.cell? ⟨b, 1, none⟩ = some (.int .i64 0) ∧ w.cell? ⟨b, 2, none⟩ = some (.string { data := #[] }) ∧ w.cell? ⟨b, 3, none⟩ = some (.int .i64 0) ∧ w.cell? ⟨b, 4, none⟩ = some (.string { data := #[] }) ∧ w.cell? ⟨b, 5, none⟩ = some (.slice none 0 0) ∧ w.cell? ⟨b, 6, none⟩ = some (.int .i64 0) ∧ w.cell? ⟨b, 7, none⟩ = some (.string { data := #[] })) ∧ ∀ j, w.frozen? ⟨b, j, none⟩ = false
theorem RZ.grew {b : Nat} {w w' : World} (h : RZ b w) (hg : Grew w w') : RZ b w' := by
  have q : ∀ j, w'.cell? ⟨b, j, none⟩ = w.cell? ⟨b, j, none⟩ := fun j => hg.cell (p := ⟨b, j, none⟩) h.1
  refine ⟨Nat.lt_of_lt_of_le h.1 hg.size, ?_, fun j => (hg.frozen (p := ⟨b, j, none⟩) h.1).trans (h.2.2 j)⟩
  simp only [q]; exact h.2.1
theorem rz_new (w : World) : RZ w.heap.size (w.alloc (.cells #[.string { data := #[] }, .int .i64 0, .string { data := #[] }, .int .i64 0, .string { data := #[] }, .slice none 0 0, .int .i64 0, .string { data := #[] }] 27)) := ⟨by simp, ⟨by go_simp, by go_simp, by go_simp, by go_simp, by go_simp, by go_simp, by go_simp, by go_simp⟩, fun j => by rw [World.frozen?_alloc_at _ _ _ _ rfl]⟩
theorem set8_keeps {W W' : World} {b : Nat} {u0 u1 u2 u3 u4 u5 u6 u7 : Value} (hW : W' = ((((((((W.setCell ⟨b, 0, none⟩ u0).setCell ⟨b, 1, none⟩ u1).setCell ⟨b, 2, none⟩ u2).setCell ⟨b, 3, none⟩ u3).setCell ⟨b, 4, none⟩ u4).setCell ⟨b, 5, none⟩ u5).setCell ⟨b, 6, none⟩ u6).setCell ⟨b, 7, none⟩ u7)) : Keeps (· = b) W W' := by
  subst hW
  exact ((((((((Keeps.refl (· = b) W).own 0 u0).own 1 u1).own 2 u2).own 3 u3).own 4 u4).own 5 u5).own 6 u6).own 7 u7
/-- where redlineref16.Find stands behind its rule -/
def RFAt (w : World) (s : SN) (n : NT) (rb : Nat) (r : RN) (w' : World) : Prop := FBox w s n w' ∧ w.heap.size + 3 ≤ rb ∧ rb < w'.heap.size ∧ r.Bx rb w' ∧ r.In w' 0 w.heap.size
theorem RFAt.next {w : World} {s : SN} {n : NT} {rb : Nat} {r : RN} {w1 w2 : World} (h : RFAt w s n rb r w1) (hg : Grew w1 w2) : RFAt w s n rb r w2 :=
  ⟨h.1.next hg, h.2.1, Nat.lt_of_lt_of_le h.2.2.1 hg.size, h.2.2.2.1.grew hg h.2.2.1, RN.In.grew h.2.2.2.2 hg h.1.1.size⟩
theorem rfat_mk {w c F : World} {s : SN} {n : NT} {rb : Nat} {r : RN} (hS : FBox w s n c) (hz : rb < c.heap.size) (hlo : w.heap.size + 3 ≤ rb) (hr : r.In c 0 w.heap.size) (hf : r.Bx rb F) (hk : Keeps (· = rb) c F) : RFAt w s n rb r F :=
  ⟨hS.keep hk (fun k h1 h2 => by omega), hlo, Nat.lt_of_lt_of_le hz hk.size, hf, hr.agree (hk.agree hS.1.size (fun k _ h1 h2 => by omega))⟩
/-- three cells are written -/
theorem set3 {W W' : World} {b : Nat} {u0 u1 u2 v0 v1 v2 : Value} (h : W.cell? ⟨b, 0, none⟩ = some v0 ∧ W.cell? ⟨b, 1, none⟩ = some v1 ∧ W.cell? ⟨b, 2, none⟩ = some v2) (hW : W' = ((W.setCell ⟨b, 0, none⟩ u0).setCell ⟨b, 1, none⟩ u1).setCell ⟨b, 2, none⟩ u2) :
    (W'.cell? ⟨b, 0, none⟩ = some u0 ∧ W'.cell? ⟨b, 1, none⟩ = some u1 ∧ W'.cell? ⟨b, 2, none⟩ = some u2) ∧ (∀ a, Grew a W → a.heap.size ≤ b → Grew a W') := by
  obtain ⟨h0, h1, h2⟩ := h
  subst hW
  refine ⟨⟨?_, ?_, ?_⟩, fun a hg hb => ((hg.setCell hb _).setCell hb _).setCell hb _⟩
  · rw [cell_ne (by omega), cell_ne (by omega)]; exact cell_same h0
  · rw [cell_ne (by omega)]; exact cell_same (by rw [cell_ne (by omega)]; exact h1)
  · exact cell_same (by rw [cell_ne (by omega), cell_ne (by omega)]; exact h2)
theorem findAllR_next {r : RuleT} {n : T} {l : List Int} {k : Nat} {c : Int} (hk : k < l.length) (hc : l.getD k 0 = c) (h6 : ¬ (c = 6 ∧ n.ks = [] ∧ r.fill ≠ 0)) (h : ∀ i, i < n.ks.length → refWrongT r n.ks c i = false) : findAllR r n (l.drop k) = findAllR r n (l.drop (k + 1)) := by
  have e : l.getD k default = c := hc
  have e2 : idxR r n.ks c = -1 := idxOf_false _ fun i hi => h i (List.mem_range.1 hi)
  rw [drop_cons l k hk, e, findAllR, if_neg h6, e2]; rfl
theorem findAllR_fill {r : RuleT} {n : T} {l : List Int} {k : Nat} {c : Int} (hk : k < l.length) (hc : l.getD k 0 = c) (h6 : c = 6 ∧ n.ks = [] ∧ r.fill ≠ 0) : findAllR r n (l.drop k) = (c, 0, 1) := by
  have e : l.getD k default = c := hc
  rw [drop_cons l k hk, e, findAllR, if_pos h6]
theorem findAllR_here {r : RuleT} {n : T} {l : List Int} {k i : Nat} {c : Int} (hk : k < l.length) (hc : l.getD k 0 = c) (h6 : ¬ (c = 6 ∧ n.ks = [] ∧ r.fill ≠ 0)) (hi : i < n.ks.length) (hw : refWrongT r n.ks c i = true) (h : ∀ j, j < i → refWrongT r n.ks c j = false) : findAllR r n (l.drop k) = (c, (i : Int), runR r n.ks c i) := by
  have e : l.getD k default = c := hc
  have e2 : idxR r n.ks c = i := idxOf_found (by simpa using hi) (by rw [range_getD _ _ hi]; exact hw) (fun j hj => by rw [range_getD _ _ (by omega)]; exact h j hj)
  rw [drop_cons l k hk, e, findAllR, if_neg h6, e2, if_pos (by omega)]; rfl

set_option maxHeartbeats 20000000 in
set_option maxRecDepth 100000 in
theorem refFind_elem (s : SN) (n : NT) (w : World) (hs : s.Ok w) (hsm : s.Small) (hn : n.Ok w) (hb : n.er.bulk ≤ 1048576) (hlf : n.lf = false) :
    Calls Try.prog 14 #[s.val, n.val] w fun e w' => e = .returned (findVal (refFindT s.er n.er)) ∧ Grew w w' := by
  have hlens := n.lens
  have l3 : n.ks.length ≤ 1048576 := by omega
  clear hlens
  have CT := Lib.hid (fun w1 (hg : Grew w w1) => refType_any n w1 (hn.grew hg) hb)
  have CR := Lib.hid (fun w1 (hg : Grew w w1) => refRuleOf_any s n.er.type w1 w.heap.size ⟨hs.1.grew hg (Nat.le_refl _), RN.In.grew hs.2 hg (Nat.le_refl _)⟩ hg.size hsm)
  have CW := Lib.hid (fun (r : RN) (c : Int) (i : Nat) w1 (hg : Grew w w1) (hr : r.In w1 0 w.heap.size) (hrl : r.kids.length ≤ 1048576) (hi : i < n.ks.length) => refWrong_any r n c i w1 (RN.In.mono hr (Nat.le_refl _) hg.size) hrl (hn.grew hg) hb hi)
  have CA := Lib.hid (fun (r : RN) (x : NT) w1 (hg : Grew w w1) (hr : r.In w1 0 w.heap.size) (hrl : r.kids.length ≤ 1048576) (hx : x ∈ n.ks) => refActOf_any r x w1 (RN.In.mono hr (Nat.le_refl _) hg.size) hrl (NT.Ok.grew (w := w) (n := x) ((NT.In_iff.1 hn).2.2.2 x hx) hg) (by
    have := T.bulk_kid (n := n.er) (k := x.er) (by rw [NT.er_ks]; exact er_mem hx)
    omega))
  have HK := Lib.hid (fun w1 (hg : Grew w w1) => (NT.In_iff.1 (NT.In.grew hn hg (Nat.le_refl _))).2.2)
  unfold NT.val at CT CW
  unfold SN.val at CR
  rw [hlf] at CT CW
  unfold SN.val NT.val
  rw [hlf]
  go_enter Try.func14, Try.ntmps14
  go_upto_region 3 with fail
  go_cut [5] (fun s5 wx => ∃ (rb : Nat) (r : RN), s5 = .pointer (some ⟨rb, 0, none⟩) ∧ RFAt w s n rb r wx ∧ r.kids.length ≤ 1048576 ∧ Hid (r.er = s.er.ruleOf n.er.type))
  case first =>
    have hB0 : FBox w s n (((w.alloc (.cells #[.slice s.ra s.rules.length s.rc, .string s.els.ty, .int .i64 s.els.td, .string s.els.tt, .int .i64 s.els.od, .string s.els.ot, .slice s.els.ka s.els.kids.length s.els.kc, .int .i64 s.els.fill, .string s.els.ft, .int .i64 s.o0, .int .i64 s.o1, .int .i64 s.o2, .int .i64 s.o3, .int .i64 s.o4, .int .i64 s.o5, .int .i64 s.cap] 30)).alloc (.cells #[.bool false, .slice n.pa n.ps.length n.pc, .slice n.ta n.ts.length n.tc, .slice n.ka n.ks.length n.kc] 35)).alloc (.cells #[.int .i64 0, .int .i64 0, .int .i64 0] 39)) := ⟨((Grew.alloc1 w _).alloc _).alloc _, by simp, ⟨by go_simp, by go_simp, by go_simp, by go_simp, by go_simp, by go_simp, by go_simp, by go_simp, by go_simp, by go_simp, by go_simp, by go_simp, by go_simp, by go_simp, by go_simp, by go_simp⟩, ⟨by go_simp, by go_simp, by go_simp, by go_simp⟩, ⟨by go_simp, by go_simp, by go_simp⟩, fun j => by rw [World.frozen?_alloc_at _ _ _ _ (by simp)]⟩
    generalize (((w.alloc (.cells #[.slice s.ra s.rules.length s.rc, .string s.els.ty, .int .i64 s.els.td, .string s.els.tt, .int .i64 s.els.od, .string s.els.ot, .slice s.els.ka s.els.kids.length s.els.kc, .int .i64 s.els.fill, .string s.els.ft, .int .i64 s.o0, .int .i64 s.o1, .int .i64 s.o2, .int .i64 s.o3, .int .i64 s.o4, .int .i64 s.o5, .int .i64 s.cap] 30)).alloc (.cells #[.bool false, .slice n.pa n.ps.length n.pc, .slice n.ta n.ts.length n.tc, .slice n.ka n.ks.length n.kc] 35)).alloc (.cells #[.int .i64 0, .int .i64 0, .int .i64 0] 39)) = w1 at *
    have hS0 : FBox w s n w1.drew := hB0.next (Grew.refl _).drew
    refine wp_region_need (FBox w s n) (fun j => j.blt 5) (by kernel_rfl) ?_
    generalize w1.drew = c0 at *
    refine wpAnyN_take (i := 0) (v := .agg #[.slice s.ra s.rules.length s.rc, .string s.els.ty, .int .i64 s.els.td, .string s.els.tt, .int .i64 s.els.od, .string s.els.ot, .slice s.els.ka s.els.kids.length s.els.kc, .int .i64 s.els.fill, .string s.els.ft, .int .i64 s.o0, .int .i64 s.o1, .int .i64 s.o2, .int .i64 s.o3, .int .i64 s.o4, .int .i64 s.o5, .int .i64 s.cap]) rfl (by kernel_rfl) (by kernel_rfl) (by kernel_rfl) (by kernel_rfl) (fun _ _ _ h => h) (Or.inl ⟨rfl, fun w' hS => by obtain ⟨_, _, ⟨s0, s1, s2, s3, s4, s5, s6, s7, s8, s9, s10, s11, s12, s13, s14, s15⟩, _, _⟩ := hS; go_simp⟩) hS0 ?_
    refine wpAnyN_take (i := 1) (v := .agg #[.bool false, .slice n.pa n.ps.length n.pc, .slice n.ta n.ts.length n.tc, .slice n.ka n.ks.length n.kc]) rfl (by kernel_rfl) (by kernel_rfl) (by kernel_rfl) (by kernel_rfl) (fun _ _ _ h => h) (Or.inl ⟨rfl, fun w' hS => by obtain ⟨_, _, _, ⟨n0, n1, n2, n3⟩, _⟩ := hS; go_simp⟩) hS0 ?_
    refine wpAnyN_two (i := 2) (j := 4) (by kernel_rfl) rfl rfl rfl rfl ?_ ?_
    · intro K' hK'
      go_wp2_with fail
      refine (CT.out c0 hS0.1).mono ?_
      rintro e c1 ⟨rfl, g1⟩
      have hS1 := hS0.next g1
      refine hK' _ _ ⟨fun _ => hS1, ?_⟩
      clear hK' K'
      refine wpAnyN_two (i := 3) (j := 4) (by kernel_rfl) rfl rfl rfl rfl ?_ ?_
      · intro K' hK'
        go_wp2_with fail
        refine (CR.out c1 hS1.1).mono ?_
        rintro e c2 ⟨r, rfl, g2, hr, hrl, hre⟩
        have hS2 := hS1.next g2
        unfold RN.val
        refine hK' _ _ ⟨fun _ => hS2, ?_⟩
        clear hK' K'
        refine wpAnyN_one (i := 4) (by kernel_rfl) rfl rfl ?_
        intro K' hK'
        go_wp2_with fail
        have hz := rz_new c2
        have hlo := hS2.2.1
        have g3 := Grew.alloc1 c2 (.cells #[.string { data := #[] }, .int .i64 0, .string { data := #[] }, .int .i64 0, .string { data := #[] }, .slice none 0 0, .int .i64 0, .string { data := #[] }] 27)
        generalize c2.alloc (.cells #[.string { data := #[] }, .int .i64 0, .string { data := #[] }, .int .i64 0, .string { data := #[] }, .slice none 0 0, .int .i64 0, .string { data := #[] }] 27) = c3 at *
        have hS3 := hS2.next g3
        have hr := RN.In.grew hr g3 (by have := hS2.1.size; omega)
        refine ⟨fun _ => hS3, ?_⟩
        refine wpAnyN_one (i := 5) (by kernel_rfl) rfl rfl ?_
        intro K' hK'
        obtain ⟨zq, ⟨e0, e1, e2, e3, e4, e5, e6, e7⟩, ef⟩ := id hz
        have HQ := Lib.hid hz.2.1
        go_wp2_with fail
        clear e0 e1 e2 e3 e4 e5 e6 e7 ef
        refine ⟨fun h => (by cases h), ?_⟩
        refine wpAnyN_done (by kernel_rfl) ?_ _
        go_wp2_with fail
        generalize hF : ((((((((c3.setCell ⟨c2.heap.size, 0, none⟩ _).setCell ⟨c2.heap.size, 1, none⟩ _).setCell ⟨c2.heap.size, 2, none⟩ _).setCell ⟨c2.heap.size, 3, none⟩ _).setCell ⟨c2.heap.size, 4, none⟩ _).setCell ⟨c2.heap.size, 5, none⟩ _).setCell ⟨c2.heap.size, 6, none⟩ _).setCell ⟨c2.heap.size, 7, none⟩ _) = F
        have hk := set8_keeps hF.symm
        obtain ⟨fc, _⟩ := set8 HQ.out hF.symm
        clear hF
        go_meet
        exact ⟨c2.heap.size, r, rfl, rfat_mk hS3 zq hlo hr fc hk, hrl, hre⟩
      · intro K' hK'
        go_wp2_with fail
        have hz := rz_new c1
        have hlo := hS1.2.1
        have g2 := Grew.alloc1 c1 (.cells #[.string { data := #[] }, .int .i64 0, .string { data := #[] }, .int .i64 0, .string { data := #[] }, .slice none 0 0, .int .i64 0, .string { data := #[] }] 27)
        generalize c1.alloc (.cells #[.string { data := #[] }, .int .i64 0, .string { data := #[] }, .int .i64 0, .string { data := #[] }, .slice none 0 0, .int .i64 0, .string { data := #[] }] 27) = c2 at *
        have hS2 := hS1.next g2
        refine ⟨fun _ => hS2, ?_⟩
        refine wpAnyN_one (i := 3) (by kernel_rfl) rfl rfl ?_
        intro K' hK'
        go_wp2_with fail
        refine (CR.out c2 hS2.1).mono ?_
        rintro e c3 ⟨r, rfl, g3, hr, hrl, hre⟩
        have hS3 := hS2.next g3
        have hz := hz.grew g3
        unfold RN.val
        refine hK' _ _ ⟨fun _ => hS3, ?_⟩
        clear hK' K'
        refine wpAnyN_one (i := 5) (by kernel_rfl) rfl rfl ?_
        intro K' hK'
        obtain ⟨zq, ⟨e0, e1, e2, e3, e4, e5, e6, e7⟩, ef⟩ := id hz
        have HQ := Lib.hid hz.2.1
        go_wp2_with fail
        clear e0 e1 e2 e3 e4 e5 e6 e7 ef
        refine ⟨fun h => (by cases h), ?_⟩
        refine wpAnyN_done (by kernel_rfl) ?_ _
        go_wp2_with fail
        generalize hF : ((((((((c3.setCell ⟨c1.heap.size, 0, none⟩ _).setCell ⟨c1.heap.size, 1, none⟩ _).setCell ⟨c1.heap.size, 2, none⟩ _).setCell ⟨c1.heap.size, 3, none⟩ _).setCell ⟨c1.heap.size, 4, none⟩ _).setCell ⟨c1.heap.size, 5, none⟩ _).setCell ⟨c1.heap.size, 6, none⟩ _).setCell ⟨c1.heap.size, 7, none⟩ _) = F
        have hk := set8_keeps hF.symm
        obtain ⟨fc, _⟩ := set8 HQ.out hF.symm
        clear hF
        go_meet
        exact ⟨c1.heap.size, r, rfl, rfat_mk hS3 zq hlo hr fc hk, hrl, hre⟩
    · intro K' hK'
      go_wp2_with fail
      have hz := rz_new c0
      have hlo := hS0.2.1
      have g1 := Grew.alloc1 c0 (.cells #[.string { data := #[] }, .int .i64 0, .string { data := #[] }, .int .i64 0, .string { data := #[] }, .slice none 0 0, .int .i64 0, .string { data := #[] }] 27)
      generalize c0.alloc (.cells #[.string { data := #[] }, .int .i64 0, .string { data := #[] }, .int .i64 0, .string { data := #[] }, .slice none 0 0, .int .i64 0, .string { data := #[] }] 27) = c1 at *
      have hS1 := hS0.next g1
      refine ⟨fun _ => hS1, ?_⟩
      refine wpAnyN_one (i := 2) (by kernel_rfl) rfl rfl ?_
      intro K' hK'
      go_wp2_with fail
      refine (CT.out c1 hS1.1).mono ?_
      rintro e c2 ⟨rfl, g2⟩
      have hS2 := hS1.next g2
      have hz := hz.grew g2
      refine hK' _ _ ⟨fun _ => hS2, ?_⟩
      clear hK' K'
      refine wpAnyN_one (i := 3) (by kernel_rfl) rfl rfl ?_
      intro K' hK'
      go_wp2_with fail
      refine (CR.out c2 hS2.1).mono ?_
      rintro e c3 ⟨r, rfl, g3, hr, hrl, hre⟩
      have hS3 := hS2.next g3
      have hz := hz.grew g3
      unfold RN.val
      refine hK' _ _ ⟨fun _ => hS3, ?_⟩
      clear hK' K'
      refine wpAnyN_one (i := 5) (by kernel_rfl) rfl rfl ?_
      intro K' hK'
      obtain ⟨zq, ⟨e0, e1, e2, e3, e4, e5, e6, e7⟩, ef⟩ := id hz
      have HQ := Lib.hid hz.2.1
      go_wp2_with fail
      clear e0 e1 e2 e3 e4 e5 e6 e7 ef
      refine ⟨fun h => (by cases h), ?_⟩
      refine wpAnyN_done (by kernel_rfl) ?_ _
      go_wp2_with fail
      generalize hF : ((((((((c3.setCell ⟨c0.heap.size, 0, none⟩ _).setCell ⟨c0.heap.size, 1, none⟩ _).setCell ⟨c0.heap.size, 2, none⟩ _).setCell ⟨c0.heap.size, 3, none⟩ _).setCell ⟨c0.heap.size, 4, none⟩ _).setCell ⟨c0.heap.size, 5, none⟩ _).setCell ⟨c0.heap.size, 6, none⟩ _).setCell ⟨c0.heap.size, 7, none⟩ _) = F
      have hk := set8_keeps hF.symm
      obtain ⟨fc, _⟩ := set8 HQ.out hF.symm
      clear hF
      go_meet
      exact ⟨c0.heap.size, r, rfl, rfat_mk hS3 zq hlo hr fc hk, hrl, hre⟩
  case rest =>
    obtain ⟨rb, r, rfl, hRF, hrl, hre⟩ := hcut
    as_aux_lemma =>
      have HRF := Lib.hid hRF
      have hb0 := hRF.2.1
      obtain ⟨⟨_, _, ⟨_, _, _, _, _, _, _, _, _, s9, s10, s11, s12, s13, s14, _⟩, _, _⟩, _⟩ := hRF
      have HIX := Lib.hid (order_index s)
      have HFT : Hid (refFindT s.er n.er = findAllR r.er n.er s.er.order) := by
        show _ = _
        unfold refFindT
        rw [NT.er_lf, hlf, hre.out]; rfl
      have hkk0 := (NT.In_iff.1 hn).2.2
      have HKD := Lib.hid (fun (i : Nat) (hi : i < n.ks.length) => (show ∃ b o, n.ka = some ⟨b, o, none⟩ ∧ ∀ w', Grew w w' → NodeAt w' b (o + i * 4) (n.ks.getD i default) from by
        obtain ⟨b, o, hka, _, hbh, c0, c1, c2, c3⟩ := hkk0.at hi
        exact ⟨b, o, hka, fun w' hg => NodeAt.grew ⟨c0, c1, c2, c3⟩ hg hbh⟩))
      clear hkk0
      go_wp2_with fail
      clear s9 s10 s11 s12 s13 s14
      go_loopw [19] (fun i wr => ∃ (k : Nat), k ≤ 6 ∧ i = .int .i64 k ∧ RFAt w s n rb r wr ∧ Hid (findAllR r.er n.er (s.er.order.drop k) = findAllR r.er n.er s.er.order)) (fun i _ => 6 - (intOf i).toNat)
      case atStart => exact ⟨0, by omega, rfl, HRF.out, rfl⟩
      case round =>
        obtain ⟨k, hk1, rfl, hR, HFA⟩ := hrel
        by_cases hlt : k < 6
        · have hix := HIX.out k hlt
          have hlt2 : (k : Int) < 6 := by omega
          have hol : k < s.er.order.length := hlt
          obtain ⟨c, hc⟩ : ∃ c, s.er.order.getD k 0 = c := ⟨_, rfl⟩
          rw [hc] at hix
          have HNX := Lib.hid (fun h6 h => (findAllR_next (r := r.er) (n := n.er) hol hc h6 h).symm.trans HFA.out)
          have HFI := Lib.hid (fun h6 => (findAllR_fill (r := r.er) (n := n.er) hol hc h6).symm.trans HFA.out)
          have HHE := Lib.hid (fun i h6 hi hw h => (findAllR_here (r := r.er) (n := n.er) (i := i) hol hc h6 hi hw h).symm.trans HFA.out)
          clear hc HFA HRF
          go_upto_region 7 with fail
          go_cut [34] (fun s34 wx => ∃ tb : Bool, s34 = .bool tb ∧ RFAt w s n rb r wx ∧ Hid (tb = decide (c = 6 ∧ n.er.ks = [] ∧ r.er.fill ≠ 0)))
          case first =>
            have HR := Lib.hid hR
            have hkl : n.er.ks = [] ↔ n.ks.length = 0 := by rw [NT.er_ks]; simp
            have HKL := Lib.hid hkl
            clear hkl
            by_cases hc6 : c = 6
            · subst hc6
              obtain ⟨⟨_, _, _, ⟨_, _, _, n3⟩, _⟩, _, _, ⟨_, _, _, _, _, _, r6, _⟩, _⟩ := hR
              by_cases hk0 : n.ks.length = 0
              · have e0 : ((n.ks.length : Int) == 0) = true := by simp [hk0]
                by_cases hf : r.fill = 0
                · have ef : (r.fill != 0) = false := by simp [hf]
                  have HV : Hid (false = decide ((6 : Int) = 6 ∧ n.er.ks = [] ∧ r.er.fill ≠ 0)) := by
                    show _ = _
                    rw [decide_eq_false]; rintro ⟨_, _, h⟩; exact h (by rw [RN.er_fill]; exact hf)
                  clear hf hk0
                  go_wp2_with fail
                  go_meet
                  exact ⟨false, rfl, HR.out, HV⟩
                · have ef : (r.fill != 0) = true := by simpa using hf
                  have HV : Hid (true = decide ((6 : Int) = 6 ∧ n.er.ks = [] ∧ r.er.fill ≠ 0)) := by
                    show _ = _
                    rw [decide_eq_true]; exact ⟨rfl, HKL.out.2 hk0, by rw [RN.er_fill]; exact hf⟩
                  clear hf hk0
                  go_wp2_with fail
                  go_meet
                  exact ⟨true, rfl, HR.out, HV⟩
              · have e0 : ((n.ks.length : Int) == 0) = false := by simpa using hk0
                have HV : Hid (false = decide ((6 : Int) = 6 ∧ n.er.ks = [] ∧ r.er.fill ≠ 0)) := by
                  show _ = _
                  rw [decide_eq_false]; rintro ⟨_, h, _⟩; exact hk0 (HKL.out.1 h)
                clear hk0
                go_wp2_with fail
                go_meet
                exact ⟨false, rfl, HR.out, HV⟩
            · have e6 : (c == 6) = false := by simpa using hc6
              have HV : Hid (false = decide (c = 6 ∧ n.er.ks = [] ∧ r.er.fill ≠ 0)) := by
                show _ = _
                rw [decide_eq_false]; rintro ⟨h, _⟩; exact hc6 h
              clear hc6 hR
              go_wp2_with fail
              go_meet
              exact ⟨false, rfl, HR.out, HV⟩
          case rest =>
            obtain ⟨tb, rfl, hR1, hT⟩ := hcut
            clear hR
            cases tb with
            | true =>
              have HV := Lib.hid (HFI.out (of_decide_eq_true hT.out.symm))
              clear hT HNX HHE HFI
              obtain ⟨⟨_, _, _, _, ⟨⟨z0, z1, z2⟩, zf⟩⟩, _⟩ := id hR1
              have HZ := Lib.hid (⟨z0, z1, z2⟩ : _ ∧ _ ∧ _)
              have hGr := hR1.1.1
              go_wp2_with fail
              have hW := set3 (u0 := .int .i64 c) (u1 := .int .i64 0) (u2 := .int .i64 1) HZ.out rfl
              revert hW
              generalize hF : ((wc.setCell ⟨w.heap.size + 1 + 1, 0, none⟩ (.int .i64 c)).setCell ⟨w.heap.size + 1 + 1, 1, none⟩ (.int .i64 0)).setCell ⟨w.heap.size + 1 + 1, 2, none⟩ (.int .i64 1) = F
              rintro ⟨⟨f0, f1, f2⟩, hg⟩
              refine bodyPost_ret (v := findVal (c, 0, 1)) (by simp [results, Try.results14, go_sem, findVal, f0, f1, f2]) rfl ⟨ret_val (by rw [HFT.out, ← HV.out]), hg w hGr (by omega)⟩
            | false =>
              have h6 := of_decide_eq_false hT.out.symm
              have HN := Lib.hid (HNX.out h6)
              have HH := Lib.hid (fun i => HHE.out i h6)
              clear h6 hT HNX HHE HFI
              have HR1 := Lib.hid hR1
              obtain ⟨⟨_, _, _, ⟨_, _, _, n3⟩, _⟩, _⟩ := hR1
              go_wp2_with fail
              clear n3
              obtain ⟨wo, rfl⟩ : ∃ wo : World, wo = wr := ⟨_, rfl⟩
              go_loopw [40] (fun j w2 => ∃ (i : Nat), i ≤ n.ks.length ∧ j = .int .i64 i ∧ RFAt w s n rb r w2 ∧ Hid (∀ j, j < i → refWrongT r.er n.er.ks c j = false)) (fun j _ => n.ks.length - (intOf j).toNat)
              case atStart => exact ⟨0, by omega, rfl, HR1.out, (show ∀ j, j < 0 → _ from fun j hj => by omega)⟩
              case round =>
                obtain ⟨i, hi1, rfl, hR2, hA⟩ := hrel
                clear HR1
                by_cases hil : i < n.ks.length
                · as_aux_lemma =>
                    have hil2 : (i : Int) < n.ks.length := by omega
                    have HR2 := Lib.hid hR2
                    have C := Lib.hid (CW.out r c i _ hR2.1.1 hR2.2.2.2.2 hrl hil)
                    unfold RN.val at C
                    obtain ⟨⟨_, _, _, ⟨n0, n1, n2, n3⟩, _⟩, _, _, ⟨r0, r1, r2, r3, r4, r5, r6, r7⟩, _⟩ := hR2
                    rw [hlf] at n0
                    go_wp2_with fail
                    refine C.out.mono ?_
                    clear n0 n1 n2 n3 r0 r1 r2 r3 r4 r5 r6 r7
                    rintro e w3 ⟨rfl, g3⟩
                    have hR3 := HR2.out.next g3
                    rw [← NT.er_ks]
                    cases hv : refWrongT r.er n.er.ks c i with
                    | false =>
                      have HA2 : Hid (∀ j, j < i + 1 → refWrongT r.er n.er.ks c j = false) := fun j hj => by
                        rcases Nat.lt_or_ge j i with h | h
                        · exact hA.out j h
                        · obtain rfl : j = i := by omega
                          exact hv
                      clear hv
                      go_wp2_with fail
                      go_roundw
                      case rel => exact ⟨i + 1, by omega, by go_num, hR3, HA2⟩
                      case measure => simp [intOf]; omega
                    | true =>
                      have HV := Lib.hid (HH.out i (by rw [NT.er_ks, List.length_map]; exact hil) hv hA.out)
                      clear hv hA HH HN
                      go_wp2_with fail
                      obtain ⟨b, o, hka, hNi⟩ := HKD.out i hil
                      have HKA2 := Lib.hid hka
                      clear hka
                      have him := getD_mem n.ks i hil
                      have HGI := Lib.hid (fun j (hj : j < n.ks.length) => (show (n.er.ks.map r.er.actOf).getD j default = r.er.actOf (n.ks.getD j default).er from by rw [getD_map _ _ _ (by rw [NT.er_ks, List.length_map]; exact hj), NT.er_ks, getD_er n.ks j hj]))
                      have hll : (n.er.ks.map r.er.actOf).length = n.ks.length := by rw [List.length_map, NT.er_ks, List.length_map]
                      have hI0 : ∀ j, j < 1 → (n.er.ks.map r.er.actOf).getD (i + j) default = (n.er.ks.map r.er.actOf).getD i default := by
                        intro j hj
                        have hj0 : j = 0 := by omega
                        subst hj0
                        rfl
                      obtain ⟨wi, rfl⟩ : ∃ wi : World, wi = wr := ⟨_, rfl⟩
                      go_loopw [9] (fun m w4 => ∃ (q : Nat), 1 ≤ q ∧ i + q ≤ n.ks.length ∧ m = .int .i64 q ∧ RFAt w s n rb r w4 ∧ Hid ((c ≠ 3 → q = 1) ∧ ∀ j, j < q → (n.er.ks.map r.er.actOf).getD (i + j) default = (n.er.ks.map r.er.actOf).getD i default)) (fun m _ => n.ks.length - (intOf m).toNat)
                      case atStart => exact ⟨1, by omega, by omega, rfl, hR3, ⟨fun _ => rfl, hI0⟩⟩
                      case round =>
                        obtain ⟨q, hq1, hq2, rfl, hR4, hI⟩ := hrel
                        clear hR3
                        have hSd : RFAt w s n rb r wr.drew := hR4.next (Grew.refl _).drew
                        by_cases hc3 : c = 3
                        · subst hc3
                          by_cases hlq : i + q < n.ks.length
                          · obtain ⟨b', o', hka2, hNp⟩ := HKD.out (i + q) hlq
                            obtain ⟨rfl, rfl⟩ : b = b' ∧ o = o' := by rw [HKA2.out] at hka2; injection hka2 with h; injection h with h h'; exact ⟨h, h'⟩
                            have hlk : (i : Int) + (q : Int) < n.ks.length := by omega
                            have hwr : IntKind.i64.wrap ((i : Int) + (q : Int)) = (i : Int) + q := by rw [IntKind.wrap_i64]; omega
                            have h0q : (0 : Int) ≤ (i : Int) + q := by omega
                            have CAp := Lib.hid (fun w1 (h : RFAt w s n rb r w1) => CA.out r (n.ks.getD (i + q) default) w1 h.1.1 h.2.2.2.2 hrl (getD_mem n.ks (i + q) hlq))
                            have CAi := Lib.hid (fun w1 (h : RFAt w s n rb r w1) => CA.out r (n.ks.getD i default) w1 h.1.1 h.2.2.2.2 hrl him)
                            have HRN := Lib.hid (fun (m : Nat) (h1 : 1 ≤ m) (h2 : i + m ≤ n.ks.length) (h3 : ∀ j, j < m → (n.er.ks.map r.er.actOf).getD (i + j) default = (n.er.ks.map r.er.actOf).getD i default) h4 => runOf_eq (l := n.er.ks.map r.er.actOf) (i := i) (m := m) h1 (by rw [hll]; exact h2) h3 h4)
                            have HPQ := Lib.hid (⟨HGI.out (i + q) hlq, HGI.out i hil⟩ : _ ∧ _)
                            clear him hka2
                            generalize n.ks.getD (i + q) default = xp at *
                            generalize n.ks.getD i default = xi at *
                            generalize r.er.actOf xp.er = P at *
                            generalize r.er.actOf xi.er = Q at *
                            unfold RN.val NT.val actVal at CAp CAi
                            have hwt : ((i : Int) + (q : Int)).toNat = i + q := by omega
                            go_wp2_with fail
                            refine wp_region_need (fun w' => RFAt w s n rb r w' ∧ NodeAt w' b (o + (i + q) * 4) xp ∧ NodeAt w' b (o + i * 4) xi) (fun j => j.blt 30) (by kernel_rfl) ?_
                            generalize wr.drew = c0 at *
                            have hT : RFAt w s n rb r c0 ∧ NodeAt c0 b (o + (i + q) * 4) xp ∧ NodeAt c0 b (o + i * 4) xi := ⟨hSd, hNp _ hSd.1.1, hNi _ hSd.1.1⟩
                            as_aux_lemma =>
                              refine wpAnyN_at (i := 0) (v := .int .i64 3) (some 49) rfl rfl (by kernel_rfl) (by kernel_rfl) (by kernel_rfl) (by kernel_rfl) (fun _ _ _ h => h) (Or.inl ⟨rfl, fun w' hS => by go_simp⟩) hT ?_
                              simp only [Act.put, List.setIfInBounds_toArray, List.set_cons_succ, List.set_cons_zero]
                              refine wpAnyN_at (i := 1) (v := .bool true) (some 50) rfl rfl (by kernel_rfl) (by kernel_rfl) (by kernel_rfl) (by kernel_rfl) (fun _ _ _ h => h) (Or.inl ⟨rfl, fun w' hS => by go_simp⟩) hT ?_
                              simp only [Act.put, List.setIfInBounds_toArray, List.set_cons_succ, List.set_cons_zero]
                              refine wpAnyN_at (i := 2) (v := .bool true) (some 51) rfl rfl (by kernel_rfl) (by kernel_rfl) (by kernel_rfl) (by kernel_rfl) (fun _ _ _ h => h) (Or.inl ⟨rfl, fun w' hS => by go_simp⟩) hT ?_
                              simp only [Act.put, List.setIfInBounds_toArray, List.set_cons_succ, List.set_cons_zero]
                              refine wpAnyN_at (i := 3) (v := .int .i64 i) (some 52) rfl rfl (by kernel_rfl) (by kernel_rfl) (by kernel_rfl) (by kernel_rfl) (fun _ _ _ h => h) (Or.inl ⟨rfl, fun w' hS => by go_simp⟩) hT ?_
                              simp only [Act.put, List.setIfInBounds_toArray, List.set_cons_succ, List.set_cons_zero]
                              refine wpAnyN_at (i := 4) (v := .int .i64 q) (some 53) rfl rfl (by kernel_rfl) (by kernel_rfl) (by kernel_rfl) (by kernel_rfl) (fun _ _ _ h => h) (Or.inl ⟨rfl, fun w' hS => by go_simp⟩) hT ?_
                              simp only [Act.put, List.setIfInBounds_toArray, List.set_cons_succ, List.set_cons_zero]
                              refine wpAnyN_at (i := 5) (v := .int .i64 ((i : Int) + (q : Int))) (some 54) rfl rfl (by kernel_rfl) (by kernel_rfl) (by kernel_rfl) (by kernel_rfl) (fun _ _ _ h => h) (Or.inl ⟨rfl, fun w' hS => by go_simp⟩) hT ?_
                              simp only [Act.put, List.setIfInBounds_toArray, List.set_cons_succ, List.set_cons_zero]
                              refine wpAnyN_at (i := 6) (v := .pointer (some ⟨w.heap.size + 1, 3, none⟩)) (some 55) rfl rfl (by kernel_rfl) (by kernel_rfl) (by kernel_rfl) (by kernel_rfl) (fun _ _ _ h => h) (Or.inl ⟨rfl, fun w' hS => by go_simp⟩) hT ?_
                              simp only [Act.put, List.setIfInBounds_toArray, List.set_cons_succ, List.set_cons_zero]
                              refine wpAnyN_at (i := 7) (v := .slice (some ⟨b, o, none⟩) n.ks.length n.kc) (some 56) rfl rfl (by kernel_rfl) (by kernel_rfl) (by kernel_rfl) (by kernel_rfl) (fun _ _ _ h => h) (Or.inl ⟨rfl, fun w' hS => by obtain ⟨⟨⟨_, _, _, ⟨_, _, _, n3⟩, _⟩, _, _, ⟨r0, r1, r2, r3, r4, r5, r6, r7⟩, _⟩, ⟨p0, p1, p2, p3⟩, ⟨x0, x1, x2, x3⟩⟩ := hS; rw [HKA2.out] at n3; go_simp⟩) hT ?_
                              simp only [Act.put, List.setIfInBounds_toArray, List.set_cons_succ, List.set_cons_zero]
                              refine wpAnyN_at (i := 8) (v := .int .i64 n.ks.length) (some 57) rfl rfl (by kernel_rfl) (by kernel_rfl) (by kernel_rfl) (by kernel_rfl) (fun _ _ _ h => h) (Or.inl ⟨rfl, fun w' hS => by go_simp⟩) hT ?_
                              simp only [Act.put, List.setIfInBounds_toArray, List.set_cons_succ, List.set_cons_zero]
                              refine wpAnyN_at (i := 9) (v := .bool true) (some 58) rfl rfl (by kernel_rfl) (by kernel_rfl) (by kernel_rfl) (by kernel_rfl) (fun _ _ _ h => h) (Or.inl ⟨rfl, fun w' hS => by go_simp⟩) hT ?_
                              simp only [Act.put, List.setIfInBounds_toArray, List.set_cons_succ, List.set_cons_zero]
                              refine wpAnyN_at (i := 10) (v := .bool true) (some 59) rfl rfl (by kernel_rfl) (by kernel_rfl) (by kernel_rfl) (by kernel_rfl) (fun _ _ _ h => h) (Or.inl ⟨rfl, fun w' hS => by go_simp⟩) hT ?_
                              simp only [Act.put, List.setIfInBounds_toArray, List.set_cons_succ, List.set_cons_zero]
                              refine wpAnyN_at (i := 11) (v := .bool true) (some 60) rfl rfl (by kernel_rfl) (by kernel_rfl) (by kernel_rfl) (by kernel_rfl) (fun _ _ _ h => h) (Or.inl ⟨rfl, fun w' hS => by go_simp⟩) hT ?_
                              simp only [Act.put, List.setIfInBounds_toArray, List.set_cons_succ, List.set_cons_zero]
                              refine wpAnyN_at (i := 12) (v := .agg #[.string r.ty, .int .i64 r.td, .string r.tt, .int .i64 r.od, .string r.ot, .slice r.ka r.kids.length r.kc, .int .i64 r.fill, .string r.ft]) (some 61) rfl rfl (by kernel_rfl) (by kernel_rfl) (by kernel_rfl) (by kernel_rfl) (fun _ _ _ h => h) (Or.inl ⟨rfl, fun w' hS => by obtain ⟨⟨⟨_, _, _, ⟨_, _, _, n3⟩, _⟩, _, _, ⟨r0, r1, r2, r3, r4, r5, r6, r7⟩, _⟩, ⟨p0, p1, p2, p3⟩, ⟨x0, x1, x2, x3⟩⟩ := hS; rw [HKA2.out] at n3; go_simp⟩) hT ?_
                              simp only [Act.put, List.setIfInBounds_toArray, List.set_cons_succ, List.set_cons_zero]
                              refine wpAnyN_at (i := 13) (v := .pointer (some ⟨w.heap.size + 1, 3, none⟩)) (some 62) rfl rfl (by kernel_rfl) (by kernel_rfl) (by kernel_rfl) (by kernel_rfl) (fun _ _ _ h => h) (Or.inl ⟨rfl, fun w' hS => by go_simp⟩) hT ?_
                              simp only [Act.put, List.setIfInBounds_toArray, List.set_cons_succ, List.set_cons_zero]
                              refine wpAnyN_at (i := 14) (v := .slice (some ⟨b, o, none⟩) n.ks.length n.kc) (some 63) rfl rfl (by kernel_rfl) (by kernel_rfl) (by kernel_rfl) (by kernel_rfl) (fun _ _ _ h => h) (Or.inl ⟨rfl, fun w' hS => by obtain ⟨⟨⟨_, _, _, ⟨_, _, _, n3⟩, _⟩, _, _, ⟨r0, r1, r2, r3, r4, r5, r6, r7⟩, _⟩, ⟨p0, p1, p2, p3⟩, ⟨x0, x1, x2, x3⟩⟩ := hS; rw [HKA2.out] at n3; go_simp⟩) hT ?_
                              simp only [Act.put, List.setIfInBounds_toArray, List.set_cons_succ, List.set_cons_zero]
                              refine wpAnyN_at (i := 15) (v := .int .i64 i) (some 64) rfl rfl (by kernel_rfl) (by kernel_rfl) (by kernel_rfl) (by kernel_rfl) (fun _ _ _ h => h) (Or.inl ⟨rfl, fun w' hS => by go_simp⟩) hT ?_
                              simp only [Act.put, List.setIfInBounds_toArray, List.set_cons_succ, List.set_cons_zero]
                              refine wpAnyN_at (i := 16) (v := .int .i64 q) (some 65) rfl rfl (by kernel_rfl) (by kernel_rfl) (by kernel_rfl) (by kernel_rfl) (fun _ _ _ h => h) (Or.inl ⟨rfl, fun w' hS => by go_simp⟩) hT ?_
                              simp only [Act.put, List.setIfInBounds_toArray, List.set_cons_succ, List.set_cons_zero]
                              refine wpAnyN_at (i := 17) (v := .int .i64 ((i : Int) + (q : Int))) (some 66) rfl rfl (by kernel_rfl) (by kernel_rfl) (by kernel_rfl) (by kernel_rfl) (fun _ _ _ h => h) (Or.inl ⟨rfl, fun w' hS => by go_simp⟩) hT ?_
                              simp only [Act.put, List.setIfInBounds_toArray, List.set_cons_succ, List.set_cons_zero]
                              refine wpAnyN_at (i := 18) (v := .pointer (some ⟨b, o + (i + q) * 4, none⟩)) (some 67) rfl rfl (by kernel_rfl) (by kernel_rfl) (by kernel_rfl) (by kernel_rfl) (fun _ _ _ h => h) (Or.inl ⟨rfl, fun w' hS => by go_simp⟩) hT ?_
                              simp only [Act.put, List.setIfInBounds_toArray, List.set_cons_succ, List.set_cons_zero]
                              refine wpAnyN_at (i := 19) (v := .agg #[.bool xp.lf, .slice xp.pa xp.ps.length xp.pc, .slice xp.ta xp.ts.length xp.tc, .slice xp.ka xp.ks.length xp.kc]) (some 68) rfl rfl (by kernel_rfl) (by kernel_rfl) (by kernel_rfl) (by kernel_rfl) (fun _ _ _ h => h) (Or.inl ⟨rfl, fun w' hS => by obtain ⟨⟨⟨_, _, _, ⟨_, _, _, n3⟩, _⟩, _, _, ⟨r0, r1, r2, r3, r4, r5, r6, r7⟩, _⟩, ⟨p0, p1, p2, p3⟩, ⟨x0, x1, x2, x3⟩⟩ := hS; rw [HKA2.out] at n3; go_simp⟩) hT ?_
                              simp only [Act.put, List.setIfInBounds_toArray, List.set_cons_succ, List.set_cons_zero]
                              refine wpAnyN_at (i := 21) (v := .agg #[.string r.ty, .int .i64 r.td, .string r.tt, .int .i64 r.od, .string r.ot, .slice r.ka r.kids.length r.kc, .int .i64 r.fill, .string r.ft]) (some 70) rfl rfl (by kernel_rfl) (by kernel_rfl) (by kernel_rfl) (by kernel_rfl) (fun _ _ _ h => h) (Or.inl ⟨rfl, fun w' hS => by obtain ⟨⟨⟨_, _, _, ⟨_, _, _, n3⟩, _⟩, _, _, ⟨r0, r1, r2, r3, r4, r5, r6, r7⟩, _⟩, ⟨p0, p1, p2, p3⟩, ⟨x0, x1, x2, x3⟩⟩ := hS; rw [HKA2.out] at n3; go_simp⟩) hT ?_
                              simp only [Act.put, List.setIfInBounds_toArray, List.set_cons_succ, List.set_cons_zero]
                              refine wpAnyN_at (i := 22) (v := .pointer (some ⟨w.heap.size + 1, 3, none⟩)) (some 71) rfl rfl (by kernel_rfl) (by kernel_rfl) (by kernel_rfl) (by kernel_rfl) (fun _ _ _ h => h) (Or.inl ⟨rfl, fun w' hS => by go_simp⟩) hT ?_
                              simp only [Act.put, List.setIfInBounds_toArray, List.set_cons_succ, List.set_cons_zero]
                              refine wpAnyN_at (i := 23) (v := .slice (some ⟨b, o, none⟩) n.ks.length n.kc) (some 72) rfl rfl (by kernel_rfl) (by kernel_rfl) (by kernel_rfl) (by kernel_rfl) (fun _ _ _ h => h) (Or.inl ⟨rfl, fun w' hS => by obtain ⟨⟨⟨_, _, _, ⟨_, _, _, n3⟩, _⟩, _, _, ⟨r0, r1, r2, r3, r4, r5, r6, r7⟩, _⟩, ⟨p0, p1, p2, p3⟩, ⟨x0, x1, x2, x3⟩⟩ := hS; rw [HKA2.out] at n3; go_simp⟩) hT ?_
                              simp only [Act.put, List.setIfInBounds_toArray, List.set_cons_succ, List.set_cons_zero]
                              refine wpAnyN_at (i := 24) (v := .int .i64 i) (some 73) rfl rfl (by kernel_rfl) (by kernel_rfl) (by kernel_rfl) (by kernel_rfl) (fun _ _ _ h => h) (Or.inl ⟨rfl, fun w' hS => by go_simp⟩) hT ?_
                              simp only [Act.put, List.setIfInBounds_toArray, List.set_cons_succ, List.set_cons_zero]
                              refine wpAnyN_at (i := 25) (v := .pointer (some ⟨b, o + i * 4, none⟩)) (some 74) rfl rfl (by kernel_rfl) (by kernel_rfl) (by kernel_rfl) (by kernel_rfl) (fun _ _ _ h => h) (Or.inl ⟨rfl, fun w' hS => by go_simp⟩) hT ?_
                              simp only [Act.put, List.setIfInBounds_toArray, List.set_cons_succ, List.set_cons_zero]
                              refine wpAnyN_at (i := 26) (v := .agg #[.bool xi.lf, .slice xi.pa xi.ps.length xi.pc, .slice xi.ta xi.ts.length xi.tc, .slice xi.ka xi.ks.length xi.kc]) (some 75) rfl rfl (by kernel_rfl) (by kernel_rfl) (by kernel_rfl) (by kernel_rfl) (fun _ _ _ h => h) (Or.inl ⟨rfl, fun w' hS => by obtain ⟨⟨⟨_, _, _, ⟨_, _, _, n3⟩, _⟩, _, _, ⟨r0, r1, r2, r3, r4, r5, r6, r7⟩, _⟩, ⟨p0, p1, p2, p3⟩, ⟨x0, x1, x2, x3⟩⟩ := hS; rw [HKA2.out] at n3; go_simp⟩) hT ?_
                              simp only [Act.put, List.setIfInBounds_toArray, List.set_cons_succ, List.set_cons_zero]
                              refine wpAnyN_one (i := 20) (by kernel_rfl) rfl rfl ?_
                              intro K' hK'
                              go_wp2_with fail
                              refine (CAp.out _ hSd).mono ?_
                              rintro e w5 ⟨rfl, g5⟩
                              have hS5 := hSd.next g5
                              refine hK' _ _ ⟨fun _ => ⟨hS5, hNp _ hS5.1.1, hNi _ hS5.1.1⟩, ?_⟩
                              clear hK' K'
                              refine wpAnyN_one (i := 27) (by kernel_rfl) rfl rfl ?_
                              intro K' hK'
                              go_wp2_with fail
                              refine (CAi.out _ hS5).mono ?_
                              rintro e w6 ⟨rfl, g6⟩
                              have hS6 := hS5.next g6
                              have hT6 : RFAt w s n rb r w6 ∧ NodeAt w6 b (o + (i + q) * 4) xp ∧ NodeAt w6 b (o + i * 4) xi := ⟨hS6, hNp _ hS6.1.1, hNi _ hS6.1.1⟩
                              have HT6 := Lib.hid hT6
                              clear hT6
                              refine hK' _ _ ⟨fun _ => HT6.out, ?_⟩
                              clear hK' K'
                              by_cases hpq : P = Q
                              · have ht1 : (P.1 == Q.1) = true := by rw [hpq]; simp
                                have ht2 : (P.2.toList == Q.2.toList) = true := by rw [hpq]; simp
                                have HI2 : Hid (((3 : Int) ≠ 3 → q + 1 = 1) ∧ ∀ j, j < q + 1 → (n.er.ks.map r.er.actOf).getD (i + j) default = (n.er.ks.map r.er.actOf).getD i default) := ⟨fun h => absurd rfl h, fun j hj => by
                                  rcases Nat.lt_or_ge j q with h | h
                                  · exact hI.out.2 j h
                                  · obtain rfl : j = q := by omega
                                    rw [HPQ.out.1, HPQ.out.2, hpq]⟩
                                clear hpq hI HPQ HRN
                                refine wpAnyN_one (i := 28) (by kernel_rfl) rfl rfl ?_
                                intro K' hK'
                                go_wp2_with fail
                                refine ⟨fun _ => HT6.out, ?_⟩
                                refine wpAnyN_one (i := 29) (by kernel_rfl) rfl rfl ?_
                                intro K' hK'
                                go_wp2_with fail
                                refine ⟨fun _ => HT6.out, by kernel_rfl, ?_⟩
                                go_wp2_with fail
                                go_roundw
                                case rel => exact ⟨q + 1, by omega, by omega, by go_num, hS6, HI2⟩
                                case measure => simp [intOf]; omega
                              · have HE : Hid (((3 : Int), (i : Int), (q : Int)) = findAllR r.er n.er s.er.order) := by
                                  show _ = _
                                  rw [← HV.out]
                                  unfold runR
                                  rw [if_pos rfl, HRN.out q hq1 hq2 hI.out.2 (Or.inr (by rw [HPQ.out.1, HPQ.out.2]; exact hpq))]
                                clear HRN HPQ hI
                                by_cases h1 : P.1 = Q.1
                                · have h2 : ¬ P.2 = Q.2 := fun h => hpq (Prod.ext h1 h)
                                  have ht1 : (P.1 == Q.1) = true := by simpa using h1
                                  have ht2 : (P.2.toList == Q.2.toList) = false := by rw [toList_beq]; simpa using h2
                                  clear hpq h1 h2
                                  refine wpAnyN_one (i := 28) (by kernel_rfl) rfl rfl ?_
                                  intro K' hK'
                                  go_wp2_with fail
                                  refine ⟨fun _ => HT6.out, ?_⟩
                                  refine wpAnyN_one (i := 29) (by kernel_rfl) rfl rfl ?_
                                  intro K' hK'
                                  go_wp2_with fail
                                  refine ⟨fun _ => HT6.out, by kernel_rfl, ?_⟩
                                  obtain ⟨⟨_, _, _, _, ⟨⟨z0, z1, z2⟩, zf⟩⟩, _⟩ := id hS6
                                  have HZ := Lib.hid (⟨z0, z1, z2⟩ : _ ∧ _ ∧ _)
                                  have hGr := hS6.1.1
                                  go_wp2_with fail
                                  have hW := set3 (u0 := .int .i64 3) (u1 := .int .i64 i) (u2 := .int .i64 q) HZ.out rfl
                                  revert hW
                                  generalize hF : ((w6.setCell ⟨w.heap.size + 1 + 1, 0, none⟩ (.int .i64 3)).setCell ⟨w.heap.size + 1 + 1, 1, none⟩ (.int .i64 i)).setCell ⟨w.heap.size + 1 + 1, 2, none⟩ (.int .i64 q) = F
                                  rintro ⟨⟨f0, f1, f2⟩, hg⟩
                                  refine bodyPost_ret (v := findVal (3, i, q)) (by simp [results, Try.results14, go_sem, findVal, f0, f1, f2]) rfl ⟨ret_val (by rw [HFT.out, ← HE.out]), hg w hGr (by omega)⟩
                                · have ht1 : (P.1 == Q.1) = false := by simpa using h1
                                  clear hpq h1
                                  refine wpAnyN_one (i := 28) (by kernel_rfl) rfl rfl ?_
                                  intro K' hK'
                                  go_wp2_with fail
                                  refine ⟨fun _ => HT6.out, ?_⟩
                                  refine wpAnyN_one (i := 29) (by kernel_rfl) rfl rfl ?_
                                  intro K' hK'
                                  go_wp2_with fail
                                  refine ⟨fun _ => HT6.out, by kernel_rfl, ?_⟩
                                  obtain ⟨⟨_, _, _, _, ⟨⟨z0, z1, z2⟩, zf⟩⟩, _⟩ := id hS6
                                  have HZ := Lib.hid (⟨z0, z1, z2⟩ : _ ∧ _ ∧ _)
                                  have hGr := hS6.1.1
                                  go_wp2_with fail
                                  have hW := set3 (u0 := .int .i64 3) (u1 := .int .i64 i) (u2 := .int .i64 q) HZ.out rfl
                                  revert hW
                                  generalize hF : ((w6.setCell ⟨w.heap.size + 1 + 1, 0, none⟩ (.int .i64 3)).setCell ⟨w.heap.size + 1 + 1, 1, none⟩ (.int .i64 i)).setCell ⟨w.heap.size + 1 + 1, 2, none⟩ (.int .i64 q) = F
                                  rintro ⟨⟨f0, f1, f2⟩, hg⟩
                                  refine bodyPost_ret (v := findVal (3, i, q)) (by simp [results, Try.results14, go_sem, findVal, f0, f1, f2]) rfl ⟨ret_val (by rw [HFT.out, ← HE.out]), hg w hGr (by omega)⟩
                          · have HE : Hid (((3 : Int), (i : Int), (q : Int)) = findAllR r.er n.er s.er.order) := by
                              show _ = _
                              rw [← HV.out]
                              unfold runR
                              rw [if_pos rfl, runOf_eq (l := n.er.ks.map r.er.actOf) (i := i) (m := q) hq1 (by rw [hll]; exact hq2) hI.out.2 (Or.inl (by rw [hll]; omega))]
                            have hlk : ¬ (i : Int) + (q : Int) < n.ks.length := by omega
                            have hwr : IntKind.i64.wrap ((i : Int) + (q : Int)) = (i : Int) + q := by rw [IntKind.wrap_i64]; omega
                            clear hI
                            go_wp2_with fail
                            refine wp_region_need (RFAt w s n rb r) (fun j => j.blt 30) (by kernel_rfl) ?_
                            generalize wr.drew = c0 at *
                            refine wpAnyN_at (i := 0) (v := .int .i64 3) (some 49) rfl rfl (by kernel_rfl) (by kernel_rfl) (by kernel_rfl) (by kernel_rfl) (fun _ _ _ h => h) (Or.inl ⟨rfl, fun w' hS => by go_simp⟩) hSd ?_
                            simp only [Act.put, List.setIfInBounds_toArray, List.set_cons_succ, List.set_cons_zero]
                            refine wpAnyN_at (i := 1) (v := .bool true) (some 50) rfl rfl (by kernel_rfl) (by kernel_rfl) (by kernel_rfl) (by kernel_rfl) (fun _ _ _ h => h) (Or.inl ⟨rfl, fun w' hS => by go_simp⟩) hSd ?_
                            simp only [Act.put, List.setIfInBounds_toArray, List.set_cons_succ, List.set_cons_zero]
                            refine wpAnyN_at (i := 2) (v := .bool true) (some 51) rfl rfl (by kernel_rfl) (by kernel_rfl) (by kernel_rfl) (by kernel_rfl) (fun _ _ _ h => h) (Or.inl ⟨rfl, fun w' hS => by go_simp⟩) hSd ?_
                            simp only [Act.put, List.setIfInBounds_toArray, List.set_cons_succ, List.set_cons_zero]
                            refine wpAnyN_at (i := 3) (v := .int .i64 i) (some 52) rfl rfl (by kernel_rfl) (by kernel_rfl) (by kernel_rfl) (by kernel_rfl) (fun _ _ _ h => h) (Or.inl ⟨rfl, fun w' hS => by go_simp⟩) hSd ?_
                            simp only [Act.put, List.setIfInBounds_toArray, List.set_cons_succ, List.set_cons_zero]
                            refine wpAnyN_at (i := 4) (v := .int .i64 q) (some 53) rfl rfl (by kernel_rfl) (by kernel_rfl) (by kernel_rfl) (by kernel_rfl) (fun _ _ _ h => h) (Or.inl ⟨rfl, fun w' hS => by go_simp⟩) hSd ?_
                            simp only [Act.put, List.setIfInBounds_toArray, List.set_cons_succ, List.set_cons_zero]
                            refine wpAnyN_at (i := 5) (v := .int .i64 ((i : Int) + (q : Int))) (some 54) rfl rfl (by kernel_rfl) (by kernel_rfl) (by kernel_rfl) (by kernel_rfl) (fun _ _ _ h => h) (Or.inl ⟨rfl, fun w' hS => by go_simp⟩) hSd ?_
                            simp only [Act.put, List.setIfInBounds_toArray, List.set_cons_succ, List.set_cons_zero]
                            refine wpAnyN_at (i := 6) (v := .pointer (some ⟨w.heap.size + 1, 3, none⟩)) (some 55) rfl rfl (by kernel_rfl) (by kernel_rfl) (by kernel_rfl) (by kernel_rfl) (fun _ _ _ h => h) (Or.inl ⟨rfl, fun w' hS => by go_simp⟩) hSd ?_
                            simp only [Act.put, List.setIfInBounds_toArray, List.set_cons_succ, List.set_cons_zero]
                            refine wpAnyN_at (i := 7) (v := .slice n.ka n.ks.length n.kc) (some 56) rfl rfl (by kernel_rfl) (by kernel_rfl) (by kernel_rfl) (by kernel_rfl) (fun _ _ _ h => h) (Or.inl ⟨rfl, fun w' hS => by obtain ⟨⟨_, _, _, ⟨_, _, _, n3⟩, _⟩, _⟩ := hS; go_simp⟩) hSd ?_
                            simp only [Act.put, List.setIfInBounds_toArray, List.set_cons_succ, List.set_cons_zero]
                            refine wpAnyN_at (i := 8) (v := .int .i64 n.ks.length) (some 57) rfl rfl (by kernel_rfl) (by kernel_rfl) (by kernel_rfl) (by kernel_rfl) (fun _ _ _ h => h) (Or.inl ⟨rfl, fun w' hS => by go_simp⟩) hSd ?_
                            simp only [Act.put, List.setIfInBounds_toArray, List.set_cons_succ, List.set_cons_zero]
                            refine wpAnyN_at (i := 9) (v := .bool false) (some 58) rfl rfl (by kernel_rfl) (by kernel_rfl) (by kernel_rfl) (by kernel_rfl) (fun _ _ _ h => h) (Or.inl ⟨rfl, fun w' hS => by go_simp⟩) hSd ?_
                            simp only [Act.put, List.setIfInBounds_toArray, List.set_cons_succ, List.set_cons_zero]
                            refine wpAnyN_at (i := 10) (v := .bool false) (some 59) rfl rfl (by kernel_rfl) (by kernel_rfl) (by kernel_rfl) (by kernel_rfl) (fun _ _ _ h => h) (Or.inl ⟨rfl, fun w' hS => by go_simp⟩) hSd ?_
                            simp only [Act.put, List.setIfInBounds_toArray, List.set_cons_succ, List.set_cons_zero]
                            refine wpAnyN_at (i := 11) (v := .bool false) (some 60) rfl rfl (by kernel_rfl) (by kernel_rfl) (by kernel_rfl) (by kernel_rfl) (fun _ _ _ h => h) (Or.inl ⟨rfl, fun w' hS => by go_simp⟩) hSd ?_
                            simp only [Act.put, List.setIfInBounds_toArray, List.set_cons_succ, List.set_cons_zero]
                            refine wpAnyN_at (i := 12) (v := undef) (some 61) rfl rfl (by kernel_rfl) (by kernel_rfl) (by kernel_rfl) (by kernel_rfl) (fun _ _ _ h => h) (Or.inr ⟨rfl, rfl⟩) hSd ?_
                            simp only [Act.put, List.setIfInBounds_toArray, List.set_cons_succ, List.set_cons_zero]
                            refine wpAnyN_at (i := 13) (v := undef) (some 62) rfl rfl (by kernel_rfl) (by kernel_rfl) (by kernel_rfl) (by kernel_rfl) (fun _ _ _ h => h) (Or.inr ⟨rfl, rfl⟩) hSd ?_
                            simp only [Act.put, List.setIfInBounds_toArray, List.set_cons_succ, List.set_cons_zero]
                            refine wpAnyN_at (i := 14) (v := undef) (some 63) rfl rfl (by kernel_rfl) (by kernel_rfl) (by kernel_rfl) (by kernel_rfl) (fun _ _ _ h => h) (Or.inr ⟨rfl, rfl⟩) hSd ?_
                            simp only [Act.put, List.setIfInBounds_toArray, List.set_cons_succ, List.set_cons_zero]
                            refine wpAnyN_at (i := 15) (v := undef) (some 64) rfl rfl (by kernel_rfl) (by kernel_rfl) (by kernel_rfl) (by kernel_rfl) (fun _ _ _ h => h) (Or.inr ⟨rfl, rfl⟩) hSd ?_
                            simp only [Act.put, List.setIfInBounds_toArray, List.set_cons_succ, List.set_cons_zero]
                            refine wpAnyN_at (i := 16) (v := undef) (some 65) rfl rfl (by kernel_rfl) (by kernel_rfl) (by kernel_rfl) (by kernel_rfl) (fun _ _ _ h => h) (Or.inr ⟨rfl, rfl⟩) hSd ?_
                            simp only [Act.put, List.setIfInBounds_toArray, List.set_cons_succ, List.set_cons_zero]
                            refine wpAnyN_at (i := 17) (v := undef) (some 66) rfl rfl (by kernel_rfl) (by kernel_rfl) (by kernel_rfl) (by kernel_rfl) (fun _ _ _ h => h) (Or.inr ⟨rfl, rfl⟩) hSd ?_
                            simp only [Act.put, List.setIfInBounds_toArray, List.set_cons_succ, List.set_cons_zero]
                            refine wpAnyN_at (i := 18) (v := undef) (some 67) rfl rfl (by kernel_rfl) (by kernel_rfl) (by kernel_rfl) (by kernel_rfl) (fun _ _ _ h => h) (Or.inr ⟨rfl, rfl⟩) hSd ?_
                            simp only [Act.put, List.setIfInBounds_toArray, List.set_cons_succ, List.set_cons_zero]
                            refine wpAnyN_at (i := 19) (v := undef) (some 68) rfl rfl (by kernel_rfl) (by kernel_rfl) (by kernel_rfl) (by kernel_rfl) (fun _ _ _ h => h) (Or.inr ⟨rfl, rfl⟩) hSd ?_
                            simp only [Act.put, List.setIfInBounds_toArray, List.set_cons_succ, List.set_cons_zero]
                            refine wpAnyN_at (i := 20) (v := undef) (some 69) rfl rfl (by kernel_rfl) (by kernel_rfl) (by kernel_rfl) (by kernel_rfl) (fun _ _ _ h => h) (Or.inr ⟨rfl, rfl⟩) hSd ?_
                            simp only [Act.put, List.setIfInBounds_toArray, List.set_cons_succ, List.set_cons_zero]
                            refine wpAnyN_at (i := 21) (v := undef) (some 70) rfl rfl (by kernel_rfl) (by kernel_rfl) (by kernel_rfl) (by kernel_rfl) (fun _ _ _ h => h) (Or.inr ⟨rfl, rfl⟩) hSd ?_
                            simp only [Act.put, List.setIfInBounds_toArray, List.set_cons_succ, List.set_cons_zero]
                            refine wpAnyN_at (i := 22) (v := undef) (some 71) rfl rfl (by kernel_rfl) (by kernel_rfl) (by kernel_rfl) (by kernel_rfl) (fun _ _ _ h => h) (Or.inr ⟨rfl, rfl⟩) hSd ?_
                            simp only [Act.put, List.setIfInBounds_toArray, List.set_cons_succ, List.set_cons_zero]
                            refine wpAnyN_at (i := 23) (v := undef) (some 72) rfl rfl (by kernel_rfl) (by kernel_rfl) (by kernel_rfl) (by kernel_rfl) (fun _ _ _ h => h) (Or.inr ⟨rfl, rfl⟩) hSd ?_
                            simp only [Act.put, List.setIfInBounds_toArray, List.set_cons_succ, List.set_cons_zero]
                            refine wpAnyN_at (i := 24) (v := undef) (some 73) rfl rfl (by kernel_rfl) (by kernel_rfl) (by kernel_rfl) (by kernel_rfl) (fun _ _ _ h => h) (Or.inr ⟨rfl, rfl⟩) hSd ?_
                            simp only [Act.put, List.setIfInBounds_toArray, List.set_cons_succ, List.set_cons_zero]
                            refine wpAnyN_at (i := 25) (v := undef) (some 74) rfl rfl (by kernel_rfl) (by kernel_rfl) (by kernel_rfl) (by kernel_rfl) (fun _ _ _ h => h) (Or.inr ⟨rfl, rfl⟩) hSd ?_
                            simp only [Act.put, List.setIfInBounds_toArray, List.set_cons_succ, List.set_cons_zero]
                            refine wpAnyN_at (i := 26) (v := undef) (some 75) rfl rfl (by kernel_rfl) (by kernel_rfl) (by kernel_rfl) (by kernel_rfl) (fun _ _ _ h => h) (Or.inr ⟨rfl, rfl⟩) hSd ?_
                            simp only [Act.put, List.setIfInBounds_toArray, List.set_cons_succ, List.set_cons_zero]
                            refine wpAnyN_at (i := 27) (v := undef) (some 76) rfl rfl (by kernel_rfl) (by kernel_rfl) (by kernel_rfl) (by kernel_rfl) (fun _ _ _ h => h) (Or.inr ⟨rfl, rfl⟩) hSd ?_
                            simp only [Act.put, List.setIfInBounds_toArray, List.set_cons_succ, List.set_cons_zero]
                            refine wpAnyN_at (i := 28) (v := undef) (some 77) rfl rfl (by kernel_rfl) (by kernel_rfl) (by kernel_rfl) (by kernel_rfl) (fun _ _ _ h => h) (Or.inr ⟨rfl, rfl⟩) hSd ?_
                            simp only [Act.put, List.setIfInBounds_toArray, List.set_cons_succ, List.set_cons_zero]
                            refine wpAnyN_at (i := 29) (v := .bool false) (some 78) rfl rfl (by kernel_rfl) (by kernel_rfl) (by kernel_rfl) (by kernel_rfl) (fun _ _ _ h => h) (Or.inl ⟨rfl, fun w' hS => by go_simp⟩) hSd ?_
                            simp only [Act.put, List.setIfInBounds_toArray, List.set_cons_succ, List.set_cons_zero]
                            refine wpAnyN_done (by kernel_rfl) ?_ _
                            obtain ⟨⟨_, _, _, _, ⟨⟨z0, z1, z2⟩, zf⟩⟩, _⟩ := id hSd
                            have HZ := Lib.hid (⟨z0, z1, z2⟩ : _ ∧ _ ∧ _)
                            have hGr := hSd.1.1
                            go_wp2_with fail
                            have hW := set3 (u0 := .int .i64 3) (u1 := .int .i64 i) (u2 := .int .i64 q) HZ.out rfl
                            revert hW
                            generalize hF : ((c0.setCell ⟨w.heap.size + 1 + 1, 0, none⟩ (.int .i64 3)).setCell ⟨w.heap.size + 1 + 1, 1, none⟩ (.int .i64 i)).setCell ⟨w.heap.size + 1 + 1, 2, none⟩ (.int .i64 q) = F
                            rintro ⟨⟨f0, f1, f2⟩, hg⟩
                            refine bodyPost_ret (v := findVal (3, i, q)) (by simp [results, Try.results14, go_sem, findVal, f0, f1, f2]) rfl ⟨ret_val (by rw [HFT.out, ← HE.out]), hg w hGr (by omega)⟩
                        · have e3 : (c == 3) = false := by simpa using hc3
                          obtain rfl : q = 1 := hI.out.1 hc3
                          have HE : Hid ((c, (i : Int), (1 : Int)) = findAllR r.er n.er s.er.order) := by
                            show _ = _
                            rw [← HV.out]
                            unfold runR
                            rw [if_neg hc3]
                          clear hI hc3
                          go_wp2_with fail
                          go_region
                          all_goals
                            generalize wr.drew = c0 at *
                            obtain ⟨⟨_, _, _, _, ⟨⟨z0, z1, z2⟩, zf⟩⟩, _⟩ := id hSd
                            have HZ := Lib.hid (⟨z0, z1, z2⟩ : _ ∧ _ ∧ _)
                            have hGr := hSd.1.1
                            go_wp2_with fail
                            have hW := set3 (u0 := .int .i64 c) (u1 := .int .i64 i) (u2 := .int .i64 1) HZ.out rfl
                            revert hW
                            generalize hF : ((c0.setCell ⟨w.heap.size + 1 + 1, 0, none⟩ (.int .i64 c)).setCell ⟨w.heap.size + 1 + 1, 1, none⟩ (.int .i64 i)).setCell ⟨w.heap.size + 1 + 1, 2, none⟩ (.int .i64 1) = F
                            rintro ⟨⟨f0, f1, f2⟩, hg⟩
                            refine bodyPost_ret (v := findVal (c, i, 1)) (by simp [results, Try.results14, go_sem, findVal, f0, f1, f2]) rfl ⟨ret_val (by rw [HFT.out, ← HE.out]), hg w hGr (by omega)⟩
                · obtain rfl : n.ks.length = i := by omega
                  have HV := Lib.hid (HN.out (fun j hj => hA.out j (by rw [NT.er_ks, List.length_map] at hj; exact hj)))
                  have hlt3 : ¬ (n.ks.length : Int) < n.ks.length := by omega
                  go_wp2_with fail
                  go_roundw
                  case rel => exact ⟨k + 1, by omega, by go_num, hR2, HV⟩
                  case measure => simp [intOf]; omega
        · obtain rfl : k = 6 := by omega
          have HV : Hid ((0, 0, 0) = findAllR r.er n.er s.er.order) := HFA.out
          have hlt3 : ¬ ((6 : Nat) : Int) < 6 := by omega
          obtain ⟨⟨_, _, _, _, ⟨⟨z0, z1, z2⟩, zf⟩⟩, _⟩ := id hR
          have HZ := Lib.hid (⟨z0, z1, z2⟩ : _ ∧ _ ∧ _)
          have hGr := hR.1.1
          go_wp2_with fail
          have hW := set3 (u0 := .int .i64 0) (u1 := .int .i64 0) (u2 := .int .i64 0) HZ.out rfl
          revert hW
          generalize hF : ((wr.setCell ⟨w.heap.size + 1 + 1, 0, none⟩ (.int .i64 0)).setCell ⟨w.heap.size + 1 + 1, 1, none⟩ (.int .i64 0)).setCell ⟨w.heap.size + 1 + 1, 2, none⟩ (.int .i64 0) = F
          rintro ⟨⟨f0, f1, f2⟩, hg⟩
          refine bodyPost_ret (v := findVal (0, 0, 0)) (by simp [results, Try.results14, go_sem, findVal, f0, f1, f2]) rfl ⟨ret_val (by rw [HFT.out, ← HV.out]), hg w hGr (by omega)⟩
end Go.Proofs.Ytnkmcbhpmbjkpaa
