/- table.typed, table.ActOf: the contracts. -/
import Derived.Test.YtnkmcbhpmbjkpaaRule
import Derived.Test.YtnkmcbhpmbjkpaaOrders
namespace Go.Proofs.Ytnkmcbhpmbjkpaa
open Go Go.RowKit

def actVal (a : ActL) : Value := .agg #[.int .i64 a.1, .string a.2]
/-- two cells are written -/
theorem set2 {W W' : World} {b : Nat} {u0 u1 v0 v1 : Value} (h : W.cell? ⟨b, 0, none⟩ = some v0 ∧ W.cell? ⟨b, 1, none⟩ = some v1) (hW : W' = (W.setCell ⟨b, 0, none⟩ u0).setCell ⟨b, 1, none⟩ u1) :
    (W'.cell? ⟨b, 0, none⟩ = some u0 ∧ W'.cell? ⟨b, 1, none⟩ = some u1) ∧ (∀ a, Grew a W → a.heap.size ≤ b → Grew a W') := by
  obtain ⟨h0, h1⟩ := h
  subst hW
  refine ⟨⟨?_, ?_⟩, fun a hg hb => (hg.setCell hb _).setCell hb _⟩
  · rw [cell_ne (by omega)]; exact cell_same h0
  · exact cell_same (by rw [cell_ne (by omega)]; exact h1)

set_option maxHeartbeats 1000000 in
theorem typed_any (r : RN) (k : ByteArray) (w : World) (hr : r.In w 0 w.heap.size) (hl : r.kids.length ≤ 1048576) :
    Calls Try.prog 47 #[r.val, .string k] w fun e w' => e = .returned (actVal (r.er.typed k)) ∧ Grew w w' := by
  have CI := Lib.hid (fun w1 (hg : Grew w w1) (hz : w.heap.size + 3 ≤ w1.heap.size) (h0 : w1.cell? ⟨w.heap.size + 1, 0, none⟩ = some (.string k)) =>
    indexPairs_any r.kids r.ka r.kc 69 #[.pointer (some ⟨w.heap.size + 1, 0, none⟩)] (fun p => decide (p.1 = k)) w1 Try.call69
      (fun p _ w2 hg2 => pairFn_any p k (w.heap.size + 1) w2 (by rw [hg2.cell (by show w.heap.size + 1 < _; omega)]; exact h0) (by have := hg2.size; omega))
      _ _ (PairsIn.grew hr hg (Nat.le_refl _)) (by omega) hl)
  unfold RN.val
  go_enter Try.func47, Try.ntmps47
  go_wp2_with fail
  have hG : Grew w (((w.alloc (.cells #[.string r.ty, .int .i64 r.td, .string r.tt, .int .i64 r.od, .string r.ot, .slice r.ka r.kids.length r.kc, .int .i64 r.fill, .string r.ft] 27)).alloc (.cells #[.string k] 9)).alloc (.cells #[.int .i64 0, .string { data := #[] }] 24)) := ((Grew.alloc1 w _).alloc _).alloc _
  have hz : w.heap.size + 3 ≤ (((w.alloc (.cells #[.string r.ty, .int .i64 r.td, .string r.tt, .int .i64 r.od, .string r.ot, .slice r.ka r.kids.length r.kc, .int .i64 r.fill, .string r.ft] 27)).alloc (.cells #[.string k] 9)).alloc (.cells #[.int .i64 0, .string { data := #[] }] 24)).heap.size := by simp
  have hk0 : (((w.alloc (.cells #[.string r.ty, .int .i64 r.td, .string r.tt, .int .i64 r.od, .string r.ot, .slice r.ka r.kids.length r.kc, .int .i64 r.fill, .string r.ft] 27)).alloc (.cells #[.string k] 9)).alloc (.cells #[.int .i64 0, .string { data := #[] }] 24)).cell? ⟨w.heap.size + 1, 0, none⟩ = some (.string k) := by go_simp
  have hb : (((w.alloc (.cells #[.string r.ty, .int .i64 r.td, .string r.tt, .int .i64 r.od, .string r.ot, .slice r.ka r.kids.length r.kc, .int .i64 r.fill, .string r.ft] 27)).alloc (.cells #[.string k] 9)).alloc (.cells #[.int .i64 0, .string { data := #[] }] 24)).cell? ⟨w.heap.size, 0, none⟩ = some (.string r.ty) ∧ (((w.alloc (.cells #[.string r.ty, .int .i64 r.td, .string r.tt, .int .i64 r.od, .string r.ot, .slice r.ka r.kids.length r.kc, .int .i64 r.fill, .string r.ft] 27)).alloc (.cells #[.string k] 9)).alloc (.cells #[.int .i64 0, .string { data := #[] }] 24)).cell? ⟨w.heap.size, 1, none⟩ = some (.int .i64 r.td) ∧ (((w.alloc (.cells #[.string r.ty, .int .i64 r.td, .string r.tt, .int .i64 r.od, .string r.ot, .slice r.ka r.kids.length r.kc, .int .i64 r.fill, .string r.ft] 27)).alloc (.cells #[.string k] 9)).alloc (.cells #[.int .i64 0, .string { data := #[] }] 24)).cell? ⟨w.heap.size, 2, none⟩ = some (.string r.tt) ∧ (((w.alloc (.cells #[.string r.ty, .int .i64 r.td, .string r.tt, .int .i64 r.od, .string r.ot, .slice r.ka r.kids.length r.kc, .int .i64 r.fill, .string r.ft] 27)).alloc (.cells #[.string k] 9)).alloc (.cells #[.int .i64 0, .string { data := #[] }] 24)).cell? ⟨w.heap.size, 3, none⟩ = some (.int .i64 r.od) ∧ (((w.alloc (.cells #[.string r.ty, .int .i64 r.td, .string r.tt, .int .i64 r.od, .string r.ot, .slice r.ka r.kids.length r.kc, .int .i64 r.fill, .string r.ft] 27)).alloc (.cells #[.string k] 9)).alloc (.cells #[.int .i64 0, .string { data := #[] }] 24)).cell? ⟨w.heap.size, 4, none⟩ = some (.string r.ot) ∧ (((w.alloc (.cells #[.string r.ty, .int .i64 r.td, .string r.tt, .int .i64 r.od, .string r.ot, .slice r.ka r.kids.length r.kc, .int .i64 r.fill, .string r.ft] 27)).alloc (.cells #[.string k] 9)).alloc (.cells #[.int .i64 0, .string { data := #[] }] 24)).cell? ⟨w.heap.size, 5, none⟩ = some (.slice r.ka r.kids.length r.kc) ∧ (((w.alloc (.cells #[.string r.ty, .int .i64 r.td, .string r.tt, .int .i64 r.od, .string r.ot, .slice r.ka r.kids.length r.kc, .int .i64 r.fill, .string r.ft] 27)).alloc (.cells #[.string k] 9)).alloc (.cells #[.int .i64 0, .string { data := #[] }] 24)).cell? ⟨w.heap.size, 6, none⟩ = some (.int .i64 r.fill) ∧ (((w.alloc (.cells #[.string r.ty, .int .i64 r.td, .string r.tt, .int .i64 r.od, .string r.ot, .slice r.ka r.kids.length r.kc, .int .i64 r.fill, .string r.ft] 27)).alloc (.cells #[.string k] 9)).alloc (.cells #[.int .i64 0, .string { data := #[] }] 24)).cell? ⟨w.heap.size, 7, none⟩ = some (.string r.ft) := ⟨by go_simp, by go_simp, by go_simp, by go_simp, by go_simp, by go_simp, by go_simp, by go_simp⟩
  have ha : (((w.alloc (.cells #[.string r.ty, .int .i64 r.td, .string r.tt, .int .i64 r.od, .string r.ot, .slice r.ka r.kids.length r.kc, .int .i64 r.fill, .string r.ft] 27)).alloc (.cells #[.string k] 9)).alloc (.cells #[.int .i64 0, .string { data := #[] }] 24)).cell? ⟨w.heap.size + 1 + 1, 0, none⟩ = some (.int .i64 0) ∧ (((w.alloc (.cells #[.string r.ty, .int .i64 r.td, .string r.tt, .int .i64 r.od, .string r.ot, .slice r.ka r.kids.length r.kc, .int .i64 r.fill, .string r.ft] 27)).alloc (.cells #[.string k] 9)).alloc (.cells #[.int .i64 0, .string { data := #[] }] 24)).cell? ⟨w.heap.size + 1 + 1, 1, none⟩ = some (.string { data := #[] }) := ⟨by go_simp, by go_simp⟩
  have hf : ∀ j, (((w.alloc (.cells #[.string r.ty, .int .i64 r.td, .string r.tt, .int .i64 r.od, .string r.ot, .slice r.ka r.kids.length r.kc, .int .i64 r.fill, .string r.ft] 27)).alloc (.cells #[.string k] 9)).alloc (.cells #[.int .i64 0, .string { data := #[] }] 24)).frozen? ⟨w.heap.size + 1 + 1, j, none⟩ = false := fun j => by rw [World.frozen?_alloc_at _ _ _ _ (by simp)]
  generalize (((w.alloc (.cells #[.string r.ty, .int .i64 r.td, .string r.tt, .int .i64 r.od, .string r.ot, .slice r.ka r.kids.length r.kc, .int .i64 r.fill, .string r.ft] 27)).alloc (.cells #[.string k] 9)).alloc (.cells #[.int .i64 0, .string { data := #[] }] 24)) = w1 at *
  refine (CI.out w1 hG hz hk0).mono ?_
  rintro e w2 ⟨rfl, g2⟩
  have G2 := hG.trans g2
  have hz2 : w.heap.size + 3 ≤ w2.heap.size := Nat.le_trans hz g2.size
  have he : ∀ b j, b < w.heap.size + 3 → w2.cell? ⟨b, j, none⟩ = w1.cell? ⟨b, j, none⟩ := fun b j hb => g2.cell (p := ⟨b, j, none⟩) (by show b < _; omega)
  have hf2 : ∀ j, w2.frozen? ⟨w.heap.size + 1 + 1, j, none⟩ = false := fun j => (g2.frozen (p := ⟨w.heap.size + 1 + 1, j, none⟩) (by show w.heap.size + 1 + 1 < _; omega)).trans (hf j)
  simp only [← he _ _ (show w.heap.size < w.heap.size + 3 by omega)] at hb
  simp only [← he _ _ (show w.heap.size + 1 + 1 < w.heap.size + 3 by omega)] at ha
  obtain ⟨b0, b1, b2, b3, b4, b5, b6, b7⟩ := hb
  have HA := Lib.hid ha
  obtain ⟨a0, a1⟩ := ha
  clear he hf hk0 hz CI
  rcases find_idx (fun p : PairL => decide (p.1 = k)) r.kids with ⟨h1, h2⟩ | ⟨j, hj, h1, h2⟩
  · have HR : Hid (r.er.typed k = (r.od, r.ot)) := by show _ = _; simp only [RuleT.typed, RN.er_kids, h2]; rfl
    rw [h1]
    clear h1 h2
    go_wp2_with fail
    have hW := fun W => set2 (W' := W) (u0 := .int .i64 r.od) (u1 := .string r.ot) HA.out
    have hW := hW _ rfl
    revert hW
    generalize hF : (w2.setCell ⟨w.heap.size + 1 + 1, 0, none⟩ (.int .i64 r.od)).setCell ⟨w.heap.size + 1 + 1, 1, none⟩ (.string r.ot) = F
    rintro ⟨⟨f0, f1⟩, hg⟩
    refine bodyPost_ret (v := actVal (r.od, r.ot)) (by simp [results, Try.results47, go_sem, actVal, f0, f1]) rfl ⟨ret_val (by rw [HR.out]), hg w G2 (by omega)⟩
  · have HR : Hid (r.er.typed k = (r.kids.getD j default).2) := by show _ = _; simp only [RuleT.typed, RN.er_kids, h2]; rfl
    rw [h1]
    clear h1 h2
    have hlj : (j : Int) < r.kids.length := by omega
    obtain ⟨b, o, hka, _, hbh, q0, q1, q2⟩ := (PairsIn.grew hr G2 (Nat.le_refl _)).at hj
    generalize r.kids.getD j default = q at *
    generalize r.ka = ka at *
    subst hka
    go_wp2_with fail
    have hW := fun W => set2 (W' := W) (u0 := .int .i64 q.2.1) (u1 := .string q.2.2) HA.out
    have hW := hW _ rfl
    revert hW
    generalize hF : (w2.setCell ⟨w.heap.size + 1 + 1, 0, none⟩ (.int .i64 q.2.1)).setCell ⟨w.heap.size + 1 + 1, 1, none⟩ (.string q.2.2) = F
    rintro ⟨⟨f0, f1⟩, hg⟩
    refine bodyPost_ret (v := actVal (q.2.1, q.2.2)) (by simp [results, Try.results47, go_sem, actVal, f0, f1]) rfl ⟨ret_val (by rw [HR.out]), hg w G2 (by omega)⟩
/-- what a rule does with a node -/
def RuleT.actOf (r : RuleT) (t : T) : ActL := if t.lf then r.text else r.typed t.type
/-- the boxes of table.ActOf -/
def ActBox (w : World) (r : RN) (n : NT) (w' : World) : Prop :=
  Grew w w' ∧ w.heap.size + 3 ≤ w'.heap.size ∧ (w'.cell? ⟨w.heap.size, 0, none⟩ = some (.string r.ty) ∧ w'.cell? ⟨w.heap.size, 1, none⟩ = some (.int .i64 r.td) ∧ w'.cell? ⟨w.heap.size, 2, none⟩ = some (.string r.tt) ∧ w'.cell? ⟨w.heap.size, 3, none⟩ = some (.int .i64 r.od) ∧ w'.cell? ⟨w.heap.size, 4, none⟩ = some (.string r.ot) ∧ w'.cell? ⟨w.heap.size, 5, none⟩ = some (.slice r.ka r.kids.length r.kc) ∧ w'.cell? ⟨w.heap.size, 6, none⟩ = some (.int .i64 r.fill) ∧ w'.cell? ⟨w.heap.size, 7, none⟩ = some (.string r.ft)) ∧ (w'.cell? ⟨w.heap.size + 1, 0, none⟩ = some (.bool n.lf) ∧ w'.cell? ⟨w.heap.size + 1, 1, none⟩ = some (.slice n.pa n.ps.length n.pc) ∧ w'.cell? ⟨w.heap.size + 1, 2, none⟩ = some (.slice n.ta n.ts.length n.tc) ∧ w'.cell? ⟨w.heap.size + 1, 3, none⟩ = some (.slice n.ka n.ks.length n.kc)) ∧
  (w'.cell? ⟨w.heap.size + 1 + 1, 0, none⟩ = some (.int .i64 0) ∧ w'.cell? ⟨w.heap.size + 1 + 1, 1, none⟩ = some (.string { data := #[] })) ∧ ∀ j, w'.frozen? ⟨w.heap.size + 1 + 1, j, none⟩ = false
theorem ActBox.next {w : World} {r : RN} {n : NT} {w1 w2 : World} (h : ActBox w r n w1) (hg : Grew w1 w2) : ActBox w r n w2 := by
  obtain ⟨h1, h2, h3, h4, h5, h6⟩ := h
  have e : ∀ b j, b < w.heap.size + 3 → w2.cell? ⟨b, j, none⟩ = w1.cell? ⟨b, j, none⟩ := fun b j hb => hg.cell (p := ⟨b, j, none⟩) (by show b < _; omega)
  have f : ∀ b j, b < w.heap.size + 3 → w2.frozen? ⟨b, j, none⟩ = w1.frozen? ⟨b, j, none⟩ := fun b j hb => hg.frozen (p := ⟨b, j, none⟩) (by show b < _; omega)
  refine ⟨h1.trans hg, Nat.le_trans h2 hg.size, ?_, ?_, ?_, ?_⟩
  · simp only [e _ _ (show w.heap.size < w.heap.size + 3 by omega)]; exact h3
  · simp only [e _ _ (show w.heap.size + 1 < w.heap.size + 3 by omega)]; exact h4
  · simp only [e _ _ (show w.heap.size + 1 + 1 < w.heap.size + 3 by omega)]; exact h5
  · simp only [f _ _ (show w.heap.size + 1 + 1 < w.heap.size + 3 by omega)]; exact h6

set_option maxHeartbeats 1000000 in
theorem actOf_any (r : RN) (n : NT) (w : World) (hr : r.In w 0 w.heap.size) (hl : r.kids.length ≤ 1048576) (hn : n.Ok w) (hb : n.er.bulk ≤ 1048576) :
    Calls Try.prog 25 #[r.val, n.val] w fun e w' => e = .returned (actVal (r.er.actOf n.er)) ∧ Grew w w' := by
  have CT := Lib.hid (fun w1 (hg : Grew w w1) => type_any n w1 (hn.grew hg) hb)
  have CD := Lib.hid (fun w1 (hg : Grew w w1) => typed_any r n.er.type w1 (RN.In.mono (RN.In.grew hr hg (Nat.le_refl _)) (Nat.le_refl _) hg.size) hl)
  unfold RN.val
  unfold NT.val
  have hB : ActBox w r n (((w.alloc (.cells #[.string r.ty, .int .i64 r.td, .string r.tt, .int .i64 r.od, .string r.ot, .slice r.ka r.kids.length r.kc, .int .i64 r.fill, .string r.ft] 27)).alloc (.cells #[.bool n.lf, .slice n.pa n.ps.length n.pc, .slice n.ta n.ts.length n.tc, .slice n.ka n.ks.length n.kc] 35)).alloc (.cells #[.int .i64 0, .string { data := #[] }] 24)) :=
    ⟨((Grew.alloc1 w _).alloc _).alloc _, by simp, ⟨by go_simp, by go_simp, by go_simp, by go_simp, by go_simp, by go_simp, by go_simp, by go_simp⟩, ⟨by go_simp, by go_simp, by go_simp, by go_simp⟩, ⟨by go_simp, by go_simp⟩, fun j => by rw [World.frozen?_alloc_at _ _ _ _ (by simp)]⟩
  cases hlf : n.lf with
  | true =>
    have HR : Hid (r.er.actOf n.er = (r.td, r.tt)) := by show _ = _; simp [RuleT.actOf, hlf]
    rw [hlf] at hB
    clear CT CD
    go_enter Try.func25, Try.ntmps25
    go_wp2_with fail
    generalize (((w.alloc (.cells #[.string r.ty, .int .i64 r.td, .string r.tt, .int .i64 r.od, .string r.ot, .slice r.ka r.kids.length r.kc, .int .i64 r.fill, .string r.ft] 27)).alloc (.cells #[.bool true, .slice n.pa n.ps.length n.pc, .slice n.ta n.ts.length n.tc, .slice n.ka n.ks.length n.kc] 35)).alloc (.cells #[.int .i64 0, .string { data := #[] }] 24)) = w1 at *
    have G1 := hB.1
    obtain ⟨_, _, ⟨b0, b1, b2, b3, b4, b5, b6, b7⟩, ⟨c0, c1, c2, c3⟩, ⟨a0, a1⟩, af⟩ := hB
    rw [hlf] at c0
    go_wp2_with fail
    refine bodyPost_ret (v := actVal (r.td, r.tt)) (by simp [results, Try.results25, go_sem, actVal]) rfl ⟨ret_val (by rw [HR.out]), ((Grew.alloc1 w _).alloc _).alloc _⟩
  | false =>
    have HR : Hid (r.er.actOf n.er = r.er.typed n.er.type) := by show _ = _; simp [RuleT.actOf, hlf]
    generalize r.er.actOf n.er = aa at *
    rw [hlf] at hB
    go_enter Try.func25, Try.ntmps25
    go_wp2_with fail
    generalize (((w.alloc (.cells #[.string r.ty, .int .i64 r.td, .string r.tt, .int .i64 r.od, .string r.ot, .slice r.ka r.kids.length r.kc, .int .i64 r.fill, .string r.ft] 27)).alloc (.cells #[.bool false, .slice n.pa n.ps.length n.pc, .slice n.ta n.ts.length n.tc, .slice n.ka n.ks.length n.kc] 35)).alloc (.cells #[.int .i64 0, .string { data := #[] }] 24)) = w1 at *
    clear hlf
    have hS1 : ActBox w r n w1.drew := hB.next (Grew.refl _).drew
    refine wp_region_need (ActBox w r n) (fun j => j.blt 4) (by kernel_rfl) ?_
    refine wpAnyN_take (i := 0) (v := .agg #[.string r.ty, .int .i64 r.td, .string r.tt, .int .i64 r.od, .string r.ot, .slice r.ka r.kids.length r.kc, .int .i64 r.fill, .string r.ft]) rfl (by kernel_rfl) (by kernel_rfl) (by kernel_rfl) (by kernel_rfl) (fun _ _ _ h => h) (Or.inl ⟨rfl, fun w' hS => by obtain ⟨_, _, ⟨b0, b1, b2, b3, b4, b5, b6, b7⟩, ⟨c0, c1, c2, c3⟩, ⟨a0, a1⟩, af⟩ := hS; go_simp⟩) hS1 ?_
    refine wpAnyN_take (i := 1) (v := .agg #[.bool n.lf, .slice n.pa n.ps.length n.pc, .slice n.ta n.ts.length n.tc, .slice n.ka n.ks.length n.kc]) rfl (by kernel_rfl) (by kernel_rfl) (by kernel_rfl) (by kernel_rfl) (fun _ _ _ h => h) (Or.inl ⟨rfl, fun w' hS => by obtain ⟨_, _, ⟨b0, b1, b2, b3, b4, b5, b6, b7⟩, ⟨c0, c1, c2, c3⟩, ⟨a0, a1⟩, af⟩ := hS; go_simp⟩) hS1 ?_
    refine wpAnyN_one (i := 2) (by kernel_rfl) rfl rfl ?_
    intro K' hK'
    go_wp2_with fail
    refine (CT.out w1.drew hS1.1).mono ?_
    rintro e w2 ⟨rfl, g2⟩
    have hS2 := hS1.next g2
    refine hK' _ _ ⟨fun _ => hS2, ?_⟩
    clear hK' K'
    refine wpAnyN_one (i := 3) (by kernel_rfl) rfl rfl ?_
    intro K' hK'
    go_wp2_with fail
    refine (CD.out w2 hS2.1).mono ?_
    rintro e w3 ⟨rfl, g3⟩
    have hS3 := hS2.next g3
    unfold actVal
    refine hK' _ _ ⟨fun _ => hS3, ?_⟩
    clear hK' K'
    have G3 := hS3.1
    obtain ⟨_, _, ⟨b0, b1, b2, b3, b4, b5, b6, b7⟩, ⟨c0, c1, c2, c3⟩, ⟨a0, a1⟩, af⟩ := hS3
    have HA := Lib.hid (⟨a0, a1⟩ : _ ∧ _)
    generalize r.er.typed n.er.type = tt at *
    refine wpAnyN_one (i := 4) (by kernel_rfl) rfl rfl ?_
    intro K' hK'
    go_wp2_with fail
    refine ⟨fun h => (by cases h), ?_⟩
    refine wpAnyN_done (by kernel_rfl) ?_ _
    go_wp2_with fail
    have hW := fun W => set2 (W' := W) (u0 := .int .i64 tt.1) (u1 := .string tt.2) HA.out
    have hW := hW _ rfl
    revert hW
    generalize hF : ((w3.setCell ⟨w.heap.size + 1 + 1, 0, none⟩ (.int .i64 tt.1)).setCell ⟨w.heap.size + 1 + 1, 1, none⟩ (.string tt.2)) = F
    rintro ⟨⟨f0, f1⟩, hg⟩
    refine bodyPost_ret (v := actVal tt) (by simp [results, Try.results25, go_sem, actVal, f0, f1]) rfl ⟨ret_val (by rw [HR.out]), hg w G3 (by omega)⟩
end Go.Proofs.Ytnkmcbhpmbjkpaa
