/- redlineref01.Get, redlineref04.Type, redlineref15.act, ActOf, RuleOf: the contracts. -/
import Derived.Test.YtnkmcbhpmbjkpaaFindBase
import Derived.Test.YtnkmcbhpmbjkpaaRules
namespace Go.Proofs.Ytnkmcbhpmbjkpaa
open Go Go.RowKit

theorem find_hit {α : Type} [Inhabited α] {pr : α → Bool} {l : List α} {k : Nat} (hk : k < l.length) (h : pr (l.getD k default) = true) (hall : ∀ j, j < k → pr (l.getD j default) = false) : l.find? pr = some (l.getD k default) := by
  rcases find_idx pr l with ⟨h1, _⟩ | ⟨j, hj, h1, h2⟩
  · rw [idxOf_found hk h hall] at h1; omega
  · rw [idxOf_found hk h hall] at h1
    obtain rfl : k = j := by omega
    exact h2
theorem find_miss {α : Type} [Inhabited α] {pr : α → Bool} {l : List α} (hall : ∀ j, j < l.length → pr (l.getD j default) = false) : l.find? pr = none := by
  rcases find_idx pr l with ⟨_, h1⟩ | ⟨j, hj, h1, h2⟩
  · exact h1
  · rw [idxOf_none hall] at h1; omega
theorem miss_next {α : Type} [Inhabited α] {pr : α → Bool} {l : List α} {k : Nat} (hall : ∀ j, j < k → pr (l.getD j default) = false) (h : pr (l.getD k default) = false) : ∀ j, j < k + 1 → pr (l.getD j default) = false := fun j hj => by
  rcases Nat.lt_or_ge j k with h1 | h1
  · exact hall j h1
  · obtain rfl : j = k := by omega
    exact h

set_option maxHeartbeats 400000 in
theorem refGet_any (ps : List PropL) (pa : Option Addr) (pc : Nat) (k : ByteArray) (w : World) (lo hi : Nat) (hp : PropsIn w lo hi pa pc ps) (hh : hi ≤ w.heap.size) (hlen : ps.length ≤ 1048576) :
    Calls Try.prog 55 #[.slice pa ps.length pc, .string k] w fun e w' => e = .returned (.tuple #[.string ((getP k ps).getD .empty), .bool (getP k ps).isSome]) ∧ Grew w w' := by
  go_enter Try.func55, Try.ntmps55
  go_wp2_with fail
  go_loopw [10] (fun i wr => ∃ (j : Nat), j ≤ ps.length ∧ i = .int .i64 j ∧ Grew w wr ∧ Hid (∀ i, i < j → (fun p : PropL => decide (p.1 = k)) (ps.getD i default) = false)) (fun i _ => ps.length - (intOf i).toNat)
  case atStart => exact ⟨0, by omega, rfl, Grew.refl _, (show ∀ i, i < 0 → _ from fun i hi => by omega)⟩
  case round =>
    obtain ⟨j, hj1, rfl, hg, hA⟩ := hrel
    by_cases hlt : j < ps.length
    · obtain ⟨b, o, rfl, _, hb, c0, c1⟩ := (hp.grew hg hh).at hlt
      have HT := Lib.hid (toList_beq (ps.getD j default).1 k)
      have HN := Lib.hid (fun h => miss_next (pr := fun p : PropL => decide (p.1 = k)) (l := ps) (k := j) hA.out h)
      have HF := Lib.hid (fun h => find_hit (pr := fun p : PropL => decide (p.1 = k)) hlt h hA.out)
      generalize ps.getD j default = p at *
      by_cases hpk : p.1 = k
      · have ht : (p.1.toList == k.toList) = true := by rw [HT.out]; simpa using hpk
        have HG : Hid (getP k ps = some p.2) := by
          show _ = _
          unfold getP
          rw [HF.out (by simpa using hpk)]; rfl
        clear hpk HF HN HT
        go_wp2_with fail
        go_ret2
        exact ⟨ret_val (by rw [HG.out]; rfl), hg.trans (Grew.alloc1 _ _)⟩
      · have ht : (p.1.toList == k.toList) = false := by rw [HT.out]; simpa using hpk
        have HG := Lib.hid (HN.out (by simpa using hpk))
        clear hpk HF HN HT
        go_wp2_with fail
        go_roundw
        case rel => exact ⟨j + 1, by omega, by go_num, hg.trans (Grew.alloc1 _ _), HG⟩
        case measure => simp [intOf]; omega
    · obtain rfl : j = ps.length := by omega
      have HG : Hid (getP k ps = none) := by
        show _ = _
        unfold getP
        rw [find_miss hA.out]; rfl
      go_wp2_with fail
      go_ret2
      exact ⟨ret_val (by rw [HG.out]; rfl), hg⟩

set_option maxHeartbeats 400000 in
theorem refType_any (n : NT) (w : World) (hn : n.Ok w) (hb : n.er.bulk ≤ 1048576) :
    Calls Try.prog 33 #[n.val] w fun e w' => e = .returned (.string n.er.type) ∧ Grew w w' := by
  have hlens := n.lens
  have C := Lib.hid (fun w' (hg : Grew w w') => refGet_any n.ps n.pa n.pc typeKey w' _ _ ((NT.In_iff.1 hn).1.grew hg (Nat.le_refl _)) hg.size (by omega))
  unfold NT.val
  cases hlf : n.lf with
  | true =>
    have HT : Hid (n.er.type = .empty) := by show _ = _; simp [T.type, hlf]
    clear hlf
    go_enter Try.func33, Try.ntmps33
    go_wp2_with fail
    go_ret
    exact ⟨ret_str (by rw [HT.out]; rfl), Grew.alloc1 _ _⟩
  | false =>
    have HT : Hid (n.er.type = (getP typeKey n.ps).getD .empty) := by show _ = _; simp [T.type, hlf]
    clear hlf
    go_enter Try.func33, Try.ntmps33
    go_wp2_with fail
    refine (C.out _ (Grew.alloc1 _ _)).mono ?_
    rintro e w' ⟨rfl, hg⟩
    go_wp2_with fail
    go_ret
    exact ⟨ret_str (by rw [HT.out]), (Grew.alloc1 _ _).trans hg⟩

/-- the boxes of redlineref15.act -/
def ABox (w : World) (r : RN) (w' : World) : Prop := Grew w w' ∧ w.heap.size + 2 ≤ w'.heap.size ∧
  (w'.cell? ⟨w.heap.size, 0, none⟩ = some (.string r.ty) ∧ w'.cell? ⟨w.heap.size, 1, none⟩ = some (.int .i64 r.td) ∧ w'.cell? ⟨w.heap.size, 2, none⟩ = some (.string r.tt) ∧ w'.cell? ⟨w.heap.size, 3, none⟩ = some (.int .i64 r.od) ∧ w'.cell? ⟨w.heap.size, 4, none⟩ = some (.string r.ot) ∧ w'.cell? ⟨w.heap.size, 5, none⟩ = some (.slice r.ka r.kids.length r.kc) ∧ w'.cell? ⟨w.heap.size, 6, none⟩ = some (.int .i64 r.fill) ∧ w'.cell? ⟨w.heap.size, 7, none⟩ = some (.string r.ft)) ∧
  (w'.cell? ⟨w.heap.size + 1, 0, none⟩ = some (.int .i64 0) ∧ w'.cell? ⟨w.heap.size + 1, 1, none⟩ = some (.string { data := #[] })) ∧ ∀ j, w'.frozen? ⟨w.heap.size + 1, j, none⟩ = false
theorem ABox.next {w : World} {r : RN} {w1 w2 : World} (h : ABox w r w1) (hg : Grew w1 w2) : ABox w r w2 := by
  obtain ⟨h1, h2, h3, h4, h5⟩ := h
  have q : ∀ b j, b < w.heap.size + 2 → w2.cell? ⟨b, j, none⟩ = w1.cell? ⟨b, j, none⟩ := fun b j hb => hg.cell (p := ⟨b, j, none⟩) (by show b < _; omega)
  refine ⟨h1.trans hg, Nat.le_trans h2 hg.size, ?_, ?_, fun j => (hg.frozen (p := ⟨w.heap.size + 1, j, none⟩) (by show w.heap.size + 1 < _; omega)).trans (h5 j)⟩
  · simp only [q _ _ (show w.heap.size < w.heap.size + 2 by omega)]; exact h3
  · simp only [q _ _ (show w.heap.size + 1 < w.heap.size + 2 by omega)]; exact h4

set_option maxHeartbeats 1000000 in
theorem refAct_any (r : RN) (k : ByteArray) (w : World) (hr : r.In w 0 w.heap.size) (hl : r.kids.length ≤ 1048576) :
    Calls Try.prog 57 #[r.val, .string k] w fun e w' => e = .returned (actVal (r.er.typed k)) ∧ Grew w w' := by
  obtain ⟨ka, hka⟩ : ∃ x, r.ka = x := ⟨_, rfl⟩
  have HKA := Lib.hid hka
  clear hka
  unfold RN.val
  rw [HKA.out]
  go_enter Try.func57, Try.ntmps57
  go_wp2_with fail
  have hB : ABox w r ((w.alloc (.cells #[.string r.ty, .int .i64 r.td, .string r.tt, .int .i64 r.od, .string r.ot, .slice ka r.kids.length r.kc, .int .i64 r.fill, .string r.ft] 27)).alloc (.cells #[.int .i64 0, .string { data := #[] }] 24)) := ⟨(Grew.alloc1 _ _).alloc _, by simp, ⟨by go_simp, by go_simp, by go_simp, by go_simp, by go_simp, by rw [HKA.out]; go_simp, by go_simp, by go_simp⟩, ⟨by go_simp, by go_simp⟩, fun j => by rw [World.frozen?_alloc_at _ _ _ _ (by simp)]⟩
  generalize (w.alloc (.cells #[.string r.ty, .int .i64 r.td, .string r.tt, .int .i64 r.od, .string r.ot, .slice ka r.kids.length r.kc, .int .i64 r.fill, .string r.ft] 27)).alloc (.cells #[.int .i64 0, .string { data := #[] }] 24) = w1 at *
  go_loopw [10] (fun i wr => ∃ (j : Nat), j ≤ r.kids.length ∧ i = .int .i64 j ∧ ABox w r wr ∧ Hid (∀ i, i < j → (fun p : PairL => decide (p.1 = k)) (r.kids.getD i default) = false)) (fun i _ => r.kids.length - (intOf i).toNat)
  case atStart => exact ⟨0, by omega, rfl, hB, (show ∀ i, i < 0 → _ from fun i hi => by omega)⟩
  case round =>
    obtain ⟨j, hj1, rfl, hb, hA⟩ := hrel
    clear hB
    by_cases hlt : j < r.kids.length
    · obtain ⟨b, o, hka2, _, hbh, c0, c1, c2⟩ := (PairsIn.grew hr hb.1 (Nat.le_refl _)).at hlt
      obtain rfl : ka = some ⟨b, o, none⟩ := by rw [← HKA.out]; exact hka2
      clear hka2
      have HT := Lib.hid (toList_beq (r.kids.getD j default).1 k)
      have HN := Lib.hid (fun h => miss_next (pr := fun p : PairL => decide (p.1 = k)) (l := r.kids) (k := j) hA.out h)
      have HF := Lib.hid (fun h => find_hit (pr := fun p : PairL => decide (p.1 = k)) hlt h hA.out)
      generalize r.kids.getD j default = p at *
      have hbn := hb.next (Grew.alloc1 wr (.cells #[.string p.1, .int .i64 p.2.1, .string p.2.2] 73))
      by_cases hpk : p.1 = k
      · have ht : (p.1.toList == k.toList) = true := by rw [HT.out]; simpa using hpk
        have HG : Hid (r.er.typed k = p.2) := by
          show _ = _
          simp only [RuleT.typed, RN.er_kids]
          rw [HF.out (by simpa using hpk)]; rfl
        clear hpk HF HN HT hb
        have HB := Lib.hid hbn
        obtain ⟨_, hz, _, ⟨a0, a1⟩, af⟩ := hbn
        go_wp2_with fail
        have hW := set2 (u0 := .int .i64 p.2.1) (u1 := .string p.2.2) HB.out.2.2.2.1 rfl
        revert hW
        generalize hF : ((wr.alloc (.cells #[.string p.1, .int .i64 p.2.1, .string p.2.2] 73)).setCell ⟨w.heap.size + 1, 0, none⟩ (.int .i64 p.2.1)).setCell ⟨w.heap.size + 1, 1, none⟩ (.string p.2.2) = F
        rintro ⟨⟨f0, f1⟩, hg⟩
        refine bodyPost_ret (v := actVal p.2) (by simp [results, Try.results57, go_sem, actVal, f0, f1]) rfl ⟨ret_val (by rw [HG.out]), hg w HB.out.1 (by omega)⟩
      · have ht : (p.1.toList == k.toList) = false := by rw [HT.out]; simpa using hpk
        have HG := Lib.hid (HN.out (by simpa using hpk))
        clear hpk HF HN HT hb
        go_wp2_with fail
        go_roundw
        case rel => exact ⟨j + 1, by omega, by go_num, hbn, HG⟩
        case measure => simp [intOf]; omega
    · obtain rfl : j = r.kids.length := by omega
      have HG : Hid (r.er.typed k = (r.od, r.ot)) := by
        show _ = _
        simp only [RuleT.typed, RN.er_kids]
        rw [find_miss hA.out]; rfl
      have HB := Lib.hid hb
      obtain ⟨_, hz, ⟨b0, b1, b2, b3, b4, b5, b6, b7⟩, ⟨a0, a1⟩, af⟩ := hb
      go_wp2_with fail
      have hW := set2 (u0 := .int .i64 r.od) (u1 := .string r.ot) HB.out.2.2.2.1 rfl
      revert hW
      generalize hF : (wr.setCell ⟨w.heap.size + 1, 0, none⟩ (.int .i64 r.od)).setCell ⟨w.heap.size + 1, 1, none⟩ (.string r.ot) = F
      rintro ⟨⟨f0, f1⟩, hg⟩
      refine bodyPost_ret (v := actVal (r.od, r.ot)) (by simp [results, Try.results57, go_sem, actVal, f0, f1]) rfl ⟨ret_val (by rw [HG.out]), hg w HB.out.1 (by omega)⟩
set_option maxHeartbeats 1000000 in
theorem refActOf_any (r : RN) (n : NT) (w : World) (hr : r.In w 0 w.heap.size) (hl : r.kids.length ≤ 1048576) (hn : n.Ok w) (hb : n.er.bulk ≤ 1048576) :
    Calls Try.prog 35 #[r.val, n.val] w fun e w' => e = .returned (actVal (r.er.actOf n.er)) ∧ Grew w w' := by
  have CT := Lib.hid (fun w1 (hg : Grew w w1) => refType_any n w1 (hn.grew hg) hb)
  have CD := Lib.hid (fun w1 (hg : Grew w w1) => refAct_any r n.er.type w1 (RN.In.mono (RN.In.grew hr hg (Nat.le_refl _)) (Nat.le_refl _) hg.size) hl)
  unfold RN.val
  unfold NT.val
  have hB : ActBox w r n (((w.alloc (.cells #[.string r.ty, .int .i64 r.td, .string r.tt, .int .i64 r.od, .string r.ot, .slice r.ka r.kids.length r.kc, .int .i64 r.fill, .string r.ft] 27)).alloc (.cells #[.bool n.lf, .slice n.pa n.ps.length n.pc, .slice n.ta n.ts.length n.tc, .slice n.ka n.ks.length n.kc] 35)).alloc (.cells #[.int .i64 0, .string { data := #[] }] 24)) :=
    ⟨((Grew.alloc1 w _).alloc _).alloc _, by simp, ⟨by go_simp, by go_simp, by go_simp, by go_simp, by go_simp, by go_simp, by go_simp, by go_simp⟩, ⟨by go_simp, by go_simp, by go_simp, by go_simp⟩, ⟨by go_simp, by go_simp⟩, fun j => by rw [World.frozen?_alloc_at _ _ _ _ (by simp)]⟩
  cases hlf : n.lf with
  | true =>
    have HR : Hid (r.er.actOf n.er = (r.td, r.tt)) := by show _ = _; simp [RuleT.actOf, hlf]
    rw [hlf] at hB
    clear CT CD
    go_enter Try.func35, Try.ntmps35
    go_wp2_with fail
    generalize (((w.alloc (.cells #[.string r.ty, .int .i64 r.td, .string r.tt, .int .i64 r.od, .string r.ot, .slice r.ka r.kids.length r.kc, .int .i64 r.fill, .string r.ft] 27)).alloc (.cells #[.bool true, .slice n.pa n.ps.length n.pc, .slice n.ta n.ts.length n.tc, .slice n.ka n.ks.length n.kc] 35)).alloc (.cells #[.int .i64 0, .string { data := #[] }] 24)) = w1 at *
    have G1 := hB.1
    obtain ⟨_, _, ⟨b0, b1, b2, b3, b4, b5, b6, b7⟩, ⟨c0, c1, c2, c3⟩, ⟨a0, a1⟩, af⟩ := hB
    rw [hlf] at c0
    go_wp2_with fail
    refine bodyPost_ret (v := actVal (r.td, r.tt)) (by simp [results, Try.results35, go_sem, actVal]) rfl ⟨ret_val (by rw [HR.out]), ((Grew.alloc1 w _).alloc _).alloc _⟩
  | false =>
    have HR : Hid (r.er.actOf n.er = r.er.typed n.er.type) := by show _ = _; simp [RuleT.actOf, hlf]
    generalize r.er.actOf n.er = aa at *
    rw [hlf] at hB
    go_enter Try.func35, Try.ntmps35
    go_wp2_with fail
    generalize (((w.alloc (.cells #[.string r.ty, .int .i64 r.td, .string r.tt, .int .i64 r.od, .string r.ot, .slice r.ka r.kids.length r.kc, .int .i64 r.fill, .string r.ft] 27)).alloc (.cells #[.bool false, .slice n.pa n.ps.length n.pc, .slice n.ta n.ts.length n.tc, .slice n.ka n.ks.length n.kc] 35)).alloc (.cells #[.int .i64 0, .string { data := #[] }] 24)) = w1 at *
    clear hlf
    have hS1 : ActBox w r n w1.drew := hB.next (Grew.refl _).drew
    refine wp_region_need (ActBox w r n) (fun j => j.blt 4) (by kernel_rfl) ?_
    refine wpAnyN_take (i := 0) (v := .agg #[.string r.ty, .int .i64 r.td, .string r.tt, .int .i64 r.od, .string r.ot, .slice r.ka r.kids.length r.kc, .int .i64 r.fill, .string r.ft]) rfl (by kernel_rfl) (by kernel_rfl) (by kernel_rfl) (by kernel_rfl) (fun _ _ _ h => h) (Or.inl ⟨rfl, fun w' hS => by obtain ⟨_, _, ⟨b0, b1, b2, b3, b4, b5, b6, b7⟩, ⟨c0, c1, c2, c3⟩, ⟨a0, a1⟩, af⟩ := hS; go_simp⟩) hS1 ?_
    refine wpAnyN_take (i := 1) (v := .agg #[.bool n.lf, .slice n.pa n.ps.length n.pc, .slice n.ta n.ts.length n.tc, .slice n.ka n.ks.length n.kc]) rfl (by kernel_rfl) (by kernel_rfl) (by kernel_rfl) (by kernel_rfl) (fun _ _ _ h => h) (Or.inl ⟨rfl, fun w' hS => by obtain ⟨_, _, ⟨b0, b1, b2, b3, b4, b5, b6, b7⟩, ⟨c0, c1, c2, c3⟩, ⟨a0, a1⟩, af⟩ := hS; go_simp⟩) hS1 ?_
    refine wpAnyN_one (i := 2) (by kernel_rfl) rfl rfl ?_
    intro K' hK'
    go_wp2_with fail
    refine (CT.out w1.drew hS1.1).mono ?_
    rintro e w2 ⟨rfl, g2⟩
    have hS2 := hS1.next g2
    refine hK' _ _ ⟨fun _ => hS2, ?_⟩
    clear hK' K'
    refine wpAnyN_one (i := 3) (by kernel_rfl) rfl rfl ?_
    intro K' hK'
    go_wp2_with fail
    refine (CD.out w2 hS2.1).mono ?_
    rintro e w3 ⟨rfl, g3⟩
    have hS3 := hS2.next g3
    unfold actVal
    refine hK' _ _ ⟨fun _ => hS3, ?_⟩
    clear hK' K'
    have G3 := hS3.1
    obtain ⟨_, _, ⟨b0, b1, b2, b3, b4, b5, b6, b7⟩, ⟨c0, c1, c2, c3⟩, ⟨a0, a1⟩, af⟩ := hS3
    have HA := Lib.hid (⟨a0, a1⟩ : _ ∧ _)
    generalize r.er.typed n.er.type = tt at *
    refine wpAnyN_one (i := 4) (by kernel_rfl) rfl rfl ?_
    intro K' hK'
    go_wp2_with fail
    refine ⟨fun h => (by cases h), ?_⟩
    refine wpAnyN_done (by kernel_rfl) ?_ _
    go_wp2_with fail
    have hW := fun W => set2 (W' := W) (u0 := .int .i64 tt.1) (u1 := .string tt.2) HA.out
    have hW := hW _ rfl
    revert hW
    generalize hF : ((w3.setCell ⟨w.heap.size + 1 + 1, 0, none⟩ (.int .i64 tt.1)).setCell ⟨w.heap.size + 1 + 1, 1, none⟩ (.string tt.2)) = F
    rintro ⟨⟨f0, f1⟩, hg⟩
    refine bodyPost_ret (v := actVal tt) (by simp [results, Try.results35, go_sem, actVal, f0, f1]) rfl ⟨ret_val (by rw [HR.out]), hg w G3 (by omega)⟩

/-- the boxes of redlineref15.RuleOf -/
def RBox (w : World) (s : SN) (w' : World) : Prop := Grew w w' ∧ w.heap.size + 2 ≤ w'.heap.size ∧ s.Box w.heap.size w' ∧
  (w'.cell? ⟨w.heap.size + 1, 0, none⟩ = some (.string { data := #[] }) ∧ w'.cell? ⟨w.heap.size + 1, 1, none⟩ = some (.int .i64 0) ∧ w'.cell? ⟨w.heap.size + 1, 2, none⟩ = some (.string { data := #[] }) ∧ w'.cell? ⟨w.heap.size + 1, 3, none⟩ = some (.int .i64 0) ∧ w'.cell? ⟨w.heap.size + 1, 4, none⟩ = some (.string { data := #[] }) ∧ w'.cell? ⟨w.heap.size + 1, 5, none⟩ = some (.slice none 0 0) ∧ w'.cell? ⟨w.heap.size + 1, 6, none⟩ = some (.int .i64 0) ∧ w'.cell? ⟨w.heap.size + 1, 7, none⟩ = some (.string { data := #[] })) ∧ ∀ j, w'.frozen? ⟨w.heap.size + 1, j, none⟩ = false
theorem RBox.next {w : World} {s : SN} {w1 w2 : World} (h : RBox w s w1) (hg : Grew w1 w2) : RBox w s w2 := by
  obtain ⟨h1, h2, h3, h4, h5⟩ := h
  have q : ∀ j, w2.cell? ⟨w.heap.size + 1, j, none⟩ = w1.cell? ⟨w.heap.size + 1, j, none⟩ := fun j => hg.cell (p := ⟨w.heap.size + 1, j, none⟩) (by show w.heap.size + 1 < _; omega)
  refine ⟨h1.trans hg, Nat.le_trans h2 hg.size, h3.keep (hg.keeps Noth) (by omega) (fun h => h), ?_, fun j => (hg.frozen (p := ⟨w.heap.size + 1, j, none⟩) (by show w.heap.size + 1 < _; omega)).trans (h5 j)⟩
  simp only [q]; exact h4

set_option maxHeartbeats 2000000 in
set_option maxRecDepth 100000 in
theorem refRuleOf_any (s : SN) (k : ByteArray) (w : World) (top : Nat) (hs : s.In w 0 top) (htop : top ≤ w.heap.size) (hsm : s.Small) :
    Calls Try.prog 32 #[s.val, .string k] w fun e w' => ∃ r : RN, e = .returned r.val ∧ Grew w w' ∧ r.In w' 0 top ∧ r.kids.length ≤ 1048576 ∧ Hid (r.er = s.er.ruleOf k) := by
  have HIN := Lib.hid (fun (p : RN) (hp : p ∈ s.rules) F (hg : Grew w F) => RN.In.grew (hs.1.2 p hp) hg htop)
  have HIE := Lib.hid (fun F (hg : Grew w F) => RN.In.grew hs.2 hg htop)
  have HSM := Lib.hid hsm
  have hrl := hsm.1
  obtain ⟨ra, hra⟩ : ∃ x, s.ra = x := ⟨_, rfl⟩
  have HRA := Lib.hid hra
  clear hra hsm
  unfold SN.val
  rw [HRA.out]
  go_enter Try.func32, Try.ntmps32
  go_wp2_with fail
  have hB : RBox w s ((w.alloc (.cells #[.slice ra s.rules.length s.rc, .string s.els.ty, .int .i64 s.els.td, .string s.els.tt, .int .i64 s.els.od, .string s.els.ot, .slice s.els.ka s.els.kids.length s.els.kc, .int .i64 s.els.fill, .string s.els.ft, .int .i64 s.o0, .int .i64 s.o1, .int .i64 s.o2, .int .i64 s.o3, .int .i64 s.o4, .int .i64 s.o5, .int .i64 s.cap] 30)).alloc (.cells #[.string { data := #[] }, .int .i64 0, .string { data := #[] }, .int .i64 0, .string { data := #[] }, .slice none 0 0, .int .i64 0, .string { data := #[] }] 27)) := ⟨(Grew.alloc1 _ _).alloc _, by simp, ⟨by rw [HRA.out]; go_simp, by go_simp, by go_simp, by go_simp, by go_simp, by go_simp, by go_simp, by go_simp, by go_simp, by go_simp, by go_simp, by go_simp, by go_simp, by go_simp, by go_simp, by go_simp⟩, ⟨by go_simp, by go_simp, by go_simp, by go_simp, by go_simp, by go_simp, by go_simp, by go_simp⟩, fun j => by rw [World.frozen?_alloc_at _ _ _ _ (by simp)]⟩
  generalize (w.alloc (.cells #[.slice ra s.rules.length s.rc, .string s.els.ty, .int .i64 s.els.td, .string s.els.tt, .int .i64 s.els.od, .string s.els.ot, .slice s.els.ka s.els.kids.length s.els.kc, .int .i64 s.els.fill, .string s.els.ft, .int .i64 s.o0, .int .i64 s.o1, .int .i64 s.o2, .int .i64 s.o3, .int .i64 s.o4, .int .i64 s.o5, .int .i64 s.cap] 30)).alloc (.cells #[.string { data := #[] }, .int .i64 0, .string { data := #[] }, .int .i64 0, .string { data := #[] }, .slice none 0 0, .int .i64 0, .string { data := #[] }] 27) = w1 at *
  go_loopw [10] (fun i wr => ∃ (j : Nat), j ≤ s.rules.length ∧ i = .int .i64 j ∧ RBox w s wr ∧ Hid (∀ i, i < j → (fun p : RN => decide (p.ty = k)) (s.rules.getD i default) = false)) (fun i _ => s.rules.length - (intOf i).toNat)
  case atStart => exact ⟨0, by omega, rfl, hB, (show ∀ i, i < 0 → _ from fun i hi => by omega)⟩
  case round =>
    obtain ⟨j, hj1, rfl, hb, hA⟩ := hrel
    clear hB
    by_cases hlt : j < s.rules.length
    · obtain ⟨b, o, hra2, _, hbh, c0, c1, c2, c3, c4, c5, c6, c7⟩ := (hs.1.grew hb.1 htop).at hlt
      obtain rfl : ra = some ⟨b, o, none⟩ := by rw [← HRA.out]; exact hra2
      clear hra2
      have HT := Lib.hid (toList_beq (s.rules.getD j default).ty k)
      have HN := Lib.hid (fun h => miss_next (pr := fun p : RN => decide (p.ty = k)) (l := s.rules) (k := j) hA.out h)
      have HF := Lib.hid (fun h => find_hit (pr := fun p : RN => decide (p.ty = k)) hlt h hA.out)
      have HM := Lib.hid (getD_mem s.rules j hlt)
      generalize s.rules.getD j default = p at *
      have hbn := hb.next (Grew.alloc1 wr (.cells #[.string p.ty, .int .i64 p.td, .string p.tt, .int .i64 p.od, .string p.ot, .slice p.ka p.kids.length p.kc, .int .i64 p.fill, .string p.ft] 27))
      by_cases hpk : p.ty = k
      · have ht : (p.ty.toList == k.toList) = true := by rw [HT.out]; simpa using hpk
        have HG : Hid (p.er = s.er.ruleOf k) := by
          show _ = _
          simp only [SchT.ruleOf, SN.er, List.find?_map]
          rw [show ((fun r : RuleT => decide (r.ty = k)) ∘ RN.er) = (fun p : RN => decide (p.ty = k)) from rfl, HF.out (by simpa using hpk)]; rfl
        clear hpk HF HN HT hb
        have HB := Lib.hid hbn
        obtain ⟨_, hz, _, ⟨a0, a1, a2, a3, a4, a5, a6, a7⟩, af⟩ := hbn
        go_wp2_with fail
        have hW := set8 (u0 := .string p.ty) (u1 := .int .i64 p.td) (u2 := .string p.tt) (u3 := .int .i64 p.od) (u4 := .string p.ot) (u5 := .slice p.ka p.kids.length p.kc) (u6 := .int .i64 p.fill) (u7 := .string p.ft) HB.out.2.2.2.1 rfl
        revert hW
        generalize hF : (((((((((wr.alloc (.cells #[.string p.ty, .int .i64 p.td, .string p.tt, .int .i64 p.od, .string p.ot, .slice p.ka p.kids.length p.kc, .int .i64 p.fill, .string p.ft] 27)).setCell ⟨w.heap.size + 1, 0, none⟩ (.string p.ty)).setCell ⟨w.heap.size + 1, 1, none⟩ (.int .i64 p.td)).setCell ⟨w.heap.size + 1, 2, none⟩ (.string p.tt)).setCell ⟨w.heap.size + 1, 3, none⟩ (.int .i64 p.od)).setCell ⟨w.heap.size + 1, 4, none⟩ (.string p.ot)).setCell ⟨w.heap.size + 1, 5, none⟩ (.slice p.ka p.kids.length p.kc)).setCell ⟨w.heap.size + 1, 6, none⟩ (.int .i64 p.fill)).setCell ⟨w.heap.size + 1, 7, none⟩ (.string p.ft)) = F
        rintro ⟨⟨f0, f1, f2, f3, f4, f5, f6, f7⟩, _, hg, _⟩
        have hgF := hg w HB.out.1 (by omega)
        refine bodyPost_ret (v := p.val) (by simp [results, Try.results32, go_sem, RN.val, f0, f1, f2, f3, f4, f5, f6, f7]) rfl ⟨p, rfl, hgF, HIN.out p HM.out F hgF, HSM.out.2.1 p HM.out, HG⟩
      · have ht : (p.ty.toList == k.toList) = false := by rw [HT.out]; simpa using hpk
        have HG := Lib.hid (HN.out (by simpa using hpk))
        clear hpk HF HN HT hb
        go_wp2_with fail
        go_roundw
        case rel => exact ⟨j + 1, by omega, by go_num, hbn, HG⟩
        case measure => simp [intOf]; omega
    · obtain rfl : j = s.rules.length := by omega
      have HG : Hid (s.els.er = s.er.ruleOf k) := by
        show _ = _
        simp only [SchT.ruleOf, SN.er, List.find?_map]
        rw [show ((fun r : RuleT => decide (r.ty = k)) ∘ RN.er) = (fun p : RN => decide (p.ty = k)) from rfl, find_miss hA.out]; rfl
      have HB := Lib.hid hb
      obtain ⟨_, hz, ⟨s0, s1, s2, s3, s4, s5, s6, s7, s8, s9, s10, s11, s12, s13, s14, s15⟩, ⟨a0, a1, a2, a3, a4, a5, a6, a7⟩, af⟩ := hb
      go_wp2_with fail
      have hW := set8 (u0 := .string s.els.ty) (u1 := .int .i64 s.els.td) (u2 := .string s.els.tt) (u3 := .int .i64 s.els.od) (u4 := .string s.els.ot) (u5 := .slice s.els.ka s.els.kids.length s.els.kc) (u6 := .int .i64 s.els.fill) (u7 := .string s.els.ft) HB.out.2.2.2.1 rfl
      revert hW
      generalize hF : ((((((((wr.setCell ⟨w.heap.size + 1, 0, none⟩ (.string s.els.ty)).setCell ⟨w.heap.size + 1, 1, none⟩ (.int .i64 s.els.td)).setCell ⟨w.heap.size + 1, 2, none⟩ (.string s.els.tt)).setCell ⟨w.heap.size + 1, 3, none⟩ (.int .i64 s.els.od)).setCell ⟨w.heap.size + 1, 4, none⟩ (.string s.els.ot)).setCell ⟨w.heap.size + 1, 5, none⟩ (.slice s.els.ka s.els.kids.length s.els.kc)).setCell ⟨w.heap.size + 1, 6, none⟩ (.int .i64 s.els.fill)).setCell ⟨w.heap.size + 1, 7, none⟩ (.string s.els.ft)) = F
      rintro ⟨⟨f0, f1, f2, f3, f4, f5, f6, f7⟩, _, hg, _⟩
      have hgF := hg w HB.out.1 (by omega)
      refine bodyPost_ret (v := s.els.val) (by simp [results, Try.results32, go_sem, RN.val, f0, f1, f2, f3, f4, f5, f6, f7]) rfl ⟨s.els, rfl, hgF, HIE.out F hgF, HSM.out.2.2, HG⟩
end Go.Proofs.Ytnkmcbhpmbjkpaa
