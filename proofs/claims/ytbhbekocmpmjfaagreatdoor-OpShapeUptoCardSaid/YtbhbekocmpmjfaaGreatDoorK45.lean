/- (*redlineref12.Ghost).Shape of a ghost that stands as the tree does. -/
import Derived.Test.YtbhbekocmpmjfaaGreatDoorK41
import Derived.Test.YtbhbekocmpmjfaaGreatDoorK37
import Derived.Test.YtbhbekocmpmjfaaGreatDoorK22
import Derived.Test.YtbhbekocmpmjfaaGreatDoorK44
import Derived.Test.YtbhbekocmpmjfaaGreatDoorK01
import Derived.Test.YtbhbekocmpmjfaaGreatDoorRows
import Derived.Deep.Slices
import Derived.OpenShut
import Derived.ProofKit
import Derived.Test.YtbhbekocmpmjfaaGreatDoorK02
namespace Go.Proofs.YtbhbekocmpmjfaaGreatDoor
open Go Go.RowKit
theorem like_lens {x n : NT} (h : like x.er n.er) : x.ts.tail.length = n.ts.length ∧ x.ks.length = n.ks.length ∧ ∀ j, j < n.ks.length → like (x.ks.getD j default).er (n.ks.getD j default).er := by
 obtain ⟨_, h2, h3⟩ := like_iff.1 h
 rw [NT.er_ts, NT.er_ts] at h2
 rw [NT.er_ks, NT.er_ks] at h3
 have h4 := likes_len h3
 rw [List.length_map, List.length_map] at h4
 refine ⟨by rw [List.length_tail]; omega, h4, fun j hj => ?_⟩
 have := likes_getD j h3 (by rw [List.length_map]; exact hj)
 rw [← zaY, ← zaY] at this
 exact this
set_option maxRecDepth 100000 in
set_option maxHeartbeats 4000000 in
theorem shape_step (x n : NT) (w : World) (hx : x.GOk w) (hn : n.Ok w) (hb : n.er.bulk ≤ 1048576) (hl : like x.er n.er)
  (hih : ∀ j, j < n.ks.length → ∀ w1, (x.ks.getD j default).GOk w1 → (n.ks.getD j default).Ok w1 → Calls Tryz.prog 20 #[.pointer (some ⟨(x.ks.getD j default).pc, 0, none⟩), (n.ks.getD j default).val] w1 fun e w' => e = .returned (.bool true) ∧ Grew w1 w') :
  Calls Tryz.prog 20 #[.pointer (some ⟨x.pc, 0, none⟩), n.val] w fun e w' => e = .returned (.bool true) ∧ Grew w w' := by
 have hlens := n.lens
 have l2 : n.ts.length ≤ 1048576 := by omega
 have l3 : n.ks.length ≤ 1048576 := by omega
 obtain ⟨e1, e2, _⟩ := like_lens hl
 have HX := Lib.hid (fun (W : World) (g : Grew w W) => (by
  have := (hx.grew g).g.own.at
  rw [e1, e2] at this
  exact this.2 : W.cell? ⟨x.pc, 1, none⟩ = some (.slice x.ta n.ts.length x.tc) ∧ W.cell? ⟨x.pc, 2, none⟩ = some (.slice x.ka n.ks.length x.kc)))
 have HK := Lib.hid (fun (W : World) (g : Grew w W) (j : Nat) (hj : j < n.ks.length) => (hx.grew g).g.own.kid_at (m := j) (by rw [e2]; exact hj))
 have HC := Lib.hid (fun (W : World) (g : Grew w W) (j : Nat) (hj : j < n.ks.length) => hih j hj W ((hx.kid (za7 x.ks j (by rw [e2]; exact hj))).grew g) (NT.Ok.grew (w := w) ((NT.In_iff.1 hn).2.2.2 _ (za7 n.ks j hj)) g))
 clear hx hlens hb hl e1 e2 hih
 unfold NT.val
 go_enter Tryz.func20, Tryz.ntmps20
 go_upto_region 1 with fail
 have HB := Lib.hid (fun W (g : Grew (w.alloc (.cells #[.bool n.lf, .slice n.pa n.ps.length n.pc, .slice n.ta n.ts.length n.tc, .slice n.ka n.ks.length n.kc] 26)) W) => (box4 g).2.2)
 have G1 := Lib.hid (Grew.alloc1 w (.cells #[.bool n.lf, .slice n.pa n.ps.length n.pc, .slice n.ta n.ts.length n.tc, .slice n.ka n.ks.length n.kc] 26))
 generalize w.alloc (.cells #[.bool n.lf, .slice n.pa n.ps.length n.pc, .slice n.ta n.ts.length n.tc, .slice n.ka n.ks.length n.kc] 26) = w1 at *
 obtain ⟨c1, c2⟩ := HX.out w1 G1.out
 obtain ⟨b2, b3, _⟩ := HB.out w1 (Grew.refl _)
 go_wp2_with fail
 go_quiet (fail)
 generalize hD : World.drewN w1 _ = w2
 have G2 : Hid (Grew w1 w2) := by
  show Grew _ _
  rw [← hD]; exact (Grew.refl _).drewN _
 clear hD c1 c2 b2 b3
 obtain ⟨c1, c2⟩ := HX.out w2 (G1.out.trans G2.out)
 go_wp2_with fail
 clear c1 c2
 go_loopw [32] (fun i wr => ∃ (j : Nat), j ≤ n.ks.length ∧ i = .int .i64 j ∧ Hid (Grew w1 wr)) (fun i _ => n.ks.length - (intOf i).toNat)
 case atStart => exact ⟨0, by omega, rfl, G2⟩
 obtain ⟨j, hj1, rfl, hG⟩ := hrel
 by_cases hlt : j < n.ks.length
 ·have hGw := G1.out.trans hG.out
  obtain ⟨kb, ko, hka, _, hbh, c0, c1, c2, c3⟩ := (NT.In_iff.1 (NT.In.grew hn hGw (Nat.le_refl _))).2.2.at hlt
  obtain ⟨xb, hxa, _, hxc⟩ := HK.out _ hGw j hlt
  unfold ptrV at hxc
  have CI := HC.out _ hGw j hlt
  unfold NT.val at CI
  obtain ⟨_, b3, _⟩ := HB.out _ hG.out
  have HJ := Lib.hid hlt
  clear HC HK HX hGw hn
  generalize n.ka = ka at *
  subst hka
  generalize x.ka = xa at *
  subst hxa
  generalize n.ks.getD j default = q at *
  generalize x.ks.getD j default = y at *
  go_wp2_with fail
  refine CI.mono ?_
  rintro e w3 ⟨rfl, g3⟩
  have HG3 := Lib.hid (hG.out.trans g3)
  clear g3 CI c0 c1 c2 c3 b3 hxc
  go_wp2_with fail
  go_roundw
  case rel => exact ⟨j + 1, by omega, by go_num, HG3⟩
  case measure => simp [intOf]; omega
 obtain rfl : j = n.ks.length := by omega
 have HF := Lib.hid (G1.out.trans hG.out)
 clear hG HK HC HX hn
 go_wp2_with fail
 go_ret
 exact ⟨rfl, HF.out⟩
theorem shape12_any (x n : NT) (w : World) (hx : x.GOk w) (hn : n.Ok w) (hb : n.er.bulk ≤ 1048576) (hl : like x.er n.er) :
  Calls Tryz.prog 20 #[.pointer (some ⟨x.pc, 0, none⟩), n.val] w fun e w' => e = .returned (.bool true) ∧ Grew w w' := by
 induction n using NT.ind generalizing x w with
 | h n ih =>
  refine shape_step x n w hx hn hb hl (fun j hj w1 h1 h2 => ih _ (za7 n.ks j hj) _ w1 h1 h2 ?_ ((like_lens hl).2.2 j hj))
  have := T.bulk_kid (n := n.er) (k := (n.ks.getD j default).er) (by rw [NT.er_ks]; exact er_mem (za7 n.ks j hj))
  omega
end Go.Proofs.YtbhbekocmpmjfaaGreatDoor
/- THE LAW redlinelaw12.OpShape: the contract. -/
namespace Go.Proofs.YtbhbekocmpmjfaaGreatDoor
open Go Go.RowKit
theorem OpL.In.low {o : OpL} {w w' : World} (h : o.In w 0 w.heap.size) (g : Grew w w') : o.In w' 0 w.heap.size := h.grew g (Nat.le_refl _)
theorem ghost_done {n x : NT} {s : SelE} {o : OpL} {y : NT} {w0 w : World} (hy : y.GOk w) (hye : y.er = gh n.er 0) (hB : w0.heap.size ≤ w.heap.size) (ho : o.In w 0 w0.heap.size) (hyl : ∀ b ∈ y.gb, w0.heap.size ≤ b) (ha : zai n.er s o.er = (x.er, (zai n.er s o.er).2.1, 0)) (hnb : n.er.bulk ≤ 262144) (hfo : fewOpE o.er = true) (h4 : o.kind ≠ 4) :
  Calls Tryz.prog 19 #[.pointer (some ⟨y.pc, 0, none⟩), o.val] w fun e w' => e = .returned (.tuple #[]) ∧ ∃ y' : NT, y'.GOk w' ∧ y'.pc = y.pc ∧ y'.er = doG o.er (gh n.er 0) ∧ like y'.er x.er ∧ Keeps (· ∈ y.gb) w w' := by
 obtain ⟨ht, hp, hd⟩ := fewOp_tiny hfo
 have hz : (zai n.er s o.er).2.2 = 0 := by rw [ha]
 have hg : like y.er n.er := by rw [hye]; exact gh_like _ _
 refine (do_any y n.er s o w0.heap.size w hy hg hB ho hyl hz hnb ht hp hd h4).mono ?_
 rintro e w' ⟨rfl, y', q1, q2, q3, q4⟩
 have hl := doG_like (n := n.er) (g := y.er) (s := s) (o := o.er) (by omega) hg hz h4
 rw [ha] at hl
 exact ⟨rfl, y', q1, q2, by rw [q3.out, hye], by rw [q3.out]; exact hl, q4⟩
set_option maxRecDepth 100000 in
set_option maxHeartbeats 8000000 in
theorem opShape_any (n : NT) (s : SelL) (o : OpL) (w : World) (hf0 : Fit n s o w) : Calls Tryz.prog 3 #[n.val, s.val, o.val] w fun e w' => e = .returned (.bool true) ∧ Grew w w' := by
 have FE := Lib.hid (fun w1 (g : Grew w w1) => few12_any n s o w1 (hf0.grew g))
 have HF := Lib.hid hf0
 have AP := Lib.hid (fun (h : fewE n.er s.er o.er = true) w1 (g : Grew w w1) => apply12 h (hf0.grew g))
 have SN := Lib.hid (fun w1 (g : Grew w w1) (hb : n.er.bulk ≤ 262144) => size_any n w1 (hf0.grew g).hn (by omega))
 have SO := Lib.hid (fun w1 (g : Grew w w1) => size_any o.node w1 (hf0.grew g).ho.2.1 (hf0.grew g).ob)
 clear hf0
 unfold OpL.val at FE AP ⊢
 unfold NT.val at FE AP SN SO ⊢
 unfold SelL.val at FE AP ⊢
 go_enter Tryz.func3, Tryz.ntmps3
 go_upto_region 1 with fail
 generalize hW : ((w.alloc _).alloc _).alloc _ = w1
 obtain ⟨g1, hB, z1⟩ := b3_new w n s o _ _ _ w1 hW
 have HB1 := Lib.hid hB
 have G1 := Lib.hid g1
 clear hW z1 hB g1
 go_wp2_with fail
 refine (live12_any _).mono ?_
 rintro e w2 ⟨rfl, g2⟩
 have HB2 := Lib.hid (HB1.out.grew g2)
 have G2 := Lib.hid (G1.out.trans g2)
 clear g2 HB1 G1
 obtain ⟨n0, n1, n2, n3⟩ := HB2.out.n
 obtain ⟨s0, s1, s2, s3, s4⟩ := HB2.out.s
 have rO := HB2.out.2.2.1
 obtain ⟨ov, hov⟩ : ∃ v, o.val = v := ⟨_, rfl⟩
 unfold OpL.val at hov
 rw [hov] at FE AP
 go_wp2_with (show wpList _ _ _ (Oper.mk (some 16) (Op.load 35 (.tmp 5)) _ _ _ _ :: _) _ _; refine zcV rfl 35 (.tmp 5) rfl (w.heap.size + 2) 0 rfl o.cells _ rO Tryz.underlying35 rfl zbh ?_; have ho2 : Value.agg o.cells.toArray = ov := hov; rw [ho2]; clear ho2)
 refine (FE.out w2 G2.out).mono ?_
 rintro e w3 ⟨rfl, g3⟩
 have HB3 := Lib.hid (HB2.out.grew g3)
 have G3 := Lib.hid (G2.out.trans g3)
 clear g3 n0 n1 n2 n3 s0 s1 s2 s3 s4 rO HB2 FE G2
 by_cases hfe : fewE n.er s.er o.er = true
 case neg =>
  have hfe : fewE n.er s.er o.er = false := by simpa using hfe
  rw [hfe]
  go_wp2_with fail
  go_ret
  exact ⟨rfl, G3.out⟩
 case pos =>
 have AP1 := Lib.hid (AP.out hfe)
 have HFE := Lib.hid hfe
 rw [hfe]
 clear hfe AP
 obtain ⟨n0, n1, n2, n3⟩ := HB3.out.n
 obtain ⟨s0, s1, s2, s3, s4⟩ := HB3.out.s
 have rO := HB3.out.2.2.1
 go_wp2_with (show wpList _ _ _ (Oper.mk (some 22) (Op.load 35 (.tmp 5)) _ _ _ _ :: _) _ _; refine zcV rfl 35 (.tmp 5) rfl (w.heap.size + 2) 0 rfl o.cells _ rO Tryz.underlying35 rfl zbh ?_; have ho2 : Value.agg o.cells.toArray = ov := hov; rw [ho2]; clear ho2)
 refine (AP1.out w3 G3.out).mono ?_
 rintro e w4 ⟨x, t, rfl, g4, hx, ht, hxe, hte⟩
 have HB4 := Lib.hid (HB3.out.grew g4)
 have G4 := Lib.hid (G3.out.trans g4)
 have HX4 : Hid (x.Ok w4) := hx.mono (Nat.zero_le _) (Nat.le_refl _)
 have HT4 : Hid (t.In w4 0 w4.heap.size) := ⟨IntsIn.mono ht.1 (Nat.zero_le _) (Nat.le_refl _), IntsIn.mono ht.2 (Nat.zero_le _) (Nat.le_refl _)⟩
 clear g4 n0 n1 n2 n3 s0 s1 s2 s3 s4 rO HB3 AP1 G3 hx ht
 unfold NT.val SelL.val
 have HER : Hid ((zai n.er s.er o.er).2.2 = (zai n.er s.er o.er).2.2) := rfl
 generalize hres : zai n.er s.er o.er = res at *
 have HRES := Lib.hid hres
 obtain ⟨ta, tb, er⟩ := res
 clear hres HER
 go_upto_region 6 with (first | (show wpList _ _ _ (Oper.mk none (Op.store 26 (.tmp 7) (.tmp 24)) _ _ _ _ :: _) _ _; generalize hW : World.alloc (World.alloc w4 _) _ = wW; obtain ⟨tX, tY⟩ := two_there hW; refine wpList_store_mid rfl 26 (.tmp 7) (.tmp 24) rfl w4.heap.size 0 x.cells4.toArray rfl rfl tX zbf (NT.cells4_all _) ?_; generalize hA : World.setCells wW _ _ _ = wa; have tZ : wa.there (w4.heap.size + 1) 0 5 := (by rw [← hA]; exact World.there_setCells tY _ _ _)) | (show wpList _ _ _ (Oper.mk none (Op.store 33 (.tmp 8) (.tmp 25)) _ _ _ _ :: _) _ _; refine wpList_store_mid rfl 33 (.tmp 8) (.tmp 25) rfl (w4.heap.size + 1) 0 t.cells.toArray rfl rfl tZ zbi (all_oneCell_toArray t.cells_one) ?_; generalize hB : World.setCells wa _ _ _ = wb))
 obtain ⟨g5, hXB⟩ := put2_new hW hA hB
 clear hW hA hB tX tY tZ
 have HB5 := Lib.hid (HB4.out.grew g5)
 have G5 := Lib.hid (G4.out.trans g5)
 have HX5 : Hid (x.Ok wb) := NT.Ok.grew HX4.out g5
 have HT5 : Hid (t.In wb 0 wb.heap.size) := HT4.out.later g5
 have HXB := Lib.hid hXB
 clear g5 hXB HB4 G4 HX4 HT4
 generalize w4.heap.size = b7 at *
 have HXE : Hid (x.er = ta) := hxe.out
 have HTE : Hid (t.er = tb) := hte.out
 clear hxe hte
 obtain ⟨HFN, HFS, HFO⟩ := fewE_parts HFE.out
 have HFN := Lib.hid HFN
 have HFS := Lib.hid HFS
 have HFO := Lib.hid HFO
 have HNB : Hid (n.er.bulk ≤ 262144) := by show _ ≤ _; have := few_bulk HFN.out; omega
 have HXX : Hid (x.er.bulk ≤ 1048576) := by
  show _ ≤ _
  rw [HXE.out]
  have := apply_bulk (s := s.er) HNB.out (fewOp_tiny HFO.out).1
  rw [HRES.out] at this
  exact this
 have RS := Lib.hid (fun w1 (g : Grew wb w1) => refSame04_any x NT.nil w1 (NT.Ok.grew HX5.out g) NT.nil_in HXX.out (by rw [zbD]; decide))
 unfold NT.val at RS
 by_cases her : er = 0
 case neg =>
  have t1 : (er != 0) = true := by simpa using her
  have hno := apply_no (n := n.er) (s := s.er) (o := o.er) (by rw [HRES.out]; exact her)
  rw [HRES.out] at hno
  have HN1 : Hid (x.er = NT.nil.er) := by show _ = _; rw [HXE.out, zbD]; exact hno.1
  have HN2 : Hid (t.er = SelE.nil) := by show _ = _; rw [HTE.out]; exact hno.2
  clear hno
  obtain ⟨x0, x1, x2, x3⟩ := HXB.out.x
  go_upto_region 7 with fail
  clear x0 x1 x2 x3
  have t2 : decide (x.er = NT.nil.er) = true := by rw [HN1.out]; simp
  have KB := fun w' (g : Grew wb w') => (⟨(HXB.out.grew g).x, (HB5.out.grew g).n⟩ : (w'.cell? ⟨b7, 0, none⟩ = some (.bool x.lf) ∧ w'.cell? ⟨b7, 1, none⟩ = some (.slice x.pa x.ps.length x.pc) ∧ w'.cell? ⟨b7, 2, none⟩ = some (.slice x.ta x.ts.length x.tc) ∧ w'.cell? ⟨b7, 3, none⟩ = some (.slice x.ka x.ks.length x.kc)) ∧ (w'.cell? ⟨w.heap.size, 0, none⟩ = some (.bool n.lf) ∧ w'.cell? ⟨w.heap.size, 1, none⟩ = some (.slice n.pa n.ps.length n.pc) ∧ w'.cell? ⟨w.heap.size, 2, none⟩ = some (.slice n.ta n.ts.length n.tc) ∧ w'.cell? ⟨w.heap.size, 3, none⟩ = some (.slice n.ka n.ks.length n.kc)))
  have g50 : Grew wb wb.drew := (Grew.refl _).drew
  refine zcY (Grew wb) (fun _ => true) (by kernel_rfl) ?_
  refine zcO (i := 0) (by kernel_rfl) rfl rfl ?_
  intro K' hK'
  go_wp2_with fail
  try (refine ⟨fun _ => g50, ?_⟩)
  refine zcO (i := 1) (by kernel_rfl) rfl rfl ?_
  intro K' hK'
  go_wp2_with fail
  try (refine ⟨fun _ => g50, ?_⟩)
  refine zcO (i := 2) (by kernel_rfl) rfl rfl ?_
  intro K' hK'
  go_wp2_with fail
  try (refine ⟨fun _ => g50, ?_⟩)
  refine zcM (i := 3) (v := .agg #[.bool x.lf, .slice x.pa x.ps.length x.pc, .slice x.ta x.ts.length x.tc, .slice x.ka x.ks.length x.kc]) (some 37) rfl rfl (by kernel_rfl) (by kernel_rfl) (by kernel_rfl) (by kernel_rfl) (fun _ _ _ h => h) (Or.inl ⟨rfl, fun w' hS => by obtain ⟨⟨q0, q1, q2, q3⟩, ⟨q4, q5, q6, q7⟩⟩ := KB w' hS; go_simp⟩) g50 ?_
  simp only [Act.put, List.setIfInBounds_toArray, List.set_cons_succ, List.set_cons_zero]
  refine zcO (i := 4) (by kernel_rfl) rfl rfl ?_
  intro K' hK'
  go_wp2_with fail
  try (refine ⟨fun _ => g50, ?_⟩)
  refine zcO (i := 5) (by kernel_rfl) rfl rfl ?_
  intro K' hK'
  go_wp2_with fail
  refine (RS.out wb.drew g50).mono ?_
  rintro e wA ⟨rfl, gq⟩
  have hA : Grew wb wA := g50.trans gq
  refine hK' _ _ ⟨fun _ => hA, ?_⟩
  clear hK' K' gq
  refine zcO (i := 6) (by kernel_rfl) rfl rfl ?_
  intro K' hK'
  go_wp2_with fail
  try (refine ⟨fun _ => hA, ?_⟩)
  refine zcO (i := 7) (by kernel_rfl) rfl rfl ?_
  intro K' hK'
  go_wp2_with fail
  try (refine ⟨fun _ => hA, ?_⟩)
  refine zcM (i := 8) (v := undef) (some 42) rfl rfl (by kernel_rfl) (by kernel_rfl) (by kernel_rfl) (by kernel_rfl) (fun _ _ _ h => h) (Or.inr ⟨rfl, rfl⟩) hA ?_
  simp only [Act.put, List.setIfInBounds_toArray, List.set_cons_succ, List.set_cons_zero]
  refine zcM (i := 9) (v := undef) (some 43) rfl rfl (by kernel_rfl) (by kernel_rfl) (by kernel_rfl) (by kernel_rfl) (fun _ _ _ h => h) (Or.inr ⟨rfl, rfl⟩) hA ?_
  simp only [Act.put, List.setIfInBounds_toArray, List.set_cons_succ, List.set_cons_zero]
  refine zcM (i := 10) (v := undef) (some 44) rfl rfl (by kernel_rfl) (by kernel_rfl) (by kernel_rfl) (by kernel_rfl) (fun _ _ _ h => h) (Or.inr ⟨rfl, rfl⟩) hA ?_
  simp only [Act.put, List.setIfInBounds_toArray, List.set_cons_succ, List.set_cons_zero]
  refine zcM (i := 11) (v := undef) (some 45) rfl rfl (by kernel_rfl) (by kernel_rfl) (by kernel_rfl) (by kernel_rfl) (fun _ _ _ h => h) (Or.inr ⟨rfl, rfl⟩) hA ?_
  simp only [Act.put, List.setIfInBounds_toArray, List.set_cons_succ, List.set_cons_zero]
  refine zcM (i := 12) (v := undef) (some 46) rfl rfl (by kernel_rfl) (by kernel_rfl) (by kernel_rfl) (by kernel_rfl) (fun _ _ _ h => h) (Or.inr ⟨rfl, rfl⟩) hA ?_
  simp only [Act.put, List.setIfInBounds_toArray, List.set_cons_succ, List.set_cons_zero]
  refine zcM (i := 13) (v := undef) (some 47) rfl rfl (by kernel_rfl) (by kernel_rfl) (by kernel_rfl) (by kernel_rfl) (fun _ _ _ h => h) (Or.inr ⟨rfl, rfl⟩) hA ?_
  simp only [Act.put, List.setIfInBounds_toArray, List.set_cons_succ, List.set_cons_zero]
  refine zcM (i := 14) (v := undef) (some 48) rfl rfl (by kernel_rfl) (by kernel_rfl) (by kernel_rfl) (by kernel_rfl) (fun _ _ _ h => h) (Or.inr ⟨rfl, rfl⟩) hA ?_
  simp only [Act.put, List.setIfInBounds_toArray, List.set_cons_succ, List.set_cons_zero]
  refine zcM (i := 15) (v := undef) (some 49) rfl rfl (by kernel_rfl) (by kernel_rfl) (by kernel_rfl) (by kernel_rfl) (fun _ _ _ h => h) (Or.inr ⟨rfl, rfl⟩) hA ?_
  simp only [Act.put, List.setIfInBounds_toArray, List.set_cons_succ, List.set_cons_zero]
  refine zcM (i := 16) (v := undef) (some 50) rfl rfl (by kernel_rfl) (by kernel_rfl) (by kernel_rfl) (by kernel_rfl) (fun _ _ _ h => h) (Or.inr ⟨rfl, rfl⟩) hA ?_
  simp only [Act.put, List.setIfInBounds_toArray, List.set_cons_succ, List.set_cons_zero]
  refine zcM (i := 17) (v := undef) (some 51) rfl rfl (by kernel_rfl) (by kernel_rfl) (by kernel_rfl) (by kernel_rfl) (fun _ _ _ h => h) (Or.inr ⟨rfl, rfl⟩) hA ?_
  simp only [Act.put, List.setIfInBounds_toArray, List.set_cons_succ, List.set_cons_zero]
  refine zcO (i := 18) (by kernel_rfl) rfl rfl ?_
  intro K' hK'
  go_wp2_with fail
  try (refine ⟨fun _ => hA, ?_⟩)
  refine zcO (i := 19) (by kernel_rfl) rfl rfl ?_
  intro K' hK'
  go_wp2_with fail
  first | (refine ⟨fun _ => hA, ?_⟩; refine zcN (by kernel_rfl) ?_ _) | (refine ⟨by kernel_rfl, ?_⟩)
  go_wp2_with fail
  go_ret
  exact ⟨zch rfl, G5.out.trans hA⟩
 case pos =>
 subst her
 have t1 : ((0 : Int) != 0) = false := rfl
 clear RS t1
 have k0 : wb.cell? ⟨w.heap.size + 2, 0, none⟩ = some (.int .i64 o.kind) := zb4 HB5.out.2.2.1 (j := 0) rfl
 by_cases hk4 : o.kind = 4
 case pos =>
  have t4 : (o.kind == 4) = true := by simpa using hk4
  have hok := apply_size (n := n.er) (s := s.er) (o := o.er) (by rw [HRES.out])
  rw [HRES.out] at hok
  have HSZ : Hid ((x.er.size : Int) = n.er.size + 1) := by
   show _ = _
   rw [HXE.out, hok.1]
   unfold byT
   simp [show o.er.kind = o.kind from rfl, hk4]
  clear hok
  have SX := Lib.hid (fun w1 (g : Grew wb w1) => size_any x w1 (NT.Ok.grew HX5.out g) HXX.out)
  have SNB := Lib.hid (fun w1 (g : Grew wb w1) => SN.out w1 (G5.out.trans g) HNB.out)
  unfold NT.val at SX
  have hxb := Nat.le_trans x.er.size_le HXX.out
  have hw : IntKind.i64.wrap ((n.er.size : Int) + 1) = x.er.size := by rw [← HSZ.out, IntKind.wrap_i64]; omega
  have hw2 : wrap64 ((n.er.size : Int) + 1) = x.er.size := by rw [← HSZ.out]; exact wrap64_near (by omega) (by omega)
  have te : ((x.er.size : Int) == (x.er.size : Int)) = true := by simp
  clear hk4 hxb
  go_upto_region 7 with fail
  clear k0
  have KB := fun w' (g : Grew wb w') => (⟨(HXB.out.grew g).x, (HB5.out.grew g).n⟩ : (w'.cell? ⟨b7, 0, none⟩ = some (.bool x.lf) ∧ w'.cell? ⟨b7, 1, none⟩ = some (.slice x.pa x.ps.length x.pc) ∧ w'.cell? ⟨b7, 2, none⟩ = some (.slice x.ta x.ts.length x.tc) ∧ w'.cell? ⟨b7, 3, none⟩ = some (.slice x.ka x.ks.length x.kc)) ∧ (w'.cell? ⟨w.heap.size, 0, none⟩ = some (.bool n.lf) ∧ w'.cell? ⟨w.heap.size, 1, none⟩ = some (.slice n.pa n.ps.length n.pc) ∧ w'.cell? ⟨w.heap.size, 2, none⟩ = some (.slice n.ta n.ts.length n.tc) ∧ w'.cell? ⟨w.heap.size, 3, none⟩ = some (.slice n.ka n.ks.length n.kc)))
  have g50 : Grew wb wb.drew := (Grew.refl _).drew
  refine zcY (Grew wb) (fun _ => true) (by kernel_rfl) ?_
  refine zcO (i := 0) (by kernel_rfl) rfl rfl ?_
  intro K' hK'
  go_wp2_with fail
  try (refine ⟨fun _ => g50, ?_⟩)
  refine zcO (i := 1) (by kernel_rfl) rfl rfl ?_
  intro K' hK'
  go_wp2_with fail
  try (refine ⟨fun _ => g50, ?_⟩)
  refine zcO (i := 2) (by kernel_rfl) rfl rfl ?_
  intro K' hK'
  go_wp2_with fail
  try (refine ⟨fun _ => g50, ?_⟩)
  refine zcM (i := 3) (v := undef) (some 37) rfl rfl (by kernel_rfl) (by kernel_rfl) (by kernel_rfl) (by kernel_rfl) (fun _ _ _ h => h) (Or.inr ⟨rfl, rfl⟩) g50 ?_
  simp only [Act.put, List.setIfInBounds_toArray, List.set_cons_succ, List.set_cons_zero]
  refine zcM (i := 4) (v := undef) (some 38) rfl rfl (by kernel_rfl) (by kernel_rfl) (by kernel_rfl) (by kernel_rfl) (fun _ _ _ h => h) (Or.inr ⟨rfl, rfl⟩) g50 ?_
  simp only [Act.put, List.setIfInBounds_toArray, List.set_cons_succ, List.set_cons_zero]
  refine zcM (i := 5) (v := undef) (some 39) rfl rfl (by kernel_rfl) (by kernel_rfl) (by kernel_rfl) (by kernel_rfl) (fun _ _ _ h => h) (Or.inr ⟨rfl, rfl⟩) g50 ?_
  simp only [Act.put, List.setIfInBounds_toArray, List.set_cons_succ, List.set_cons_zero]
  refine zcO (i := 6) (by kernel_rfl) rfl rfl ?_
  intro K' hK'
  go_wp2_with fail
  try (refine ⟨fun _ => g50, ?_⟩)
  refine zcO (i := 7) (by kernel_rfl) rfl rfl ?_
  intro K' hK'
  go_wp2_with fail
  try (refine ⟨fun _ => g50, ?_⟩)
  refine zcO (i := 8) (by kernel_rfl) rfl rfl ?_
  intro K' hK'
  go_wp2_with fail
  try (refine ⟨fun _ => g50, ?_⟩)
  refine zcO (i := 9) (by kernel_rfl) rfl rfl ?_
  intro K' hK'
  go_wp2_with fail
  try (refine ⟨fun _ => g50, ?_⟩)
  refine zcO (i := 10) (by kernel_rfl) rfl rfl ?_
  intro K' hK'
  go_wp2_with fail
  try (refine ⟨fun _ => g50, ?_⟩)
  refine zcM (i := 11) (v := .agg #[.bool x.lf, .slice x.pa x.ps.length x.pc, .slice x.ta x.ts.length x.tc, .slice x.ka x.ks.length x.kc]) (some 45) rfl rfl (by kernel_rfl) (by kernel_rfl) (by kernel_rfl) (by kernel_rfl) (fun _ _ _ h => h) (Or.inl ⟨rfl, fun w' hS => by obtain ⟨⟨q0, q1, q2, q3⟩, ⟨q4, q5, q6, q7⟩⟩ := KB w' hS; go_simp⟩) g50 ?_
  simp only [Act.put, List.setIfInBounds_toArray, List.set_cons_succ, List.set_cons_zero]
  refine zcM (i := 13) (v := .agg #[.bool n.lf, .slice n.pa n.ps.length n.pc, .slice n.ta n.ts.length n.tc, .slice n.ka n.ks.length n.kc]) (some 47) rfl rfl (by kernel_rfl) (by kernel_rfl) (by kernel_rfl) (by kernel_rfl) (fun _ _ _ h => h) (Or.inl ⟨rfl, fun w' hS => by obtain ⟨⟨q0, q1, q2, q3⟩, ⟨q4, q5, q6, q7⟩⟩ := KB w' hS; go_simp⟩) g50 ?_
  simp only [Act.put, List.setIfInBounds_toArray, List.set_cons_succ, List.set_cons_zero]
  refine zcO (i := 12) (by kernel_rfl) rfl rfl ?_
  intro K' hK'
  go_wp2_with fail
  refine (SX.out wb.drew g50).mono ?_
  rintro e wA ⟨rfl, gq⟩
  have hA : Grew wb wA := g50.trans gq
  refine hK' _ _ ⟨fun _ => hA, ?_⟩
  clear hK' K' gq
  refine zcO (i := 14) (by kernel_rfl) rfl rfl ?_
  intro K' hK'
  go_wp2_with fail
  refine (SNB.out wA hA).mono ?_
  rintro e wB ⟨rfl, gq⟩
  have hB : Grew wb wB := hA.trans gq
  refine hK' _ _ ⟨fun _ => hB, ?_⟩
  clear hK' K' gq
  refine zcO (i := 15) (by kernel_rfl) rfl rfl ?_
  intro K' hK'
  go_wp2_with fail
  try (refine ⟨fun _ => hB, ?_⟩)
  refine zcO (i := 16) (by kernel_rfl) rfl rfl ?_
  intro K' hK'
  go_wp2_with fail
  try (refine ⟨fun _ => hB, ?_⟩)
  refine zcO (i := 17) (by kernel_rfl) rfl rfl ?_
  intro K' hK'
  go_wp2_with fail
  try (refine ⟨fun _ => hB, ?_⟩)
  refine zcO (i := 18) (by kernel_rfl) rfl rfl ?_
  intro K' hK'
  go_wp2_with fail
  try (refine ⟨fun _ => hB, ?_⟩)
  refine zcO (i := 19) (by kernel_rfl) rfl rfl ?_
  intro K' hK'
  go_wp2_with fail
  first | (refine ⟨fun _ => hB, ?_⟩; refine zcN (by kernel_rfl) ?_ _) | (refine ⟨by kernel_rfl, ?_⟩)
  go_wp2_with fail
  go_ret
  exact ⟨zch rfl, G5.out.trans hB⟩
 case neg =>
 have t4 : (o.kind == 4) = false := by simpa using hk4
 have GH := Lib.hid (ghosts12_any n 0 wb (HF.out.grew G5.out).hn (by have := HNB.out; omega) (by omega) (by have := T.size_le n.er; have := HNB.out; omega))
 have DO := Lib.hid (fun (w6 : World) (y : NT) (g : Grew wb w6) (h1 : y.GOk w6) (h2 : y.er = gh n.er 0) (h3 : ∀ b ∈ y.gb, wb.heap.size ≤ b) => ghost_done (x := x) (s := s.er) (w0 := w) h1 h2 (Nat.le_trans G5.out.size g.size) (HF.out.ho.low (G5.out.trans g)) (fun b hb => Nat.le_trans G5.out.size (h3 b hb)) (by rw [HRES.out, HXE.out]) HNB.out HFO.out hk4)
 have SH := Lib.hid (fun (y : NT) (w7 : World) (g : Grew wb w7) (h1 : y.GOk w7) (h2 : like y.er x.er) => shape12_any y x w7 h1 (NT.Ok.grew HX5.out g) HXX.out h2)
 unfold NT.val at GH SH
 unfold OpL.val at DO
 rw [hov] at DO
 clear hk4
 obtain ⟨n0, n1, n2, n3⟩ := HB5.out.n
 go_wp2_with fail
 refine GH.out.mono ?_
 rintro e w6 ⟨y, rfl, y1, y2, g6, y3⟩
 have rO := (HB5.out.grew g6).2.2.1
 have CD := DO.out w6 y g6 y1 y2.out y3
 have HG := Lib.hid (fun (w7 : World) (k : Keeps (· ∈ y.gb) w6 w7) => g6.keep k (fun b hb => y3 b hb))
 clear y1 y2 y3 n0 n1 n2 n3 k0 GH DO
 go_wp2_with (show wpList _ _ _ (Oper.mk (some 59) (Op.load 35 (.tmp 5)) _ _ _ _ :: _) _ _; refine zcV rfl 35 (.tmp 5) rfl (w.heap.size + 2) 0 rfl o.cells _ rO Tryz.underlying35 rfl zbh ?_; have ho2 : Value.agg o.cells.toArray = ov := hov; rw [ho2]; clear ho2)
 refine CD.mono ?_
 rintro e w7 ⟨rfl, y', q1, q2, _, q3, q4⟩
 have g7 := HG.out w7 q4
 have CS := SH.out y' w7 g7 q1 q3
 rw [q2] at CS
 have G7 := Lib.hid (G5.out.trans g7)
 obtain ⟨x0, x1, x2, x3⟩ := (HXB.out.grew g7).x
 clear q1 q2 q3 q4 g7 CD SH HG rO
 go_wp2_with fail
 refine CS.mono ?_
 rintro e w8 ⟨rfl, g8⟩
 go_wp2_with fail
 go_ret
 exact ⟨rfl, G7.out.trans g8⟩
end Go.Proofs.YtbhbekocmpmjfaaGreatDoor
/- WHAT COMES IN, READ AS DATA, LIES IN MEMORY AS A LOCATED TREE, no greater than its bulk. -/
namespace Go.Proofs.YtbhbekocmpmjfaaGreatDoor
open Go Go.RowKit Go.Deep
section
variable {H : Type} {enc : TypeId × Value → H} {P : Program} {w : World} {base : Nat} {spare : Nat → Bool} {held : Bool}
theorem addr_plain {w : World} {a : Addr} {v : Value} (h : w.cell? a = some v) : a.spot = none ∧ a.block < w.heap.size := by
 unfold World.cell? at h
 split at h
 ·rename_i hb
  split at h
  ·cases h
  ·rename_i hs
   refine ⟨by simpa using hs, ?_⟩
   rcases Nat.lt_or_ge a.block w.heap.size with h1 | h1
   ·exact h1
   ·rw [Array.getElem?_eq_none h1] at hb; cases hb
 ·cases h
theorem propsBulk_sum (l : List zab) : zbY l = (l.map fun p : zab => 1 + p.1.size + p.2.size).sum := by
 induction l with
 | nil => rfl
 | cons p r ih => simp [zbY, ih]
theorem bulkAll_sum (l : List NT) : T.bulkAll (l.map NT.er) = (l.map fun n : NT => n.er.bulk).sum := by
 induction l with
 | nil => rfl
 | cons p r ih => simp [T.bulkAll, ih]
theorem sum_ones (l : List Int) : (l.map fun _ : Int => 1).sum = l.length := by
 induction l with
 | nil => rfl
 | cons p r ih => rw [List.map_cons, List.sum_cons, ih, List.length_cons]; omega
theorem getD_lt {α : Type} [Inhabited α] (l : List α) (i : Nat) (h : i < l.length) : l.getD i default = l[i] := by
 rw [List.getD_eq_getElem?_getD, List.getElem?_eq_getElem h]; rfl
theorem open_list {α : Type} [Inhabited α] (cells : α → List Value) (Q : α → DataW H → Prop) {t e : TypeId} {k fuel : Nat} {cs : List Value} {x : DataW H × List MemPlace}
  (ht : P.underlying t = some (.slice e)) (hk : P.cellsOf e = k) (hk0 : 0 < k)
  (hel : ∀ m cs y, m < fuel → DataW.trod enc P w base spare held m e cs = some y → ∃ r, cs = cells r ∧ Q r y.1)
  (h : DataW.trod enc P w base spare held fuel t cs = some x) :
  ∃ (a : Option Addr) (c : Nat) (l : List α) (D : List (DataW H)), cs = [.slice a l.length c] ∧ ((x.1 = .nil ∧ D = []) ∨ ∃ sp, x.1 = .slice D sp) ∧ D.length = l.length ∧
   (∀ i, i < l.length → ∃ d, D[i]? = some d ∧ Q (l.getD i default) d) ∧
   RowIn w 0 w.heap.size a l.length c k (fun i j => (cells (l.getD i default)).getD j undef) := by
 rcases DataW.trod_slice ht h with ⟨rfl, rfl⟩ | ⟨a, len, cap, elems, rest, n, hf, rfl, rfl, hb, hl, hm, hlen, hel2, _, _⟩
 ·refine ⟨none, 0, [], [], rfl, Or.inl ⟨rfl, rfl⟩, rfl, fun i hi => absurd hi (by simp), ⟨⟨fun _ => ⟨rfl, rfl⟩, Nat.le_refl _, Nat.zero_le _⟩, fun h => absurd h (by simp)⟩⟩
 ·have hone : ∀ i, i < len → ∃ r, w.cells? base (a.add (i * k)) k = some (cells r) ∧ ∃ y, elems[i]? = some y ∧ Q r y.1 := by
   intro i hi
   have h1 := hel2 i hi
   rw [hk, List.getElem?_eq_getElem (by omega)] at h1
   obtain ⟨cs', h2, h3⟩ := Option.bind_eq_some_iff.1 h1
   obtain ⟨r, hr, hq⟩ := hel n cs' _ (by omega) h3
   exact ⟨r, by rw [h2, hr], _, List.getElem?_eq_getElem (by omega), hq⟩
  obtain ⟨f, hf2⟩ := choose_lt (α := α) hone
  have hget : ∀ i, i < len → ((List.range len).map f).getD i default = f i := by
   intro i hi; simp [List.getD, hi]
  refine ⟨some a, cap, (List.range len).map f, elems.map (·.1), by simp, Or.inr ⟨_, rfl⟩, by simp [hlen], ?_, ⟨⟨by simp, by simpa using hl, hm⟩, ?_⟩⟩
  ·intro i hi
   have hi' : i < len := by simpa using hi
   obtain ⟨_, y, hy, hq⟩ := hf2 i hi'
   exact ⟨y.1, by simp [hy], by rw [hget i hi']; exact hq⟩
  ·intro hpos
   have hpos' : 0 < len := by simpa using hpos
   have key : ∀ i, i < len → ∀ j, j < k → w.cell? ((a.add (i * k)).add j) = some ((cells (f i)).getD j undef) := by
    intro i hi j hj
    obtain ⟨hc, _⟩ := hf2 i hi
    obtain ⟨_, hln, hall⟩ := World.cells?_some hc
    rw [hall j hj, List.getElem?_eq_getElem (by omega)]
    simp [List.getD, List.getElem?_eq_getElem (show j < (cells (f i)).length by omega)]
   have h00 := key 0 hpos' 0 hk0
   have hz : (a.add (0 * k)).add 0 = a := by simp [Addr.add]
   rw [hz] at h00
   obtain ⟨hsp, hlt⟩ := addr_plain h00
   obtain ⟨b, o, sp⟩ := a
   simp only at hsp hlt
   subst hsp
   refine ⟨b, o, rfl, Nat.zero_le _, hlt, fun i hi j hj => ?_⟩
   have hi' : i < len := by simpa using hi
   have := key i hi' j hj
   rw [add_add] at this
   show w.cell? _ = some ((cells (((List.range len).map f).getD i default)).getD j undef)
   rw [hget i hi', ← this]
   unfold Addr.add
   split
   ·rename_i h0; rw [show o + i * k + j = o by omega]
   ·rw [Nat.add_assoc]
theorem bulkAll_ge {α : Type} [Inhabited α] (f : α → Nat) : ∀ (l : List α) (D : List (DataW H)), D.length = l.length → (∀ i, i < l.length → ∃ d, D[i]? = some d ∧ f (l.getD i default) ≤ Rows.uptoBulk d) → (l.map f).sum ≤ Rows.uptoBulkAll D := by
 intro l
 induction l with
 | nil => intro D _ _; simp
 | cons a r ih =>
  intro D hD h
  match D, hD with
  | d :: D', hD =>
   obtain ⟨d0, h0, h1⟩ := h 0 (by simp)
   simp at h0
   subst h0
   have h2 := ih D' (by simpa using hD) (fun i hi => by
    obtain ⟨d1, h3, h4⟩ := h (i + 1) (by simpa using hi)
    exact ⟨d1, by simpa using h3, by simpa using h4⟩)
   simp only [List.map_cons, List.sum_cons, Rows.uptoBulkAll]
   have h1' : f a ≤ Rows.uptoBulk d := by simpa using h1
   omega
end
theorem cellsProp : Tryz.prog.cellsOf 132 = 2 := by kernel_rfl
theorem cellsRune : Tryz.prog.cellsOf 21 = 1 := by kernel_rfl
theorem zaz : Tryz.prog.cellsOf 26 = 4 := by kernel_rfl
theorem cellsBool : Tryz.prog.cellsOf 4 = 1 := by kernel_rfl
theorem cellsString : Tryz.prog.cellsOf 9 = 1 := by kernel_rfl
theorem zaJ : Tryz.prog.cellsOf 22 = 1 := by kernel_rfl
theorem cellsRunes : Tryz.prog.cellsOf 23 = 1 := by kernel_rfl
theorem cellsNodes : Tryz.prog.cellsOf 24 = 1 := by kernel_rfl
section
variable {H : Type} {enc : TypeId × Value → H} {w : World} {base : Nat} {spare : Nat → Bool} {held : Bool}
def propCells (p : zab) : List Value := [.string p.1, .string p.2]
set_option maxRecDepth 100000 in
theorem open_prop {m : Nat} {cs : List Value} {y : DataW H × List MemPlace} (h : DataW.trod enc Tryz.prog w base spare held m 132 cs = some y) :
  ∃ p : zab, cs = propCells p ∧ 1 + p.1.size + p.2.size ≤ Rows.uptoBulk y.1 := by
 obtain ⟨xs, n, _, rfl, hlen, hxs, hf⟩ := DataW.trod_struct Tryz.underlying132 h
 rw [cellsProp] at hlen
 match cs, hlen with
 | [c0, c1], _ =>
  match xs, hxs with
  | [y0, y1], _ =>
   have h0 : DataW.trod enc Tryz.prog w base spare held n 9 [c0] = some y0 := by have := hf 0 _ rfl; simpa [cellsString] using this
   have h1 : DataW.trod enc Tryz.prog w base spare held n 9 [c1] = some y1 := by have := hf 1 _ rfl; simpa [cellsString] using this
   obtain ⟨s0, e0, rfl, _⟩ := DataW.trod_string Tryz.underlying9 h0
   obtain ⟨s1, e1, rfl, _⟩ := DataW.trod_string Tryz.underlying9 h1
   simp only [List.cons.injEq, and_true] at e0 e1
   subst e0 e1
   refine ⟨(s0, s1), rfl, ?_⟩
   have l0 : s0.data.toList.length = s0.size := by rw [Array.length_toList]; rfl
   have l1 : s1.data.toList.length = s1.size := by rw [Array.length_toList]; rfl
   simp only [List.map_cons, List.map_nil, Rows.uptoBulk, Rows.uptoBulkAll]
   omega
theorem open_props {m : Nat} {cs : List Value} {x : DataW H × List MemPlace} (h : DataW.trod enc Tryz.prog w base spare held m 22 cs = some x) :
  ∃ a c ps, cs = [.slice a ps.length c] ∧ PropsIn w 0 w.heap.size a c ps ∧ zbY ps ≤ Rows.uptoBulk x.1 := by
 obtain ⟨a, c, l, D, rfl, hx, hD, hq, hrow⟩ := open_list propCells (fun p d => 1 + p.1.size + p.2.size ≤ Rows.uptoBulk d) Tryz.underlying22 cellsProp (by decide) (fun m cs y _ h => open_prop h) h
 refine ⟨a, c, l, rfl, ?_, ?_⟩
 ·refine ⟨hrow.1, fun hn => ?_⟩
  obtain ⟨b, o, h1, h2, h3, hc⟩ := hrow.2 hn
  refine ⟨b, o, h1, h2, h3, fun i hi j hj => ?_⟩
  rw [hc i hi j hj]
  match j, hj with
  | 0, _ => rfl
  | 1, _ => rfl
 ·have hs := bulkAll_ge (fun p : zab => 1 + p.1.size + p.2.size) l D hD hq
  rw [propsBulk_sum]
  rcases hx with ⟨hx, rfl⟩ | ⟨sp, hx⟩
  ·have : l = [] := List.length_eq_zero_iff.1 (by simpa using hD.symm)
   subst this; simp
  ·rw [hx]; simp only [Rows.uptoBulk]; omega
theorem open_runes {m : Nat} {cs : List Value} {x : DataW H × List MemPlace} (h : DataW.trod enc Tryz.prog w base spare held m 23 cs = some x) :
  ∃ a c ts, cs = [.slice a ts.length c] ∧ RunesIn w 0 w.heap.size a c ts ∧ ts.length ≤ Rows.uptoBulk x.1 := by
 obtain ⟨a, c, l, D, rfl, hx, hD, hq, hrow⟩ := open_list (fun r : Int => [Value.int .i32 r]) (fun r d => (-2147483648 ≤ r ∧ r ≤ 2147483647) ∧ 1 ≤ Rows.uptoBulk d) Tryz.underlying23 cellsRune (by decide) (fun m cs y _ h => by
  obtain ⟨r, rfl, rfl, hw⟩ := DataW.trod_int Tryz.underlying21 h
  refine ⟨r, rfl, ?_, by simp [Rows.uptoBulk]⟩
  have hmin : IntKind.i32.min = -2147483648 := rfl
  have hmax : IntKind.i32.max = 2147483647 := rfl
  simp only [Lit.wf, Bool.and_eq_true, decide_eq_true_eq] at hw
  omega) h
 refine ⟨a, c, l, rfl, ⟨?_, ?_⟩, ?_⟩
 ·refine ⟨hrow.1, fun hn => ?_⟩
  obtain ⟨b, o, h1, h2, h3, hc⟩ := hrow.2 hn
  refine ⟨b, o, h1, h2, h3, fun i hi j hj => ?_⟩
  rw [hc i hi j hj]
  obtain rfl : j = 0 := by omega
  rfl
 ·intro r hr
  obtain ⟨i, hi, rfl⟩ := List.getElem_of_mem hr
  obtain ⟨d, _, hd, _⟩ := hq i hi
  simpa [List.getD, List.getElem?_eq_getElem hi] using hd
 ·have hs := bulkAll_ge (fun _ : Int => 1) l D hD (fun i hi => by obtain ⟨d, h1, _, h3⟩ := hq i hi; exact ⟨d, h1, h3⟩)
  rw [sum_ones] at hs
  rcases hx with ⟨hx, rfl⟩ | ⟨sp, hx⟩
  ·have : l = [] := List.length_eq_zero_iff.1 (by simpa using hD.symm)
   subst this; simp
  ·rw [hx]; simp only [Rows.uptoBulk]; omega
def nodeCells (n : NT) : List Value := [.bool n.lf, .slice n.pa n.ps.length n.pc, .slice n.ta n.ts.length n.tc, .slice n.ka n.ks.length n.kc]
set_option maxRecDepth 100000 in
theorem open_node (m : Nat) : ∀ (cs : List Value) (y : DataW H × List MemPlace), DataW.trod enc Tryz.prog w base spare held m 26 cs = some y →
  ∃ n : NT, cs = nodeCells n ∧ n.Ok w ∧ n.er.bulk ≤ Rows.uptoBulk y.1 := by
 induction m using Nat.strongRecOn with
 | ind m ih =>
 intro cs y h
 obtain ⟨xs, f, hfu, rfl, hlen, hxs, hf⟩ := DataW.trod_struct Tryz.underlying26 h
 rw [zaz] at hlen
 match cs, hlen with
 | [c0, c1, c2, c3], _ =>
  match xs, hxs with
  | [y0, y1, y2, y3], _ =>
   have h0 : DataW.trod enc Tryz.prog w base spare held f 4 [c0] = some y0 := by have := hf 0 _ rfl; simpa [cellsBool] using this
   have h1 : DataW.trod enc Tryz.prog w base spare held f 22 [c1] = some y1 := by have := hf 1 _ rfl; simpa [zaJ] using this
   have h2 : DataW.trod enc Tryz.prog w base spare held f 23 [c2] = some y2 := by have := hf 2 _ rfl; simpa [cellsRunes] using this
   have h3 : DataW.trod enc Tryz.prog w base spare held f 24 [c3] = some y3 := by have := hf 3 _ rfl; simpa [cellsNodes] using this
   obtain ⟨lf, e0, rfl⟩ := DataW.trod_bool Tryz.underlying4 h0
   obtain ⟨pa, pc, ps, e1, hp, hpb⟩ := open_props h1
   obtain ⟨ta, tc, ts, e2, hr, hrb⟩ := open_runes h2
   obtain ⟨ka, kc, ks, D, e3, hx, hD, hq, hrow⟩ := open_list nodeCells (fun n d => n.Ok w ∧ n.er.bulk ≤ Rows.uptoBulk d) Tryz.underlying24 zaz (by decide) (fun m' cs y hm' h => ih m' (by omega) cs y h) h3
   simp only [List.cons.injEq, and_true] at e0 e1 e2 e3
   subst e0 e1 e2 e3
   refine ⟨.mk lf pa pc ps ta tc ts ka kc ks, rfl, NT.Ok.of hp hr ⟨?_, ?_⟩, ?_⟩
   ·refine ⟨hrow.1, fun hn => ?_⟩
    obtain ⟨b, o, h1, h2, h3, hc⟩ := hrow.2 hn
    refine ⟨b, o, h1, h2, h3, fun i hi j hj => ?_⟩
    refine (hc i hi j hj).trans ?_
    match j, hj with
    | 0, _ => rfl
    | 1, _ => rfl
    | 2, _ => rfl
    | 3, _ => rfl
   ·intro k hk
    obtain ⟨i, hi, rfl⟩ := List.getElem_of_mem hk
    obtain ⟨d, _, hd, _⟩ := hq i hi
    rw [getD_lt ks i hi] at hd; exact hd
   ·have hs := bulkAll_ge (fun n : NT => n.er.bulk) ks D hD (fun i hi => by obtain ⟨d, h1, _, h3⟩ := hq i hi; exact ⟨d, h1, h3⟩)
    have hkb : T.bulkAll (ks.map NT.er) ≤ Rows.uptoBulk y3.1 := by
     rw [bulkAll_sum]
     rcases hx with ⟨hx, rfl⟩ | ⟨sp, hx⟩
     ·have : ks = [] := List.length_eq_zero_iff.1 (by simpa using hD.symm)
      subst this; simp
     ·rw [hx]; simp only [Rows.uptoBulk]; omega
    rw [NT.er_eq]
    simp only [T.bulk_eq, T.ps_mk, T.ts_mk, T.ks_mk, NT.ps_mk, NT.ts_mk, NT.ks_mk, List.map_cons, List.map_nil, Rows.uptoBulk, Rows.uptoBulkAll]
    omega
end
end Go.Proofs.YtbhbekocmpmjfaaGreatDoor
/- A DATUM READ AS A LIST OF ints (a path). -/
namespace Go.Proofs.YtbhbekocmpmjfaaGreatDoor
open Go Go.RowKit Go.ChangeShapes Go.WideShapes Go.ChangeAt
theorem zay : Tryz.prog.cellsOf 3 = 1 := by kernel_rfl
section
variable {H : Type} {enc : TypeId × Value → H} {w : World} {base : Nat} {spare : Nat → Bool} {held : Bool}
theorem open_ints {m : Nat} {cs : List Value} {x : DataW H × List MemPlace} (h : DataW.trod enc Tryz.prog w base spare held m 27 cs = some x) :
  ∃ a c ts, cs = [.slice a ts.length c] ∧ IntsIn w 0 w.heap.size a c ts ∧ ts.length ≤ Rows.uptoBulk x.1 ∧ ∀ r ∈ ts, -9223372036854775808 ≤ r ∧ r ≤ 9223372036854775807 := by
 obtain ⟨a, c, l, D, rfl, hx, hD, hq, hrow⟩ := open_list (fun r : Int => [Value.int .i64 r]) (fun r d => (-9223372036854775808 ≤ r ∧ r ≤ 9223372036854775807) ∧ 1 ≤ Rows.uptoBulk d) Tryz.underlying27 zay (by decide) (fun m cs y _ h => by
  obtain ⟨r, rfl, rfl, hw⟩ := DataW.trod_int Tryz.underlying3 h
  refine ⟨r, rfl, ?_, by simp [Rows.uptoBulk]⟩
  have hmin : IntKind.i64.min = -9223372036854775808 := rfl
  have hmax : IntKind.i64.max = 9223372036854775807 := rfl
  simp only [Lit.wf, Bool.and_eq_true, decide_eq_true_eq] at hw
  omega) h
 refine ⟨a, c, l, rfl, ?_, ?_, ?_⟩
 ·refine ⟨hrow.1, fun hn => ?_⟩
  obtain ⟨b, o, h1, h2, h3, hc⟩ := hrow.2 hn
  refine ⟨b, o, h1, h2, h3, fun i hi j hj => ?_⟩
  rw [hc i hi j hj]
  obtain rfl : j = 0 := by omega
  rfl
 ·have hs := bulkAll_ge (fun _ : Int => 1) l D hD (fun i hi => by obtain ⟨d, h1, _, h3⟩ := hq i hi; exact ⟨d, h1, h3⟩)
  rw [sum_ones] at hs
  rcases hx with ⟨hx, rfl⟩ | ⟨sp, hx⟩
  ·have : l = [] := List.length_eq_zero_iff.1 (by simpa using hD.symm)
   subst this; simp
  ·rw [hx]; simp only [Rows.uptoBulk]; omega
 ·intro r hr
  obtain ⟨i, hi, rfl⟩ := List.getElem_of_mem hr
  obtain ⟨d, _, hd, _⟩ := hq i hi
  simpa [List.getD, List.getElem?_eq_getElem hi] using hd
end
end Go.Proofs.YtbhbekocmpmjfaaGreatDoor
