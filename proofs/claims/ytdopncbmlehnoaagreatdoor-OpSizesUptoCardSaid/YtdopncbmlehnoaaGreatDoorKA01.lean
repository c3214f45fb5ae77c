/- THE LAW redlinelaw12.OpSizes: the contract. -/
import Derived.Test.YtdopncbmlehnoaaGreatDoorK40
import Derived.Test.YtdopncbmlehnoaaGreatDoorK41
import Derived.Test.YtdopncbmlehnoaaGreatDoorK23
namespace Go.Proofs.YtdopncbmlehnoaaGreatDoor
open Go Go.RowKit

theorem wrap_size {k : Nat} (h : k ≤ 1048576) : IntKind.i64.wrap (k : Int) = k := by
  rw [IntKind.wrap_i64]; omega
set_option maxRecDepth 100000 in
set_option maxHeartbeats 8000000 in
theorem opSizes_any (n : NT) (s : SelL) (o : OpL) (w : World) (hf0 : Fit n s o w) : Calls Tryz.prog 5 #[n.val, s.val, o.val] w fun e w' => e = .returned (.bool true) ∧ Grew w w' := by
  have FE := Lib.hid (fun w1 (g : Grew w w1) => few12_any n s o w1 (hf0.grew g))
  have HF := Lib.hid hf0
  have AP := Lib.hid (fun (h : fewE n.er s.er o.er = true) w1 (g : Grew w w1) => apply12 h (hf0.grew g))
  have SN := Lib.hid (fun w1 (g : Grew w w1) (hb : n.er.bulk ≤ 262144) => size_any n w1 (hf0.grew g).hn (by omega))
  have SO := Lib.hid (fun w1 (g : Grew w w1) => size_any o.node w1 (hf0.grew g).ho.2.1 (hf0.grew g).ob)
  clear hf0
  unfold OpL.val at FE AP ⊢
  unfold NT.val at FE AP SN SO ⊢
  unfold SelL.val at FE AP ⊢
  go_enter Tryz.func5, Tryz.ntmps5
  go_upto_region 1 with fail
  generalize hW : ((w.alloc _).alloc _).alloc _ = w1
  obtain ⟨g1, hB, z1⟩ := b3_new w n s o _ _ _ w1 hW
  have HB1 := Lib.hid hB
  have G1 := Lib.hid g1
  clear hW z1 hB g1
  go_wp2_with fail
  refine (live12_any _).mono ?_
  rintro e w2 ⟨rfl, g2⟩
  have HB2 := Lib.hid (HB1.out.grew g2)
  have G2 := Lib.hid (G1.out.trans g2)
  clear g2 HB1 G1
  obtain ⟨n0, n1, n2, n3⟩ := HB2.out.n
  obtain ⟨s0, s1, s2, s3, s4⟩ := HB2.out.s
  have rO := HB2.out.2.2.1
  obtain ⟨ov, hov⟩ : ∃ v, o.val = v := ⟨_, rfl⟩
  unfold OpL.val at hov
  rw [hov] at FE AP
  go_wp2_with (show wpList _ _ _ (Oper.mk (some 15) (Op.load 35 (.tmp 5)) _ _ _ _ :: _) _ _; refine wpList_load_mid_g rfl 35 (.tmp 5) rfl (w.heap.size + 2) 0 rfl o.cells _ rO Tryz.underlying35 rfl infoOpB ?_; have ho2 : Value.agg o.cells.toArray = ov := hov; rw [ho2]; clear ho2)
  refine (FE.out w2 G2.out).mono ?_
  rintro e w3 ⟨rfl, g3⟩
  have HB3 := Lib.hid (HB2.out.grew g3)
  have G3 := Lib.hid (G2.out.trans g3)
  clear g3 n0 n1 n2 n3 s0 s1 s2 s3 s4 rO HB2 FE G2
  by_cases hfe : fewE n.er s.er o.er = true
  case neg =>
    have hfe : fewE n.er s.er o.er = false := by simpa using hfe
    rw [hfe]
    go_wp2_with fail
    go_ret
    exact ⟨rfl, G3.out⟩
  case pos =>
  have AP1 := Lib.hid (AP.out hfe)
  have HFE := Lib.hid hfe
  rw [hfe]
  clear hfe AP
  obtain ⟨n0, n1, n2, n3⟩ := HB3.out.n
  obtain ⟨s0, s1, s2, s3, s4⟩ := HB3.out.s
  have rO := HB3.out.2.2.1
  go_wp2_with (show wpList _ _ _ (Oper.mk (some 21) (Op.load 35 (.tmp 5)) _ _ _ _ :: _) _ _; refine wpList_load_mid_g rfl 35 (.tmp 5) rfl (w.heap.size + 2) 0 rfl o.cells _ rO Tryz.underlying35 rfl infoOpB ?_; have ho2 : Value.agg o.cells.toArray = ov := hov; rw [ho2]; clear ho2)
  refine (AP1.out w3 G3.out).mono ?_
  rintro e w4 ⟨x, t, rfl, g4, hx, ht, hxe, hte⟩
  have HB4 := Lib.hid (HB3.out.grew g4)
  have G4 := Lib.hid (G3.out.trans g4)
  have HX4 : Hid (x.Ok w4) := hx.mono (Nat.zero_le _) (Nat.le_refl _)
  have HT4 : Hid (t.In w4 0 w4.heap.size) := ⟨IntsIn.mono ht.1 (Nat.zero_le _) (Nat.le_refl _), IntsIn.mono ht.2 (Nat.zero_le _) (Nat.le_refl _)⟩
  clear g4 n0 n1 n2 n3 s0 s1 s2 s3 s4 rO HB3 AP1 G3 hx ht
  unfold NT.val SelL.val
  have HER : Hid ((applyT n.er s.er o.er).2.2 = (applyT n.er s.er o.er).2.2) := rfl
  generalize hres : applyT n.er s.er o.er = res at *
  have HRES := Lib.hid hres
  obtain ⟨ta, tb, er⟩ := res
  clear hres HER
  go_upto_region 6 with (first | (show wpList _ _ _ (Oper.mk none (Op.store 26 (.tmp 7) (.tmp 23)) _ _ _ _ :: _) _ _; generalize hW : World.alloc (World.alloc w4 _) _ = wW; obtain ⟨tX, tY⟩ := two_there hW; refine wpList_store_mid rfl 26 (.tmp 7) (.tmp 23) rfl w4.heap.size 0 x.cells4.toArray rfl rfl tX infoNode4 (NT.cells4_all _) ?_; generalize hA : World.setCells wW _ _ _ = wa; have tZ : wa.there (w4.heap.size + 1) 0 5 := (by rw [← hA]; exact World.there_setCells tY _ _ _)) | (show wpList _ _ _ (Oper.mk none (Op.store 33 (.tmp 8) (.tmp 24)) _ _ _ _ :: _) _ _; refine wpList_store_mid rfl 33 (.tmp 8) (.tmp 24) rfl (w4.heap.size + 1) 0 t.cells.toArray rfl rfl tZ infoSel (all_oneCell_toArray t.cells_one) ?_; generalize hB : World.setCells wa _ _ _ = wb))
  obtain ⟨g5, hXB⟩ := put2_new hW hA hB
  clear hW hA hB tX tY tZ
  have HB5 := Lib.hid (HB4.out.grew g5)
  have G5 := Lib.hid (G4.out.trans g5)
  have HX5 : Hid (x.Ok wb) := NT.Ok.grew HX4.out g5
  have HT5 : Hid (t.In wb 0 wb.heap.size) := HT4.out.later g5
  have HXB := Lib.hid hXB
  clear g5 hXB HB4 G4 HX4 HT4
  generalize w4.heap.size = b7 at *
  have HXE : Hid (x.er = ta) := hxe.out
  have HTE : Hid (t.er = tb) := hte.out
  clear hxe hte
  obtain ⟨HFN, HFS, HFO⟩ := fewE_parts HFE.out
  have HFN := Lib.hid HFN
  have HFS := Lib.hid HFS
  have HFO := Lib.hid HFO
  have HNB : Hid (n.er.bulk ≤ 262144) := by show _ ≤ _; have := few_bulk HFN.out; omega
  have HXX : Hid (x.er.bulk ≤ 1048576) := by
    show _ ≤ _
    rw [HXE.out]
    have := apply_bulk (s := s.er) HNB.out (fewOp_tiny HFO.out).1
    rw [HRES.out] at this
    exact this
  have RS := Lib.hid (fun w1 (g : Grew wb w1) => refSame04_any x NT.nil w1 (NT.Ok.grew HX5.out g) NT.nil_in HXX.out (by rw [nil_er]; decide))
  unfold NT.val at RS
  by_cases her : er = 0
  case neg =>
    have t1 : (er != 0) = true := by simpa using her
    have hno := apply_no (n := n.er) (s := s.er) (o := o.er) (by rw [HRES.out]; exact her)
    rw [HRES.out] at hno
    have HN1 : Hid (x.er = NT.nil.er) := by show _ = _; rw [HXE.out, nil_er]; exact hno.1
    have HN2 : Hid (t.er = SelE.nil) := by show _ = _; rw [HTE.out]; exact hno.2
    clear hno
    obtain ⟨x0, x1, x2, x3⟩ := HXB.out.x
    go_wp2_with fail
    refine (RS.out wb (Grew.refl _)).mono ?_
    rintro e w6 ⟨rfl, g6⟩
    have t2 : decide (x.er = NT.nil.er) = true := by rw [HN1.out]; simp
    go_wp2_with fail
    go_ret
    exact ⟨rfl, G5.out.trans g6⟩
  case pos =>
  subst her
  have t1 : ((0 : Int) != 0) = false := rfl
  clear RS t1
  have hok := apply_size (n := n.er) (s := s.er) (o := o.er) (by rw [HRES.out])
  rw [HRES.out] at hok
  have HSZ : Hid ((x.er.size : Int) = n.er.size + byT o.er) := by show _ = _; rw [HXE.out]; exact hok.1
  have HSAME : Hid (o.kind = 9 → x.er = n.er) := fun h => by rw [HXE.out]; exact hok.2 h
  clear hok HRES
  have k0 : wb.cell? ⟨w.heap.size + 2, 0, none⟩ = some (.int .i64 o.kind) := rangeAt_at0 HB5.out.2.2.1 (j := 0) rfl
  have SNB := Lib.hid (fun w1 (g : Grew wb w1) => SN.out w1 (G5.out.trans g) HNB.out)
  have SX := Lib.hid (fun w1 (g : Grew wb w1) => size_any x w1 (NT.Ok.grew HX5.out g) HXX.out)
  have SS := Lib.hid (fun w1 (g : Grew wb w1) => nodeSame_any x n w1 (NT.Ok.grew HX5.out g) (HF.out.grew (G5.out.trans g)).hn HXX.out (by have := HNB.out; omega))
  unfold NT.val at SX SS
  have KB0 := Lib.hid (fun w' (g : Grew wb w') => (⟨(HXB.out.grew g).x, (HB5.out.grew g).n, rangeAt_at0 (HB5.out.grew g).2.2.1 (j := 0) rfl⟩ : (w'.cell? ⟨b7, 0, none⟩ = some (.bool x.lf) ∧ w'.cell? ⟨b7, 1, none⟩ = some (.slice x.pa x.ps.length x.pc) ∧ w'.cell? ⟨b7, 2, none⟩ = some (.slice x.ta x.ts.length x.tc) ∧ w'.cell? ⟨b7, 3, none⟩ = some (.slice x.ka x.ks.length x.kc)) ∧ (w'.cell? ⟨w.heap.size, 0, none⟩ = some (.bool n.lf) ∧ w'.cell? ⟨w.heap.size, 1, none⟩ = some (.slice n.pa n.ps.length n.pc) ∧ w'.cell? ⟨w.heap.size, 2, none⟩ = some (.slice n.ta n.ts.length n.tc) ∧ w'.cell? ⟨w.heap.size, 3, none⟩ = some (.slice n.ka n.ks.length n.kc)) ∧ w'.cell? ⟨w.heap.size + 2, 0, none⟩ = some (.int .i64 o.kind)))
  have HSB : Hid (n.er.size ≤ 1048576 ∧ x.er.size ≤ 1048576 ∧ o.node.er.size ≤ 1048576 ∧ o.text.length ≤ 1048576) := ⟨Nat.le_trans n.er.size_le (by have := HNB.out; omega), Nat.le_trans x.er.size_le HXX.out, Nat.le_trans o.node.er.size_le HF.out.ob, by have := (fewOp_tiny HFO.out).1.2.2.1; have e : o.er.text.length = o.text.length := rfl; omega⟩
  by_cases hk1 : o.kind = 1
  case pos =>
    have t1 : (o.kind == 1) = true := by simpa using hk1
    have t9 : (o.kind != 9) = true := by rw [hk1]; rfl
    have t9b : (o.kind == 9) = false := by rw [hk1]; rfl
    have HBY : Hid (byT o.er = (o.node.er.size : Int)) := by show _ = _; unfold byT; simp [show o.er.kind = o.kind from rfl, hk1]; rfl
    clear hk1
    have k4 : wb.cell? ⟨w.heap.size + 2, 4, none⟩ = some (.bool o.node.lf) := rangeAt_at0 HB5.out.2.2.1 (j := 4) rfl
    have k5 : wb.cell? ⟨w.heap.size + 2, 5, none⟩ = some (.slice o.node.pa o.node.ps.length o.node.pc) := rangeAt_at0 HB5.out.2.2.1 (j := 5) rfl
    have k6 : wb.cell? ⟨w.heap.size + 2, 6, none⟩ = some (.slice o.node.ta o.node.ts.length o.node.tc) := rangeAt_at0 HB5.out.2.2.1 (j := 6) rfl
    have k7 : wb.cell? ⟨w.heap.size + 2, 7, none⟩ = some (.slice o.node.ka o.node.ks.length o.node.kc) := rangeAt_at0 HB5.out.2.2.1 (j := 7) rfl
    go_wp2_with fail
    refine (SO.out wb G5.out).mono ?_
    rintro e w6 ⟨rfl, g6⟩
    have G6 := Lib.hid g6
    clear k4 k5 k6 k7 g6
    have hbx := HSB.out
    go_upto_region 22 with fail
    have hbx := HSB.out
    have hsum : (n.er.size : Int) + ((o.node.er.size : Int)) = x.er.size := by rw [HSZ.out, HBY.out]
    have KB := fun w' (g : Grew w6 w') => KB0.out w' (G6.out.trans g)
    have g60 : Grew w6 w6.drew := (Grew.refl _).drew
    have hwr : IntKind.i64.wrap ((n.er.size : Int) + ((o.node.er.size : Int))) = x.er.size := by rw [hsum]; exact wrap_size hbx.2.1
    have te : ((x.er.size : Int) == (x.er.size : Int)) = true := by simp
    clear hbx hsum
    refine wp_region_need (Grew w6) (fun _ => true) (by kernel_rfl) ?_
    refine wpAnyN_at (i := 0) (v := .agg #[.bool x.lf, .slice x.pa x.ps.length x.pc, .slice x.ta x.ts.length x.tc, .slice x.ka x.ks.length x.kc]) (some 59) rfl rfl (by kernel_rfl) (by kernel_rfl) (by kernel_rfl) (by kernel_rfl) (fun _ _ _ h => h) (Or.inl ⟨rfl, fun w' hS => by obtain ⟨⟨q0, q1, q2, q3⟩, ⟨q4, q5, q6, q7⟩, q8⟩ := KB w' hS; go_simp⟩) g60 ?_
    refine wpAnyN_at (i := 2) (v := .agg #[.bool n.lf, .slice n.pa n.ps.length n.pc, .slice n.ta n.ts.length n.tc, .slice n.ka n.ks.length n.kc]) (some 61) rfl rfl (by kernel_rfl) (by kernel_rfl) (by kernel_rfl) (by kernel_rfl) (fun _ _ _ h => h) (Or.inl ⟨rfl, fun w' hS => by obtain ⟨⟨q0, q1, q2, q3⟩, ⟨q4, q5, q6, q7⟩, q8⟩ := KB w' hS; go_simp⟩) g60 ?_
    refine wpAnyN_at (i := 4) (v := .int .i64 ((o.node.er.size : Int))) (some 63) rfl rfl (by kernel_rfl) (by kernel_rfl) (by kernel_rfl) (by kernel_rfl) (fun _ _ _ h => h) (Or.inl ⟨rfl, fun w' hS => by go_simp⟩) g60 ?_
    refine wpAnyN_one (i := 1) (by kernel_rfl) rfl rfl ?_
    intro K' hK'
    go_wp2_with fail
    refine (SX.out w6.drew (G6.out.trans g60)).mono ?_
    rintro e wA ⟨rfl, gq⟩
    have hA : Grew w6 wA := g60.trans gq
    refine hK' _ _ ⟨fun _ => hA, ?_⟩
    clear hK' K' gq
    refine wpAnyN_one (i := 3) (by kernel_rfl) rfl rfl ?_
    intro K' hK'
    go_wp2_with fail
    refine (SNB.out wA (G6.out.trans hA)).mono ?_
    rintro e wB ⟨rfl, gq⟩
    have hB : Grew w6 wB := hA.trans gq
    refine hK' _ _ ⟨fun _ => hB, ?_⟩
    clear hK' K' gq
    refine wpAnyN_one (i := 5) (by kernel_rfl) rfl rfl ?_
    intro K' hK'
    go_wp2_with fail
    try (refine ⟨fun _ => hB, ?_⟩)
    refine wpAnyN_one (i := 6) (by kernel_rfl) rfl rfl ?_
    intro K' hK'
    go_wp2_with fail
    try (refine ⟨fun _ => hB, ?_⟩)
    refine wpAnyN_one (i := 7) (by kernel_rfl) rfl rfl ?_
    intro K' hK'
    go_wp2_with fail
    try (refine ⟨fun _ => hB, ?_⟩)
    refine wpAnyN_one (i := 8) (by kernel_rfl) rfl rfl ?_
    intro K' hK'
    go_wp2_with fail
    try (refine ⟨fun _ => hB, ?_⟩)
    have q8 := (KB wB hB).2.2
    refine wpAnyN_one (i := 9) (by kernel_rfl) rfl rfl ?_
    intro K' hK'
    go_wp2_with fail
    try (refine ⟨fun _ => hB, ?_⟩)
    refine wpAnyN_one (i := 10) (by kernel_rfl) rfl rfl ?_
    intro K' hK'
    go_wp2_with fail
    try (refine ⟨fun _ => hB, ?_⟩)
    refine wpAnyN_one (i := 11) (by kernel_rfl) rfl rfl ?_
    intro K' hK'
    go_wp2_with fail
    try (refine ⟨fun _ => hB, ?_⟩)
    refine wpAnyN_at (i := 12) (v := undef) (some 71) rfl rfl (by kernel_rfl) (by kernel_rfl) (by kernel_rfl) (by kernel_rfl) (fun _ _ _ h => h) (Or.inr ⟨rfl, rfl⟩) hB ?_
    refine wpAnyN_at (i := 13) (v := undef) (some 72) rfl rfl (by kernel_rfl) (by kernel_rfl) (by kernel_rfl) (by kernel_rfl) (fun _ _ _ h => h) (Or.inr ⟨rfl, rfl⟩) hB ?_
    refine wpAnyN_at (i := 14) (v := undef) (some 73) rfl rfl (by kernel_rfl) (by kernel_rfl) (by kernel_rfl) (by kernel_rfl) (fun _ _ _ h => h) (Or.inr ⟨rfl, rfl⟩) hB ?_
    refine wpAnyN_one (i := 15) (by kernel_rfl) rfl rfl ?_
    intro K' hK'
    go_wp2_with fail
    try (refine ⟨fun _ => hB, ?_⟩)
    refine wpAnyN_one (i := 16) (by kernel_rfl) rfl rfl ?_
    intro K' hK'
    go_wp2_with fail
    try (refine ⟨fun _ => hB, ?_⟩)
    refine wpAnyN_one (i := 17) (by kernel_rfl) rfl rfl ?_
    intro K' hK'
    go_wp2_with fail
    first | (refine ⟨fun _ => hB, ?_⟩; refine wpAnyN_done (by kernel_rfl) ?_ _) | (refine ⟨by kernel_rfl, ?_⟩)
    go_wp2_with fail
    go_ret
    exact ⟨ret_bool rfl, G5.out.trans (G6.out.trans hB)⟩
  case neg =>
  have t1 : (o.kind == 1) = false := by simpa using hk1
  by_cases hk2 : o.kind = 2
  case pos =>
    have t2 : (o.kind == 2) = true := by simpa using hk2
    have t9 : (o.kind != 9) = true := by rw [hk2]; rfl
    have t9b : (o.kind == 9) = false := by rw [hk2]; rfl
    have HBY : Hid (byT o.er = -(o.node.er.size : Int)) := by show _ = _; unfold byT; simp [show o.er.kind = o.kind from rfl, hk2]; rfl
    clear hk2
    have k4 : wb.cell? ⟨w.heap.size + 2, 4, none⟩ = some (.bool o.node.lf) := rangeAt_at0 HB5.out.2.2.1 (j := 4) rfl
    have k5 : wb.cell? ⟨w.heap.size + 2, 5, none⟩ = some (.slice o.node.pa o.node.ps.length o.node.pc) := rangeAt_at0 HB5.out.2.2.1 (j := 5) rfl
    have k6 : wb.cell? ⟨w.heap.size + 2, 6, none⟩ = some (.slice o.node.ta o.node.ts.length o.node.tc) := rangeAt_at0 HB5.out.2.2.1 (j := 6) rfl
    have k7 : wb.cell? ⟨w.heap.size + 2, 7, none⟩ = some (.slice o.node.ka o.node.ks.length o.node.kc) := rangeAt_at0 HB5.out.2.2.1 (j := 7) rfl
    go_wp2_with fail
    refine (SO.out wb G5.out).mono ?_
    rintro e w6 ⟨rfl, g6⟩
    have G6 := Lib.hid g6
    clear k4 k5 k6 k7 g6
    have hbx := HSB.out
    go_upto_region 22 with fail
    have hbx := HSB.out
    have hsum : (n.er.size : Int) + (-(o.node.er.size : Int)) = x.er.size := by rw [HSZ.out, HBY.out]
    have KB := fun w' (g : Grew w6 w') => KB0.out w' (G6.out.trans g)
    have g60 : Grew w6 w6.drew := (Grew.refl _).drew
    have hwr : IntKind.i64.wrap ((n.er.size : Int) + (-(o.node.er.size : Int))) = x.er.size := by rw [hsum]; exact wrap_size hbx.2.1
    have te : ((x.er.size : Int) == (x.er.size : Int)) = true := by simp
    clear hbx hsum
    refine wp_region_need (Grew w6) (fun _ => true) (by kernel_rfl) ?_
    refine wpAnyN_at (i := 0) (v := .agg #[.bool x.lf, .slice x.pa x.ps.length x.pc, .slice x.ta x.ts.length x.tc, .slice x.ka x.ks.length x.kc]) (some 59) rfl rfl (by kernel_rfl) (by kernel_rfl) (by kernel_rfl) (by kernel_rfl) (fun _ _ _ h => h) (Or.inl ⟨rfl, fun w' hS => by obtain ⟨⟨q0, q1, q2, q3⟩, ⟨q4, q5, q6, q7⟩, q8⟩ := KB w' hS; go_simp⟩) g60 ?_
    refine wpAnyN_at (i := 2) (v := .agg #[.bool n.lf, .slice n.pa n.ps.length n.pc, .slice n.ta n.ts.length n.tc, .slice n.ka n.ks.length n.kc]) (some 61) rfl rfl (by kernel_rfl) (by kernel_rfl) (by kernel_rfl) (by kernel_rfl) (fun _ _ _ h => h) (Or.inl ⟨rfl, fun w' hS => by obtain ⟨⟨q0, q1, q2, q3⟩, ⟨q4, q5, q6, q7⟩, q8⟩ := KB w' hS; go_simp⟩) g60 ?_
    refine wpAnyN_at (i := 4) (v := .int .i64 (-(o.node.er.size : Int))) (some 63) rfl rfl (by kernel_rfl) (by kernel_rfl) (by kernel_rfl) (by kernel_rfl) (fun _ _ _ h => h) (Or.inl ⟨rfl, fun w' hS => by go_simp⟩) g60 ?_
    refine wpAnyN_one (i := 1) (by kernel_rfl) rfl rfl ?_
    intro K' hK'
    go_wp2_with fail
    refine (SX.out w6.drew (G6.out.trans g60)).mono ?_
    rintro e wA ⟨rfl, gq⟩
    have hA : Grew w6 wA := g60.trans gq
    refine hK' _ _ ⟨fun _ => hA, ?_⟩
    clear hK' K' gq
    refine wpAnyN_one (i := 3) (by kernel_rfl) rfl rfl ?_
    intro K' hK'
    go_wp2_with fail
    refine (SNB.out wA (G6.out.trans hA)).mono ?_
    rintro e wB ⟨rfl, gq⟩
    have hB : Grew w6 wB := hA.trans gq
    refine hK' _ _ ⟨fun _ => hB, ?_⟩
    clear hK' K' gq
    refine wpAnyN_one (i := 5) (by kernel_rfl) rfl rfl ?_
    intro K' hK'
    go_wp2_with fail
    try (refine ⟨fun _ => hB, ?_⟩)
    refine wpAnyN_one (i := 6) (by kernel_rfl) rfl rfl ?_
    intro K' hK'
    go_wp2_with fail
    try (refine ⟨fun _ => hB, ?_⟩)
    refine wpAnyN_one (i := 7) (by kernel_rfl) rfl rfl ?_
    intro K' hK'
    go_wp2_with fail
    try (refine ⟨fun _ => hB, ?_⟩)
    refine wpAnyN_one (i := 8) (by kernel_rfl) rfl rfl ?_
    intro K' hK'
    go_wp2_with fail
    try (refine ⟨fun _ => hB, ?_⟩)
    have q8 := (KB wB hB).2.2
    refine wpAnyN_one (i := 9) (by kernel_rfl) rfl rfl ?_
    intro K' hK'
    go_wp2_with fail
    try (refine ⟨fun _ => hB, ?_⟩)
    refine wpAnyN_one (i := 10) (by kernel_rfl) rfl rfl ?_
    intro K' hK'
    go_wp2_with fail
    try (refine ⟨fun _ => hB, ?_⟩)
    refine wpAnyN_one (i := 11) (by kernel_rfl) rfl rfl ?_
    intro K' hK'
    go_wp2_with fail
    try (refine ⟨fun _ => hB, ?_⟩)
    refine wpAnyN_at (i := 12) (v := undef) (some 71) rfl rfl (by kernel_rfl) (by kernel_rfl) (by kernel_rfl) (by kernel_rfl) (fun _ _ _ h => h) (Or.inr ⟨rfl, rfl⟩) hB ?_
    refine wpAnyN_at (i := 13) (v := undef) (some 72) rfl rfl (by kernel_rfl) (by kernel_rfl) (by kernel_rfl) (by kernel_rfl) (fun _ _ _ h => h) (Or.inr ⟨rfl, rfl⟩) hB ?_
    refine wpAnyN_at (i := 14) (v := undef) (some 73) rfl rfl (by kernel_rfl) (by kernel_rfl) (by kernel_rfl) (by kernel_rfl) (fun _ _ _ h => h) (Or.inr ⟨rfl, rfl⟩) hB ?_
    refine wpAnyN_one (i := 15) (by kernel_rfl) rfl rfl ?_
    intro K' hK'
    go_wp2_with fail
    try (refine ⟨fun _ => hB, ?_⟩)
    refine wpAnyN_one (i := 16) (by kernel_rfl) rfl rfl ?_
    intro K' hK'
    go_wp2_with fail
    try (refine ⟨fun _ => hB, ?_⟩)
    refine wpAnyN_one (i := 17) (by kernel_rfl) rfl rfl ?_
    intro K' hK'
    go_wp2_with fail
    first | (refine ⟨fun _ => hB, ?_⟩; refine wpAnyN_done (by kernel_rfl) ?_ _) | (refine ⟨by kernel_rfl, ?_⟩)
    go_wp2_with fail
    go_ret
    exact ⟨ret_bool rfl, G5.out.trans (G6.out.trans hB)⟩
  case neg =>
  have t2 : (o.kind == 2) = false := by simpa using hk2
  by_cases hk3 : o.kind = 3
  case pos =>
    have t3 : (o.kind == 3) = true := by simpa using hk3
    have t9 : (o.kind != 9) = true := by rw [hk3]; rfl
    have t9b : (o.kind == 9) = false := by rw [hk3]; rfl
    have HBY : Hid (byT o.er = -1) := by show _ = _; unfold byT; simp [show o.er.kind = o.kind from rfl, hk3]
    clear hk3
    have hbx := HSB.out
    go_upto_region 22 with fail
    have hbx := HSB.out
    have hsum : (n.er.size : Int) + (-1) = x.er.size := by rw [HSZ.out, HBY.out]
    have KB := fun w' (g : Grew wb w') => KB0.out w' (g)
    have g60 : Grew wb wb.drew := (Grew.refl _).drew
    have hwr : IntKind.i64.wrap ((n.er.size : Int) + (-1)) = x.er.size := by rw [hsum]; exact wrap_size hbx.2.1
    have te : ((x.er.size : Int) == (x.er.size : Int)) = true := by simp
    clear hbx hsum
    refine wp_region_need (Grew wb) (fun _ => true) (by kernel_rfl) ?_
    refine wpAnyN_at (i := 0) (v := .agg #[.bool x.lf, .slice x.pa x.ps.length x.pc, .slice x.ta x.ts.length x.tc, .slice x.ka x.ks.length x.kc]) (some 59) rfl rfl (by kernel_rfl) (by kernel_rfl) (by kernel_rfl) (by kernel_rfl) (fun _ _ _ h => h) (Or.inl ⟨rfl, fun w' hS => by obtain ⟨⟨q0, q1, q2, q3⟩, ⟨q4, q5, q6, q7⟩, q8⟩ := KB w' hS; go_simp⟩) g60 ?_
    refine wpAnyN_at (i := 2) (v := .agg #[.bool n.lf, .slice n.pa n.ps.length n.pc, .slice n.ta n.ts.length n.tc, .slice n.ka n.ks.length n.kc]) (some 61) rfl rfl (by kernel_rfl) (by kernel_rfl) (by kernel_rfl) (by kernel_rfl) (fun _ _ _ h => h) (Or.inl ⟨rfl, fun w' hS => by obtain ⟨⟨q0, q1, q2, q3⟩, ⟨q4, q5, q6, q7⟩, q8⟩ := KB w' hS; go_simp⟩) g60 ?_
    refine wpAnyN_at (i := 4) (v := .int .i64 (-1)) (some 63) rfl rfl (by kernel_rfl) (by kernel_rfl) (by kernel_rfl) (by kernel_rfl) (fun _ _ _ h => h) (Or.inl ⟨rfl, fun w' hS => by go_simp⟩) g60 ?_
    refine wpAnyN_one (i := 1) (by kernel_rfl) rfl rfl ?_
    intro K' hK'
    go_wp2_with fail
    refine (SX.out wb.drew (g60)).mono ?_
    rintro e wA ⟨rfl, gq⟩
    have hA : Grew wb wA := g60.trans gq
    refine hK' _ _ ⟨fun _ => hA, ?_⟩
    clear hK' K' gq
    refine wpAnyN_one (i := 3) (by kernel_rfl) rfl rfl ?_
    intro K' hK'
    go_wp2_with fail
    refine (SNB.out wA (hA)).mono ?_
    rintro e wB ⟨rfl, gq⟩
    have hB : Grew wb wB := hA.trans gq
    refine hK' _ _ ⟨fun _ => hB, ?_⟩
    clear hK' K' gq
    refine wpAnyN_one (i := 5) (by kernel_rfl) rfl rfl ?_
    intro K' hK'
    go_wp2_with fail
    try (refine ⟨fun _ => hB, ?_⟩)
    refine wpAnyN_one (i := 6) (by kernel_rfl) rfl rfl ?_
    intro K' hK'
    go_wp2_with fail
    try (refine ⟨fun _ => hB, ?_⟩)
    refine wpAnyN_one (i := 7) (by kernel_rfl) rfl rfl ?_
    intro K' hK'
    go_wp2_with fail
    try (refine ⟨fun _ => hB, ?_⟩)
    refine wpAnyN_one (i := 8) (by kernel_rfl) rfl rfl ?_
    intro K' hK'
    go_wp2_with fail
    try (refine ⟨fun _ => hB, ?_⟩)
    have q8 := (KB wB hB).2.2
    refine wpAnyN_one (i := 9) (by kernel_rfl) rfl rfl ?_
    intro K' hK'
    go_wp2_with fail
    try (refine ⟨fun _ => hB, ?_⟩)
    refine wpAnyN_one (i := 10) (by kernel_rfl) rfl rfl ?_
    intro K' hK'
    go_wp2_with fail
    try (refine ⟨fun _ => hB, ?_⟩)
    refine wpAnyN_one (i := 11) (by kernel_rfl) rfl rfl ?_
    intro K' hK'
    go_wp2_with fail
    try (refine ⟨fun _ => hB, ?_⟩)
    refine wpAnyN_at (i := 12) (v := undef) (some 71) rfl rfl (by kernel_rfl) (by kernel_rfl) (by kernel_rfl) (by kernel_rfl) (fun _ _ _ h => h) (Or.inr ⟨rfl, rfl⟩) hB ?_
    refine wpAnyN_at (i := 13) (v := undef) (some 72) rfl rfl (by kernel_rfl) (by kernel_rfl) (by kernel_rfl) (by kernel_rfl) (fun _ _ _ h => h) (Or.inr ⟨rfl, rfl⟩) hB ?_
    refine wpAnyN_at (i := 14) (v := undef) (some 73) rfl rfl (by kernel_rfl) (by kernel_rfl) (by kernel_rfl) (by kernel_rfl) (fun _ _ _ h => h) (Or.inr ⟨rfl, rfl⟩) hB ?_
    refine wpAnyN_one (i := 15) (by kernel_rfl) rfl rfl ?_
    intro K' hK'
    go_wp2_with fail
    try (refine ⟨fun _ => hB, ?_⟩)
    refine wpAnyN_one (i := 16) (by kernel_rfl) rfl rfl ?_
    intro K' hK'
    go_wp2_with fail
    try (refine ⟨fun _ => hB, ?_⟩)
    refine wpAnyN_one (i := 17) (by kernel_rfl) rfl rfl ?_
    intro K' hK'
    go_wp2_with fail
    first | (refine ⟨fun _ => hB, ?_⟩; refine wpAnyN_done (by kernel_rfl) ?_ _) | (refine ⟨by kernel_rfl, ?_⟩)
    go_wp2_with fail
    go_ret
    exact ⟨ret_bool rfl, G5.out.trans (hB)⟩
  case neg =>
  have t3 : (o.kind == 3) = false := by simpa using hk3
  by_cases hk4 : o.kind = 4
  case pos =>
    have t4 : (o.kind == 4) = true := by simpa using hk4
    have t9 : (o.kind != 9) = true := by rw [hk4]; rfl
    have t9b : (o.kind == 9) = false := by rw [hk4]; rfl
    have HBY : Hid (byT o.er = 1) := by show _ = _; unfold byT; simp [show o.er.kind = o.kind from rfl, hk4]
    clear hk4
    have hbx := HSB.out
    go_upto_region 22 with fail
    have hbx := HSB.out
    have hsum : (n.er.size : Int) + (1) = x.er.size := by rw [HSZ.out, HBY.out]
    have KB := fun w' (g : Grew wb w') => KB0.out w' (g)
    have g60 : Grew wb wb.drew := (Grew.refl _).drew
    have hwr : IntKind.i64.wrap ((n.er.size : Int) + (1)) = x.er.size := by rw [hsum]; exact wrap_size hbx.2.1
    have te : ((x.er.size : Int) == (x.er.size : Int)) = true := by simp
    clear hbx hsum
    refine wp_region_need (Grew wb) (fun _ => true) (by kernel_rfl) ?_
    refine wpAnyN_at (i := 0) (v := .agg #[.bool x.lf, .slice x.pa x.ps.length x.pc, .slice x.ta x.ts.length x.tc, .slice x.ka x.ks.length x.kc]) (some 59) rfl rfl (by kernel_rfl) (by kernel_rfl) (by kernel_rfl) (by kernel_rfl) (fun _ _ _ h => h) (Or.inl ⟨rfl, fun w' hS => by obtain ⟨⟨q0, q1, q2, q3⟩, ⟨q4, q5, q6, q7⟩, q8⟩ := KB w' hS; go_simp⟩) g60 ?_
    refine wpAnyN_at (i := 2) (v := .agg #[.bool n.lf, .slice n.pa n.ps.length n.pc, .slice n.ta n.ts.length n.tc, .slice n.ka n.ks.length n.kc]) (some 61) rfl rfl (by kernel_rfl) (by kernel_rfl) (by kernel_rfl) (by kernel_rfl) (fun _ _ _ h => h) (Or.inl ⟨rfl, fun w' hS => by obtain ⟨⟨q0, q1, q2, q3⟩, ⟨q4, q5, q6, q7⟩, q8⟩ := KB w' hS; go_simp⟩) g60 ?_
    refine wpAnyN_at (i := 4) (v := .int .i64 (1)) (some 63) rfl rfl (by kernel_rfl) (by kernel_rfl) (by kernel_rfl) (by kernel_rfl) (fun _ _ _ h => h) (Or.inl ⟨rfl, fun w' hS => by go_simp⟩) g60 ?_
    refine wpAnyN_one (i := 1) (by kernel_rfl) rfl rfl ?_
    intro K' hK'
    go_wp2_with fail
    refine (SX.out wb.drew (g60)).mono ?_
    rintro e wA ⟨rfl, gq⟩
    have hA : Grew wb wA := g60.trans gq
    refine hK' _ _ ⟨fun _ => hA, ?_⟩
    clear hK' K' gq
    refine wpAnyN_one (i := 3) (by kernel_rfl) rfl rfl ?_
    intro K' hK'
    go_wp2_with fail
    refine (SNB.out wA (hA)).mono ?_
    rintro e wB ⟨rfl, gq⟩
    have hB : Grew wb wB := hA.trans gq
    refine hK' _ _ ⟨fun _ => hB, ?_⟩
    clear hK' K' gq
    refine wpAnyN_one (i := 5) (by kernel_rfl) rfl rfl ?_
    intro K' hK'
    go_wp2_with fail
    try (refine ⟨fun _ => hB, ?_⟩)
    refine wpAnyN_one (i := 6) (by kernel_rfl) rfl rfl ?_
    intro K' hK'
    go_wp2_with fail
    try (refine ⟨fun _ => hB, ?_⟩)
    refine wpAnyN_one (i := 7) (by kernel_rfl) rfl rfl ?_
    intro K' hK'
    go_wp2_with fail
    try (refine ⟨fun _ => hB, ?_⟩)
    refine wpAnyN_one (i := 8) (by kernel_rfl) rfl rfl ?_
    intro K' hK'
    go_wp2_with fail
    try (refine ⟨fun _ => hB, ?_⟩)
    have q8 := (KB wB hB).2.2
    refine wpAnyN_one (i := 9) (by kernel_rfl) rfl rfl ?_
    intro K' hK'
    go_wp2_with fail
    try (refine ⟨fun _ => hB, ?_⟩)
    refine wpAnyN_one (i := 10) (by kernel_rfl) rfl rfl ?_
    intro K' hK'
    go_wp2_with fail
    try (refine ⟨fun _ => hB, ?_⟩)
    refine wpAnyN_one (i := 11) (by kernel_rfl) rfl rfl ?_
    intro K' hK'
    go_wp2_with fail
    try (refine ⟨fun _ => hB, ?_⟩)
    refine wpAnyN_at (i := 12) (v := undef) (some 71) rfl rfl (by kernel_rfl) (by kernel_rfl) (by kernel_rfl) (by kernel_rfl) (fun _ _ _ h => h) (Or.inr ⟨rfl, rfl⟩) hB ?_
    refine wpAnyN_at (i := 13) (v := undef) (some 72) rfl rfl (by kernel_rfl) (by kernel_rfl) (by kernel_rfl) (by kernel_rfl) (fun _ _ _ h => h) (Or.inr ⟨rfl, rfl⟩) hB ?_
    refine wpAnyN_at (i := 14) (v := undef) (some 73) rfl rfl (by kernel_rfl) (by kernel_rfl) (by kernel_rfl) (by kernel_rfl) (fun _ _ _ h => h) (Or.inr ⟨rfl, rfl⟩) hB ?_
    refine wpAnyN_one (i := 15) (by kernel_rfl) rfl rfl ?_
    intro K' hK'
    go_wp2_with fail
    try (refine ⟨fun _ => hB, ?_⟩)
    refine wpAnyN_one (i := 16) (by kernel_rfl) rfl rfl ?_
    intro K' hK'
    go_wp2_with fail
    try (refine ⟨fun _ => hB, ?_⟩)
    refine wpAnyN_one (i := 17) (by kernel_rfl) rfl rfl ?_
    intro K' hK'
    go_wp2_with fail
    first | (refine ⟨fun _ => hB, ?_⟩; refine wpAnyN_done (by kernel_rfl) ?_ _) | (refine ⟨by kernel_rfl, ?_⟩)
    go_wp2_with fail
    go_ret
    exact ⟨ret_bool rfl, G5.out.trans (hB)⟩
  case neg =>
  have t4 : (o.kind == 4) = false := by simpa using hk4
  by_cases hk7 : o.kind = 7
  case pos =>
    have t7 : (o.kind == 7) = true := by simpa using hk7
    have t9 : (o.kind != 9) = true := by rw [hk7]; rfl
    have t9b : (o.kind == 9) = false := by rw [hk7]; rfl
    have HBY : Hid (byT o.er = (o.text.length : Int)) := by show _ = _; unfold byT; simp [show o.er.kind = o.kind from rfl, hk7]; rfl
    clear hk7
    have k10 : wb.cell? ⟨w.heap.size + 2, 10, none⟩ = some (.slice o.xa o.text.length o.xc) := rangeAt_at0 HB5.out.2.2.1 (j := 10) rfl
    have hbx := HSB.out
    go_upto_region 22 with fail
    have hbx := HSB.out
    have hsum : (n.er.size : Int) + ((o.text.length : Int)) = x.er.size := by rw [HSZ.out, HBY.out]
    have KB := fun w' (g : Grew wb w') => KB0.out w' (g)
    have g60 : Grew wb wb.drew := (Grew.refl _).drew
    have hwr : IntKind.i64.wrap ((n.er.size : Int) + ((o.text.length : Int))) = x.er.size := by rw [hsum]; exact wrap_size hbx.2.1
    have te : ((x.er.size : Int) == (x.er.size : Int)) = true := by simp
    clear hbx hsum
    refine wp_region_need (Grew wb) (fun _ => true) (by kernel_rfl) ?_
    refine wpAnyN_at (i := 0) (v := .agg #[.bool x.lf, .slice x.pa x.ps.length x.pc, .slice x.ta x.ts.length x.tc, .slice x.ka x.ks.length x.kc]) (some 59) rfl rfl (by kernel_rfl) (by kernel_rfl) (by kernel_rfl) (by kernel_rfl) (fun _ _ _ h => h) (Or.inl ⟨rfl, fun w' hS => by obtain ⟨⟨q0, q1, q2, q3⟩, ⟨q4, q5, q6, q7⟩, q8⟩ := KB w' hS; go_simp⟩) g60 ?_
    refine wpAnyN_at (i := 2) (v := .agg #[.bool n.lf, .slice n.pa n.ps.length n.pc, .slice n.ta n.ts.length n.tc, .slice n.ka n.ks.length n.kc]) (some 61) rfl rfl (by kernel_rfl) (by kernel_rfl) (by kernel_rfl) (by kernel_rfl) (fun _ _ _ h => h) (Or.inl ⟨rfl, fun w' hS => by obtain ⟨⟨q0, q1, q2, q3⟩, ⟨q4, q5, q6, q7⟩, q8⟩ := KB w' hS; go_simp⟩) g60 ?_
    refine wpAnyN_at (i := 4) (v := .int .i64 ((o.text.length : Int))) (some 63) rfl rfl (by kernel_rfl) (by kernel_rfl) (by kernel_rfl) (by kernel_rfl) (fun _ _ _ h => h) (Or.inl ⟨rfl, fun w' hS => by go_simp⟩) g60 ?_
    refine wpAnyN_one (i := 1) (by kernel_rfl) rfl rfl ?_
    intro K' hK'
    go_wp2_with fail
    refine (SX.out wb.drew (g60)).mono ?_
    rintro e wA ⟨rfl, gq⟩
    have hA : Grew wb wA := g60.trans gq
    refine hK' _ _ ⟨fun _ => hA, ?_⟩
    clear hK' K' gq
    refine wpAnyN_one (i := 3) (by kernel_rfl) rfl rfl ?_
    intro K' hK'
    go_wp2_with fail
    refine (SNB.out wA (hA)).mono ?_
    rintro e wB ⟨rfl, gq⟩
    have hB : Grew wb wB := hA.trans gq
    refine hK' _ _ ⟨fun _ => hB, ?_⟩
    clear hK' K' gq
    refine wpAnyN_one (i := 5) (by kernel_rfl) rfl rfl ?_
    intro K' hK'
    go_wp2_with fail
    try (refine ⟨fun _ => hB, ?_⟩)
    refine wpAnyN_one (i := 6) (by kernel_rfl) rfl rfl ?_
    intro K' hK'
    go_wp2_with fail
    try (refine ⟨fun _ => hB, ?_⟩)
    refine wpAnyN_one (i := 7) (by kernel_rfl) rfl rfl ?_
    intro K' hK'
    go_wp2_with fail
    try (refine ⟨fun _ => hB, ?_⟩)
    refine wpAnyN_one (i := 8) (by kernel_rfl) rfl rfl ?_
    intro K' hK'
    go_wp2_with fail
    try (refine ⟨fun _ => hB, ?_⟩)
    have q8 := (KB wB hB).2.2
    refine wpAnyN_one (i := 9) (by kernel_rfl) rfl rfl ?_
    intro K' hK'
    go_wp2_with fail
    try (refine ⟨fun _ => hB, ?_⟩)
    refine wpAnyN_one (i := 10) (by kernel_rfl) rfl rfl ?_
    intro K' hK'
    go_wp2_with fail
    try (refine ⟨fun _ => hB, ?_⟩)
    refine wpAnyN_one (i := 11) (by kernel_rfl) rfl rfl ?_
    intro K' hK'
    go_wp2_with fail
    try (refine ⟨fun _ => hB, ?_⟩)
    refine wpAnyN_at (i := 12) (v := undef) (some 71) rfl rfl (by kernel_rfl) (by kernel_rfl) (by kernel_rfl) (by kernel_rfl) (fun _ _ _ h => h) (Or.inr ⟨rfl, rfl⟩) hB ?_
    refine wpAnyN_at (i := 13) (v := undef) (some 72) rfl rfl (by kernel_rfl) (by kernel_rfl) (by kernel_rfl) (by kernel_rfl) (fun _ _ _ h => h) (Or.inr ⟨rfl, rfl⟩) hB ?_
    refine wpAnyN_at (i := 14) (v := undef) (some 73) rfl rfl (by kernel_rfl) (by kernel_rfl) (by kernel_rfl) (by kernel_rfl) (fun _ _ _ h => h) (Or.inr ⟨rfl, rfl⟩) hB ?_
    refine wpAnyN_one (i := 15) (by kernel_rfl) rfl rfl ?_
    intro K' hK'
    go_wp2_with fail
    try (refine ⟨fun _ => hB, ?_⟩)
    refine wpAnyN_one (i := 16) (by kernel_rfl) rfl rfl ?_
    intro K' hK'
    go_wp2_with fail
    try (refine ⟨fun _ => hB, ?_⟩)
    refine wpAnyN_one (i := 17) (by kernel_rfl) rfl rfl ?_
    intro K' hK'
    go_wp2_with fail
    first | (refine ⟨fun _ => hB, ?_⟩; refine wpAnyN_done (by kernel_rfl) ?_ _) | (refine ⟨by kernel_rfl, ?_⟩)
    go_wp2_with fail
    go_ret
    exact ⟨ret_bool rfl, G5.out.trans (hB)⟩
  case neg =>
  have t7 : (o.kind == 7) = false := by simpa using hk7
  by_cases hk8 : o.kind = 8
  case pos =>
    have t8 : (o.kind == 8) = true := by simpa using hk8
    have t9 : (o.kind != 9) = true := by rw [hk8]; rfl
    have t9b : (o.kind == 9) = false := by rw [hk8]; rfl
    have HBY : Hid (byT o.er = -(o.text.length : Int)) := by show _ = _; unfold byT; simp [show o.er.kind = o.kind from rfl, hk8]; rfl
    clear hk8
    have k10 : wb.cell? ⟨w.heap.size + 2, 10, none⟩ = some (.slice o.xa o.text.length o.xc) := rangeAt_at0 HB5.out.2.2.1 (j := 10) rfl
    have hbx := HSB.out
    go_upto_region 22 with fail
    have hbx := HSB.out
    have hsum : (n.er.size : Int) + (-(o.text.length : Int)) = x.er.size := by rw [HSZ.out, HBY.out]
    have KB := fun w' (g : Grew wb w') => KB0.out w' (g)
    have g60 : Grew wb wb.drew := (Grew.refl _).drew
    have hwr : IntKind.i64.wrap ((n.er.size : Int) + (-(o.text.length : Int))) = x.er.size := by rw [hsum]; exact wrap_size hbx.2.1
    have te : ((x.er.size : Int) == (x.er.size : Int)) = true := by simp
    clear hbx hsum
    refine wp_region_need (Grew wb) (fun _ => true) (by kernel_rfl) ?_
    refine wpAnyN_at (i := 0) (v := .agg #[.bool x.lf, .slice x.pa x.ps.length x.pc, .slice x.ta x.ts.length x.tc, .slice x.ka x.ks.length x.kc]) (some 59) rfl rfl (by kernel_rfl) (by kernel_rfl) (by kernel_rfl) (by kernel_rfl) (fun _ _ _ h => h) (Or.inl ⟨rfl, fun w' hS => by obtain ⟨⟨q0, q1, q2, q3⟩, ⟨q4, q5, q6, q7⟩, q8⟩ := KB w' hS; go_simp⟩) g60 ?_
    refine wpAnyN_at (i := 2) (v := .agg #[.bool n.lf, .slice n.pa n.ps.length n.pc, .slice n.ta n.ts.length n.tc, .slice n.ka n.ks.length n.kc]) (some 61) rfl rfl (by kernel_rfl) (by kernel_rfl) (by kernel_rfl) (by kernel_rfl) (fun _ _ _ h => h) (Or.inl ⟨rfl, fun w' hS => by obtain ⟨⟨q0, q1, q2, q3⟩, ⟨q4, q5, q6, q7⟩, q8⟩ := KB w' hS; go_simp⟩) g60 ?_
    refine wpAnyN_at (i := 4) (v := .int .i64 (-(o.text.length : Int))) (some 63) rfl rfl (by kernel_rfl) (by kernel_rfl) (by kernel_rfl) (by kernel_rfl) (fun _ _ _ h => h) (Or.inl ⟨rfl, fun w' hS => by go_simp⟩) g60 ?_
    refine wpAnyN_one (i := 1) (by kernel_rfl) rfl rfl ?_
    intro K' hK'
    go_wp2_with fail
    refine (SX.out wb.drew (g60)).mono ?_
    rintro e wA ⟨rfl, gq⟩
    have hA : Grew wb wA := g60.trans gq
    refine hK' _ _ ⟨fun _ => hA, ?_⟩
    clear hK' K' gq
    refine wpAnyN_one (i := 3) (by kernel_rfl) rfl rfl ?_
    intro K' hK'
    go_wp2_with fail
    refine (SNB.out wA (hA)).mono ?_
    rintro e wB ⟨rfl, gq⟩
    have hB : Grew wb wB := hA.trans gq
    refine hK' _ _ ⟨fun _ => hB, ?_⟩
    clear hK' K' gq
    refine wpAnyN_one (i := 5) (by kernel_rfl) rfl rfl ?_
    intro K' hK'
    go_wp2_with fail
    try (refine ⟨fun _ => hB, ?_⟩)
    refine wpAnyN_one (i := 6) (by kernel_rfl) rfl rfl ?_
    intro K' hK'
    go_wp2_with fail
    try (refine ⟨fun _ => hB, ?_⟩)
    refine wpAnyN_one (i := 7) (by kernel_rfl) rfl rfl ?_
    intro K' hK'
    go_wp2_with fail
    try (refine ⟨fun _ => hB, ?_⟩)
    refine wpAnyN_one (i := 8) (by kernel_rfl) rfl rfl ?_
    intro K' hK'
    go_wp2_with fail
    try (refine ⟨fun _ => hB, ?_⟩)
    have q8 := (KB wB hB).2.2
    refine wpAnyN_one (i := 9) (by kernel_rfl) rfl rfl ?_
    intro K' hK'
    go_wp2_with fail
    try (refine ⟨fun _ => hB, ?_⟩)
    refine wpAnyN_one (i := 10) (by kernel_rfl) rfl rfl ?_
    intro K' hK'
    go_wp2_with fail
    try (refine ⟨fun _ => hB, ?_⟩)
    refine wpAnyN_one (i := 11) (by kernel_rfl) rfl rfl ?_
    intro K' hK'
    go_wp2_with fail
    try (refine ⟨fun _ => hB, ?_⟩)
    refine wpAnyN_at (i := 12) (v := undef) (some 71) rfl rfl (by kernel_rfl) (by kernel_rfl) (by kernel_rfl) (by kernel_rfl) (fun _ _ _ h => h) (Or.inr ⟨rfl, rfl⟩) hB ?_
    refine wpAnyN_at (i := 13) (v := undef) (some 72) rfl rfl (by kernel_rfl) (by kernel_rfl) (by kernel_rfl) (by kernel_rfl) (fun _ _ _ h => h) (Or.inr ⟨rfl, rfl⟩) hB ?_
    refine wpAnyN_at (i := 14) (v := undef) (some 73) rfl rfl (by kernel_rfl) (by kernel_rfl) (by kernel_rfl) (by kernel_rfl) (fun _ _ _ h => h) (Or.inr ⟨rfl, rfl⟩) hB ?_
    refine wpAnyN_one (i := 15) (by kernel_rfl) rfl rfl ?_
    intro K' hK'
    go_wp2_with fail
    try (refine ⟨fun _ => hB, ?_⟩)
    refine wpAnyN_one (i := 16) (by kernel_rfl) rfl rfl ?_
    intro K' hK'
    go_wp2_with fail
    try (refine ⟨fun _ => hB, ?_⟩)
    refine wpAnyN_one (i := 17) (by kernel_rfl) rfl rfl ?_
    intro K' hK'
    go_wp2_with fail
    first | (refine ⟨fun _ => hB, ?_⟩; refine wpAnyN_done (by kernel_rfl) ?_ _) | (refine ⟨by kernel_rfl, ?_⟩)
    go_wp2_with fail
    go_ret
    exact ⟨ret_bool rfl, G5.out.trans (hB)⟩
  case neg =>
  have t8 : (o.kind == 8) = false := by simpa using hk8
  have HBY : Hid (byT o.er = 0) := by show _ = _; unfold byT; simp [show o.er.kind = o.kind from rfl, hk1, hk2, hk3, hk4, hk7, hk8]
  by_cases hk9 : o.kind = 9
  case pos =>
    have t9 : (o.kind != 9) = false := by rw [hk9]; rfl
    have t9b : (o.kind == 9) = true := by rw [hk9]; rfl
    have HSS : Hid (decide (x.er = n.er) = true) := decide_eq_true (HSAME.out hk9)
    clear hk9
    go_upto_region 22 with fail
    have hbx := HSB.out
    have hsum : (n.er.size : Int) + (0) = x.er.size := by rw [HSZ.out, HBY.out]
    have KB := fun w' (g : Grew wb w') => KB0.out w' (g)
    have g60 : Grew wb wb.drew := (Grew.refl _).drew
    have hwr : IntKind.i64.wrap ((n.er.size : Int) + (0)) = x.er.size := by rw [hsum]; exact wrap_size hbx.2.1
    have hwr0 : IntKind.i64.wrap (n.er.size : Int) = x.er.size := by rw [← hwr, Int.add_zero]
    have te : ((x.er.size : Int) == (x.er.size : Int)) = true := by simp
    clear hbx hsum
    refine wp_region_need (Grew wb) (fun _ => true) (by kernel_rfl) ?_
    refine wpAnyN_at (i := 0) (v := .agg #[.bool x.lf, .slice x.pa x.ps.length x.pc, .slice x.ta x.ts.length x.tc, .slice x.ka x.ks.length x.kc]) (some 59) rfl rfl (by kernel_rfl) (by kernel_rfl) (by kernel_rfl) (by kernel_rfl) (fun _ _ _ h => h) (Or.inl ⟨rfl, fun w' hS => by obtain ⟨⟨q0, q1, q2, q3⟩, ⟨q4, q5, q6, q7⟩, q8⟩ := KB w' hS; go_simp⟩) g60 ?_
    refine wpAnyN_at (i := 2) (v := .agg #[.bool n.lf, .slice n.pa n.ps.length n.pc, .slice n.ta n.ts.length n.tc, .slice n.ka n.ks.length n.kc]) (some 61) rfl rfl (by kernel_rfl) (by kernel_rfl) (by kernel_rfl) (by kernel_rfl) (fun _ _ _ h => h) (Or.inl ⟨rfl, fun w' hS => by obtain ⟨⟨q0, q1, q2, q3⟩, ⟨q4, q5, q6, q7⟩, q8⟩ := KB w' hS; go_simp⟩) g60 ?_
    refine wpAnyN_at (i := 4) (v := .int .i64 (0)) (some 63) rfl rfl (by kernel_rfl) (by kernel_rfl) (by kernel_rfl) (by kernel_rfl) (fun _ _ _ h => h) (Or.inl ⟨rfl, fun w' hS => by go_simp⟩) g60 ?_
    refine wpAnyN_one (i := 1) (by kernel_rfl) rfl rfl ?_
    intro K' hK'
    go_wp2_with fail
    refine (SX.out wb.drew (g60)).mono ?_
    rintro e wA ⟨rfl, gq⟩
    have hA : Grew wb wA := g60.trans gq
    refine hK' _ _ ⟨fun _ => hA, ?_⟩
    clear hK' K' gq
    refine wpAnyN_one (i := 3) (by kernel_rfl) rfl rfl ?_
    intro K' hK'
    go_wp2_with fail
    refine (SNB.out wA (hA)).mono ?_
    rintro e wB ⟨rfl, gq⟩
    have hB : Grew wb wB := hA.trans gq
    refine hK' _ _ ⟨fun _ => hB, ?_⟩
    clear hK' K' gq
    refine wpAnyN_one (i := 5) (by kernel_rfl) rfl rfl ?_
    intro K' hK'
    go_wp2_with fail
    try (refine ⟨fun _ => hB, ?_⟩)
    refine wpAnyN_one (i := 6) (by kernel_rfl) rfl rfl ?_
    intro K' hK'
    go_wp2_with fail
    try (refine ⟨fun _ => hB, ?_⟩)
    refine wpAnyN_one (i := 7) (by kernel_rfl) rfl rfl ?_
    intro K' hK'
    go_wp2_with fail
    try (refine ⟨fun _ => hB, ?_⟩)
    refine wpAnyN_one (i := 8) (by kernel_rfl) rfl rfl ?_
    intro K' hK'
    go_wp2_with fail
    try (refine ⟨fun _ => hB, ?_⟩)
    have q8 := (KB wB hB).2.2
    refine wpAnyN_one (i := 9) (by kernel_rfl) rfl rfl ?_
    intro K' hK'
    go_wp2_with fail
    try (refine ⟨fun _ => hB, ?_⟩)
    refine wpAnyN_one (i := 10) (by kernel_rfl) rfl rfl ?_
    intro K' hK'
    go_wp2_with fail
    try (refine ⟨fun _ => hB, ?_⟩)
    refine wpAnyN_one (i := 11) (by kernel_rfl) rfl rfl ?_
    intro K' hK'
    go_wp2_with fail
    try (refine ⟨fun _ => hB, ?_⟩)
    refine wpAnyN_at (i := 12) (v := .agg #[.bool x.lf, .slice x.pa x.ps.length x.pc, .slice x.ta x.ts.length x.tc, .slice x.ka x.ks.length x.kc]) (some 71) rfl rfl (by kernel_rfl) (by kernel_rfl) (by kernel_rfl) (by kernel_rfl) (fun _ _ _ h => h) (Or.inl ⟨rfl, fun w' hS => by obtain ⟨⟨q0, q1, q2, q3⟩, ⟨q4, q5, q6, q7⟩, q8⟩ := KB w' hS; go_simp⟩) hB ?_
    refine wpAnyN_at (i := 13) (v := .agg #[.bool n.lf, .slice n.pa n.ps.length n.pc, .slice n.ta n.ts.length n.tc, .slice n.ka n.ks.length n.kc]) (some 72) rfl rfl (by kernel_rfl) (by kernel_rfl) (by kernel_rfl) (by kernel_rfl) (fun _ _ _ h => h) (Or.inl ⟨rfl, fun w' hS => by obtain ⟨⟨q0, q1, q2, q3⟩, ⟨q4, q5, q6, q7⟩, q8⟩ := KB w' hS; go_simp⟩) hB ?_
    refine wpAnyN_one (i := 14) (by kernel_rfl) rfl rfl ?_
    intro K' hK'
    go_wp2_with fail
    refine (SS.out wB hB).mono ?_
    rintro e wC ⟨rfl, gq⟩
    have hC : Grew wb wC := hB.trans gq
    refine hK' _ _ ⟨fun _ => hC, ?_⟩
    clear hK' K' gq
    have t10 : decide (x.er = n.er) = true := HSS.out
    refine wpAnyN_one (i := 15) (by kernel_rfl) rfl rfl ?_
    intro K' hK'
    go_wp2_with fail
    try (refine ⟨fun _ => hC, ?_⟩)
    refine wpAnyN_one (i := 16) (by kernel_rfl) rfl rfl ?_
    intro K' hK'
    go_wp2_with fail
    try (refine ⟨fun _ => hC, ?_⟩)
    refine wpAnyN_one (i := 17) (by kernel_rfl) rfl rfl ?_
    intro K' hK'
    go_wp2_with fail
    first | (refine ⟨fun _ => hC, ?_⟩; refine wpAnyN_done (by kernel_rfl) ?_ _) | (refine ⟨by kernel_rfl, ?_⟩)
    go_wp2_with fail
    go_ret
    exact ⟨ret_bool rfl, G5.out.trans (hC)⟩
  case neg =>
  have t9 : (o.kind != 9) = true := by simpa using hk9
  have t9b : (o.kind == 9) = false := by simpa using hk9
  clear hk9
  go_upto_region 22 with fail
  have hbx := HSB.out
  have hsum : (n.er.size : Int) + (0) = x.er.size := by rw [HSZ.out, HBY.out]
  have KB := fun w' (g : Grew wb w') => KB0.out w' (g)
  have g60 : Grew wb wb.drew := (Grew.refl _).drew
  have hwr : IntKind.i64.wrap ((n.er.size : Int) + (0)) = x.er.size := by rw [hsum]; exact wrap_size hbx.2.1
  have hwr0 : IntKind.i64.wrap (n.er.size : Int) = x.er.size := by rw [← hwr, Int.add_zero]
  have te : ((x.er.size : Int) == (x.er.size : Int)) = true := by simp
  clear hbx hsum
  refine wp_region_need (Grew wb) (fun _ => true) (by kernel_rfl) ?_
  refine wpAnyN_at (i := 0) (v := .agg #[.bool x.lf, .slice x.pa x.ps.length x.pc, .slice x.ta x.ts.length x.tc, .slice x.ka x.ks.length x.kc]) (some 59) rfl rfl (by kernel_rfl) (by kernel_rfl) (by kernel_rfl) (by kernel_rfl) (fun _ _ _ h => h) (Or.inl ⟨rfl, fun w' hS => by obtain ⟨⟨q0, q1, q2, q3⟩, ⟨q4, q5, q6, q7⟩, q8⟩ := KB w' hS; go_simp⟩) g60 ?_
  refine wpAnyN_at (i := 2) (v := .agg #[.bool n.lf, .slice n.pa n.ps.length n.pc, .slice n.ta n.ts.length n.tc, .slice n.ka n.ks.length n.kc]) (some 61) rfl rfl (by kernel_rfl) (by kernel_rfl) (by kernel_rfl) (by kernel_rfl) (fun _ _ _ h => h) (Or.inl ⟨rfl, fun w' hS => by obtain ⟨⟨q0, q1, q2, q3⟩, ⟨q4, q5, q6, q7⟩, q8⟩ := KB w' hS; go_simp⟩) g60 ?_
  refine wpAnyN_at (i := 4) (v := .int .i64 (0)) (some 63) rfl rfl (by kernel_rfl) (by kernel_rfl) (by kernel_rfl) (by kernel_rfl) (fun _ _ _ h => h) (Or.inl ⟨rfl, fun w' hS => by go_simp⟩) g60 ?_
  refine wpAnyN_one (i := 1) (by kernel_rfl) rfl rfl ?_
  intro K' hK'
  go_wp2_with fail
  refine (SX.out wb.drew (g60)).mono ?_
  rintro e wA ⟨rfl, gq⟩
  have hA : Grew wb wA := g60.trans gq
  refine hK' _ _ ⟨fun _ => hA, ?_⟩
  clear hK' K' gq
  refine wpAnyN_one (i := 3) (by kernel_rfl) rfl rfl ?_
  intro K' hK'
  go_wp2_with fail
  refine (SNB.out wA (hA)).mono ?_
  rintro e wB ⟨rfl, gq⟩
  have hB : Grew wb wB := hA.trans gq
  refine hK' _ _ ⟨fun _ => hB, ?_⟩
  clear hK' K' gq
  refine wpAnyN_one (i := 5) (by kernel_rfl) rfl rfl ?_
  intro K' hK'
  go_wp2_with fail
  try (refine ⟨fun _ => hB, ?_⟩)
  refine wpAnyN_one (i := 6) (by kernel_rfl) rfl rfl ?_
  intro K' hK'
  go_wp2_with fail
  try (refine ⟨fun _ => hB, ?_⟩)
  refine wpAnyN_one (i := 7) (by kernel_rfl) rfl rfl ?_
  intro K' hK'
  go_wp2_with fail
  try (refine ⟨fun _ => hB, ?_⟩)
  refine wpAnyN_one (i := 8) (by kernel_rfl) rfl rfl ?_
  intro K' hK'
  go_wp2_with fail
  try (refine ⟨fun _ => hB, ?_⟩)
  have q8 := (KB wB hB).2.2
  refine wpAnyN_one (i := 9) (by kernel_rfl) rfl rfl ?_
  intro K' hK'
  go_wp2_with fail
  try (refine ⟨fun _ => hB, ?_⟩)
  refine wpAnyN_one (i := 10) (by kernel_rfl) rfl rfl ?_
  intro K' hK'
  go_wp2_with fail
  try (refine ⟨fun _ => hB, ?_⟩)
  refine wpAnyN_one (i := 11) (by kernel_rfl) rfl rfl ?_
  intro K' hK'
  go_wp2_with fail
  try (refine ⟨fun _ => hB, ?_⟩)
  refine wpAnyN_at (i := 12) (v := undef) (some 71) rfl rfl (by kernel_rfl) (by kernel_rfl) (by kernel_rfl) (by kernel_rfl) (fun _ _ _ h => h) (Or.inr ⟨rfl, rfl⟩) hB ?_
  refine wpAnyN_at (i := 13) (v := undef) (some 72) rfl rfl (by kernel_rfl) (by kernel_rfl) (by kernel_rfl) (by kernel_rfl) (fun _ _ _ h => h) (Or.inr ⟨rfl, rfl⟩) hB ?_
  refine wpAnyN_at (i := 14) (v := undef) (some 73) rfl rfl (by kernel_rfl) (by kernel_rfl) (by kernel_rfl) (by kernel_rfl) (fun _ _ _ h => h) (Or.inr ⟨rfl, rfl⟩) hB ?_
  refine wpAnyN_one (i := 15) (by kernel_rfl) rfl rfl ?_
  intro K' hK'
  go_wp2_with fail
  try (refine ⟨fun _ => hB, ?_⟩)
  refine wpAnyN_one (i := 16) (by kernel_rfl) rfl rfl ?_
  intro K' hK'
  go_wp2_with fail
  try (refine ⟨fun _ => hB, ?_⟩)
  refine wpAnyN_one (i := 17) (by kernel_rfl) rfl rfl ?_
  intro K' hK'
  go_wp2_with fail
  first | (refine ⟨fun _ => hB, ?_⟩; refine wpAnyN_done (by kernel_rfl) ?_ _) | (refine ⟨by kernel_rfl, ?_⟩)
  go_wp2_with fail
  go_ret
  exact ⟨ret_bool rfl, G5.out.trans (hB)⟩
end Go.Proofs.YtdopncbmlehnoaaGreatDoor
