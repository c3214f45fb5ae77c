/- THE LAW redlinelaw12.OpText: the contract. -/
import Derived.Laws.Cover4
import Derived.Test.YtdopncbmlehnoaaGreatDoorK40
import Derived.Test.YtdopncbmlehnoaaGreatDoorK41
import Derived.Test.YtdopncbmlehnoaaGreatDoorK28
import Derived.Test.YtdopncbmlehnoaaGreatDoorK10
import Derived.Test.YtdopncbmlehnoaaGreatDoorCards
import Derived.Test.YtdopncbmlehnoaaGreatDoorTie
import Derived.Deep.DeepHandedRow
import Derived.Lib.LaidTab
namespace Go.Proofs.YtdopncbmlehnoaaGreatDoor
open Go Go.RowKit

/-- runes read as a text -/
theorem runes_text {P : Program} (w : World) {src dst e : TypeId} {lo hi : Nat} {a : Option Addr} {c : Nat} {l : List Int} (h : RunesIn w lo hi a c l) (hs : P.underlying src = some (.slice e)) (he : P.underlying e = some (.int .i32)) (hd : P.underlying dst = some .string) :
    (convert src dst (.slice a l.length c)).run P w = .ok (.string (runesBytes l)) w := by
  cases a with
  | none =>
    have hl : l = [] := by
      apply Classical.byContradiction
      intro hn
      obtain ⟨b, o, e, _⟩ := RunesIn.at h (j := 0) (List.length_pos_iff.2 hn)
      cases e
    subst hl
    exact run_convert_runes_nil w src dst e _ _ hs he hd
  | some p =>
    have := run_convert_runes w src dst e p l.length c l (Nat.le_refl _) hs he hd (fun j hj => by
      obtain ⟨b, o, e, _, _, hc, _⟩ := RunesIn.at h hj
      injection e with e
      subst e
      have e0 : Addr.add ⟨b, o, none⟩ j = ⟨b, o + j, none⟩ := by simp [Addr.add]
      rw [e0]
      exact hc)
    rw [List.take_length] at this
    exact this
theorem RunesIn.later {w w' : World} {lo : Nat} {a : Option Addr} {c : Nat} {l : List Int} (h : RunesIn w lo w.heap.size a c l) (g : Grew w w') : RunesIn w' lo w'.heap.size a c l := (RunesIn.grew h g (Nat.le_refl _)).mono (Nat.le_refl _) g.size

set_option maxRecDepth 100000 in
set_option maxHeartbeats 8000000 in
theorem opText_any (n : NT) (s : SelL) (o : OpL) (w : World) (hf0 : Fit n s o w) : Calls Tryz.prog 8 #[n.val, s.val, o.val] w fun e w' => e = .returned (.bool true) ∧ Grew w w' := by
  have FE := Lib.hid (fun w1 (g : Grew w w1) => few12_any n s o w1 (hf0.grew g))
  have HF := Lib.hid hf0
  have AP := Lib.hid (fun (h : fewE n.er s.er o.er = true) w1 (g : Grew w w1) => apply12 h (hf0.grew g))
  have SN := Lib.hid (fun w1 (g : Grew w w1) (hb : n.er.bulk ≤ 262144) => size_any n w1 (hf0.grew g).hn (by omega))
  have SO := Lib.hid (fun w1 (g : Grew w w1) => size_any o.node w1 (hf0.grew g).ho.2.1 (hf0.grew g).ob)
  clear hf0
  unfold OpL.val at FE AP ⊢
  unfold NT.val at FE AP SN SO ⊢
  unfold SelL.val at FE AP ⊢
  go_enter Tryz.func8, Tryz.ntmps8
  go_upto_region 1 with fail
  generalize hW : ((w.alloc _).alloc _).alloc _ = w1
  obtain ⟨g1, hB, z1⟩ := b3_new w n s o _ _ _ w1 hW
  have HB1 := Lib.hid hB
  have G1 := Lib.hid g1
  clear hW z1 hB g1
  go_wp2_with fail
  refine (live12_any _).mono ?_
  rintro e w2 ⟨rfl, g2⟩
  have HB2 := Lib.hid (HB1.out.grew g2)
  have G2 := Lib.hid (G1.out.trans g2)
  clear g2 HB1 G1
  obtain ⟨n0, n1, n2, n3⟩ := HB2.out.n
  obtain ⟨s0, s1, s2, s3, s4⟩ := HB2.out.s
  have rO := HB2.out.2.2.1
  obtain ⟨ov, hov⟩ : ∃ v, o.val = v := ⟨_, rfl⟩
  unfold OpL.val at hov
  rw [hov] at FE AP
  go_wp2_with (show wpList _ _ _ (Oper.mk (some 14) (Op.load 35 (.tmp 5)) _ _ _ _ :: _) _ _; refine wpList_load_mid_g rfl 35 (.tmp 5) rfl (w.heap.size + 2) 0 rfl o.cells _ rO Tryz.underlying35 rfl infoOpB ?_; have ho2 : Value.agg o.cells.toArray = ov := hov; rw [ho2]; clear ho2)
  refine (FE.out w2 G2.out).mono ?_
  rintro e w3 ⟨rfl, g3⟩
  have HB3 := Lib.hid (HB2.out.grew g3)
  have G3 := Lib.hid (G2.out.trans g3)
  clear g3 n0 n1 n2 n3 s0 s1 s2 s3 s4 rO HB2 FE G2
  by_cases hfe : fewE n.er s.er o.er = true
  case neg =>
    have hfe : fewE n.er s.er o.er = false := by simpa using hfe
    rw [hfe]
    go_wp2_with fail
    go_ret
    exact ⟨rfl, G3.out⟩
  case pos =>
  have AP1 := Lib.hid (AP.out hfe)
  have HFE := Lib.hid hfe
  rw [hfe]
  clear hfe AP
  have k0 : w3.cell? ⟨w.heap.size + 2, 0, none⟩ = some (.int .i64 o.kind) := rangeAt_at0 HB3.out.2.2.1 (j := 0) rfl
  by_cases hk1 : o.kind = 1
  case pos =>
    have t1 : (o.kind == 1) = true := by simpa using hk1
    go_wp2_with fail
    go_ret
    exact ⟨rfl, G3.out⟩
  case neg =>
  have t1 : (o.kind == 1) = false := by simpa using hk1
  by_cases hk2 : o.kind = 2
  case pos =>
    have t2 : (o.kind == 2) = true := by simpa using hk2
    go_wp2_with fail
    go_ret
    exact ⟨rfl, G3.out⟩
  case neg =>
  have t2 : (o.kind == 2) = false := by simpa using hk2
  by_cases hk5 : o.kind = 5
  case pos =>
    have t5 : (o.kind == 5) = true := by simpa using hk5
    go_wp2_with fail
    go_ret
    exact ⟨rfl, G3.out⟩
  case neg =>
  have t5 : (o.kind == 5) = false := by simpa using hk5
  by_cases hk7 : o.kind = 7
  case pos =>
    have t7 : (o.kind == 7) = true := by simpa using hk7
    go_wp2_with fail
    go_ret
    exact ⟨rfl, G3.out⟩
  case neg =>
  have t7 : (o.kind == 7) = false := by simpa using hk7
  by_cases hk8 : o.kind = 8
  case pos =>
    have t8 : (o.kind == 8) = true := by simpa using hk8
    go_wp2_with fail
    go_ret
    exact ⟨rfl, G3.out⟩
  case neg =>
  have t8 : (o.kind == 8) = false := by simpa using hk8
  obtain ⟨n0, n1, n2, n3⟩ := HB3.out.n
  obtain ⟨s0, s1, s2, s3, s4⟩ := HB3.out.s
  have rO := HB3.out.2.2.1
  go_wp2_with (show wpList _ _ _ (Oper.mk (some 45) (Op.load 35 (.tmp 5)) _ _ _ _ :: _) _ _; refine wpList_load_mid_g rfl 35 (.tmp 5) rfl (w.heap.size + 2) 0 rfl o.cells _ rO Tryz.underlying35 rfl infoOpB ?_; have ho2 : Value.agg o.cells.toArray = ov := hov; rw [ho2]; clear ho2)
  refine (AP1.out w3 G3.out).mono ?_
  rintro e w4 ⟨x, t, rfl, g4, hx, ht, hxe, hte⟩
  have HB4 := Lib.hid (HB3.out.grew g4)
  have G4 := Lib.hid (G3.out.trans g4)
  have HX4 : Hid (x.Ok w4) := hx.mono (Nat.zero_le _) (Nat.le_refl _)
  have HT4 : Hid (t.In w4 0 w4.heap.size) := ⟨IntsIn.mono ht.1 (Nat.zero_le _) (Nat.le_refl _), IntsIn.mono ht.2 (Nat.zero_le _) (Nat.le_refl _)⟩
  clear g4 n0 n1 n2 n3 s0 s1 s2 s3 s4 rO HB3 AP1 G3 hx ht
  unfold NT.val SelL.val
  have HER : Hid ((applyT n.er s.er o.er).2.2 = (applyT n.er s.er o.er).2.2) := rfl
  generalize hres : applyT n.er s.er o.er = res at *
  have HRES := Lib.hid hres
  obtain ⟨ta, tb, er⟩ := res
  clear hres HER
  go_upto_region 6 with (first | (show wpList _ _ _ (Oper.mk none (Op.store 26 (.tmp 7) (.tmp 47)) _ _ _ _ :: _) _ _; generalize hW : World.alloc (World.alloc w4 _) _ = wW; obtain ⟨tX, tY⟩ := two_there hW; refine wpList_store_mid rfl 26 (.tmp 7) (.tmp 47) rfl w4.heap.size 0 x.cells4.toArray rfl rfl tX infoNode4 (NT.cells4_all _) ?_; generalize hA : World.setCells wW _ _ _ = wa; have tZ : wa.there (w4.heap.size + 1) 0 5 := (by rw [← hA]; exact World.there_setCells tY _ _ _)) | (show wpList _ _ _ (Oper.mk none (Op.store 33 (.tmp 8) (.tmp 48)) _ _ _ _ :: _) _ _; refine wpList_store_mid rfl 33 (.tmp 8) (.tmp 48) rfl (w4.heap.size + 1) 0 t.cells.toArray rfl rfl tZ infoSel (all_oneCell_toArray t.cells_one) ?_; generalize hB : World.setCells wa _ _ _ = wb))
  obtain ⟨g5, hXB⟩ := put2_new hW hA hB
  clear hW hA hB tX tY tZ
  have HB5 := Lib.hid (HB4.out.grew g5)
  have G5 := Lib.hid (G4.out.trans g5)
  have HX5 : Hid (x.Ok wb) := NT.Ok.grew HX4.out g5
  have HT5 : Hid (t.In wb 0 wb.heap.size) := HT4.out.later g5
  have HXB := Lib.hid hXB
  clear g5 hXB HB4 G4 HX4 HT4
  generalize w4.heap.size = b7 at *
  have HXE : Hid (x.er = ta) := hxe.out
  have HTE : Hid (t.er = tb) := hte.out
  clear hxe hte
  obtain ⟨HFN, HFS, HFO⟩ := fewE_parts HFE.out
  have HFN := Lib.hid HFN
  have HFS := Lib.hid HFS
  have HFO := Lib.hid HFO
  have HNB : Hid (n.er.bulk ≤ 262144) := by show _ ≤ _; have := few_bulk HFN.out; omega
  have HXX : Hid (x.er.bulk ≤ 1048576) := by
    show _ ≤ _
    rw [HXE.out]
    have := apply_bulk (s := s.er) HNB.out (fewOp_tiny HFO.out).1
    rw [HRES.out] at this
    exact this
  have RS := Lib.hid (fun w1 (g : Grew wb w1) => refSame04_any x NT.nil w1 (NT.Ok.grew HX5.out g) NT.nil_in HXX.out (by rw [nil_er]; decide))
  unfold NT.val at RS
  by_cases her : er = 0
  case neg =>
    have t1 : (er != 0) = true := by simpa using her
    have hno := apply_no (n := n.er) (s := s.er) (o := o.er) (by rw [HRES.out]; exact her)
    rw [HRES.out] at hno
    have HN1 : Hid (x.er = NT.nil.er) := by show _ = _; rw [HXE.out, nil_er]; exact hno.1
    have HN2 : Hid (t.er = SelE.nil) := by show _ = _; rw [HTE.out]; exact hno.2
    clear hno
    obtain ⟨x0, x1, x2, x3⟩ := HXB.out.x
    go_wp2_with fail
    refine (RS.out wb (Grew.refl _)).mono ?_
    rintro e w6 ⟨rfl, g6⟩
    have t2 : decide (x.er = NT.nil.er) = true := by rw [HN1.out]; simp
    go_wp2_with fail
    go_ret
    exact ⟨rfl, G5.out.trans g6⟩
  case pos =>
  subst her
  have t1 : ((0 : Int) != 0) = false := rfl
  clear RS t1
  have hok := apply_text (n := n.er) (s := s.er) (o := o.er) (by have := HNB.out; omega) (by rw [HRES.out]) ⟨hk1, hk2, hk5, hk7, hk8⟩
  rw [HRES.out] at hok
  have HTT : Hid (x.er.text = n.er.text) := by show _ = _; rw [HXE.out]; exact hok
  clear hok HRES hk1 hk2 hk5 hk7 hk8 t1 t2 t5 t7 t8
  have TN := Lib.hid (fun w1 (g : Grew wb w1) => text_any n w1 (HF.out.grew (G5.out.trans g)).hn HF.out.nb)
  have TX := Lib.hid (fun w1 (g : Grew wb w1) => text_any x w1 (NT.Ok.grew HX5.out g) HXX.out)
  rw [HTT.out] at TX
  generalize n.er.text = ts at *
  unfold NT.val at TN TX
  have KB := fun w' (g : Grew wb w') => (⟨(HXB.out.grew g).x, (HB5.out.grew g).n⟩ : (w'.cell? ⟨b7, 0, none⟩ = some (.bool x.lf) ∧ w'.cell? ⟨b7, 1, none⟩ = some (.slice x.pa x.ps.length x.pc) ∧ w'.cell? ⟨b7, 2, none⟩ = some (.slice x.ta x.ts.length x.tc) ∧ w'.cell? ⟨b7, 3, none⟩ = some (.slice x.ka x.ks.length x.kc)) ∧ (w'.cell? ⟨w.heap.size, 0, none⟩ = some (.bool n.lf) ∧ w'.cell? ⟨w.heap.size, 1, none⟩ = some (.slice n.pa n.ps.length n.pc) ∧ w'.cell? ⟨w.heap.size, 2, none⟩ = some (.slice n.ta n.ts.length n.tc) ∧ w'.cell? ⟨w.heap.size, 3, none⟩ = some (.slice n.ka n.ks.length n.kc)))
  have g50 : Grew wb wb.drew := (Grew.refl _).drew
  have tq : ((runesBytes ts).toList == (runesBytes ts).toList) = true := by simp
  have tq2 : decide (runesBytes ts = runesBytes ts) = true := by simp
  clear HTT SN SO
  go_upto_region 8 with fail
  refine wp_region_need (Grew wb) (fun _ => true) (by kernel_rfl) ?_
  refine wpAnyN_at (i := 0) (v := .agg #[.bool x.lf, .slice x.pa x.ps.length x.pc, .slice x.ta x.ts.length x.tc, .slice x.ka x.ks.length x.kc]) (some 55) rfl rfl (by kernel_rfl) (by kernel_rfl) (by kernel_rfl) (by kernel_rfl) (fun _ _ _ h => h) (Or.inl ⟨rfl, fun w' hS => by obtain ⟨⟨q0, q1, q2, q3⟩, ⟨q4, q5, q6, q7⟩⟩ := KB w' hS; go_simp⟩) g50 ?_
  refine wpAnyN_at (i := 3) (v := .agg #[.bool n.lf, .slice n.pa n.ps.length n.pc, .slice n.ta n.ts.length n.tc, .slice n.ka n.ks.length n.kc]) (some 58) rfl rfl (by kernel_rfl) (by kernel_rfl) (by kernel_rfl) (by kernel_rfl) (fun _ _ _ h => h) (Or.inl ⟨rfl, fun w' hS => by obtain ⟨⟨q0, q1, q2, q3⟩, ⟨q4, q5, q6, q7⟩⟩ := KB w' hS; go_simp⟩) g50 ?_
  refine wpAnyN_one (i := 1) (by kernel_rfl) rfl rfl ?_
  intro K' hK'
  go_wp2_with fail
  refine (TX.out wb.drew g50).mono ?_
  rintro e wA ⟨a1, c1, rfl, gA, hr1⟩
  have hA : Grew wb wA := g50.trans gA
  refine hK' _ _ ⟨fun _ => hA, ?_⟩
  clear hK' K' gA
  refine wpAnyN_two (i := 2) (j := 4) (by kernel_rfl) rfl rfl rfl rfl ?_ ?_
  case refine_1 =>
    intro K' hK'
    have cv2 := runes_text (P := Tryz.prog) (src := 23) (dst := 9) wA hr1 Tryz.underlying23 Tryz.underlying21 Tryz.underlying9
    go_wp2_with fail
    try (refine ⟨fun _ => hA, ?_⟩)
    clear cv2
    refine wpAnyN_one (i := 4) (by kernel_rfl) rfl rfl ?_
    intro K' hK'
    go_wp2_with fail
    refine (TN.out wA hA).mono ?_
    rintro e wB ⟨a2, c2, rfl, gB, hr2⟩
    have hB : Grew wb wB := hA.trans gB
    have hr1B := hr1.later gB
    refine hK' _ _ ⟨fun _ => hB, ?_⟩
    clear hK' K' gB
    refine wpAnyN_one (i := 5) (by kernel_rfl) rfl rfl ?_
    intro K' hK'
    have cv5 := runes_text (P := Tryz.prog) (src := 23) (dst := 9) wB hr2 Tryz.underlying23 Tryz.underlying21 Tryz.underlying9
    go_wp2_with fail
    try (refine ⟨fun _ => hB, ?_⟩)
    clear cv5
    refine wpAnyN_one (i := 6) (by kernel_rfl) rfl rfl ?_
    intro K' hK'
    go_wp2_with fail
    try (refine ⟨fun _ => hB, ?_⟩)
    refine wpAnyN_one (i := 7) (by kernel_rfl) rfl rfl ?_
    intro K' hK'
    go_wp2_with fail
    first | (refine ⟨fun _ => hB, ?_⟩; refine wpAnyN_done (by kernel_rfl) ?_ _) | (refine ⟨by kernel_rfl, ?_⟩)
    go_wp2_with fail
    go_ret
    exact ⟨ret_bool rfl, G5.out.trans hB⟩
  case refine_2 =>
    intro K' hK'
    go_wp2_with fail
    refine (TN.out wA hA).mono ?_
    rintro e wB ⟨a2, c2, rfl, gB, hr2⟩
    have hB : Grew wb wB := hA.trans gB
    have hr1B := hr1.later gB
    refine hK' _ _ ⟨fun _ => hB, ?_⟩
    clear hK' K' gB
    refine wpAnyN_two (i := 2) (j := 5) (by kernel_rfl) rfl rfl rfl rfl ?_ ?_
    case refine_1 =>
      intro K' hK'
      have cv2 := runes_text (P := Tryz.prog) (src := 23) (dst := 9) wB hr1B Tryz.underlying23 Tryz.underlying21 Tryz.underlying9
      go_wp2_with fail
      try (refine ⟨fun _ => hB, ?_⟩)
      clear cv2
      refine wpAnyN_one (i := 5) (by kernel_rfl) rfl rfl ?_
      intro K' hK'
      have cv5 := runes_text (P := Tryz.prog) (src := 23) (dst := 9) wB hr2 Tryz.underlying23 Tryz.underlying21 Tryz.underlying9
      go_wp2_with fail
      try (refine ⟨fun _ => hB, ?_⟩)
      clear cv5
      refine wpAnyN_one (i := 6) (by kernel_rfl) rfl rfl ?_
      intro K' hK'
      go_wp2_with fail
      try (refine ⟨fun _ => hB, ?_⟩)
      refine wpAnyN_one (i := 7) (by kernel_rfl) rfl rfl ?_
      intro K' hK'
      go_wp2_with fail
      first | (refine ⟨fun _ => hB, ?_⟩; refine wpAnyN_done (by kernel_rfl) ?_ _) | (refine ⟨by kernel_rfl, ?_⟩)
      go_wp2_with fail
      go_ret
      exact ⟨ret_bool rfl, G5.out.trans hB⟩
    case refine_2 =>
      intro K' hK'
      have cv5 := runes_text (P := Tryz.prog) (src := 23) (dst := 9) wB hr2 Tryz.underlying23 Tryz.underlying21 Tryz.underlying9
      go_wp2_with fail
      try (refine ⟨fun _ => hB, ?_⟩)
      clear cv5
      refine wpAnyN_one (i := 2) (by kernel_rfl) rfl rfl ?_
      intro K' hK'
      have cv2 := runes_text (P := Tryz.prog) (src := 23) (dst := 9) wB hr1B Tryz.underlying23 Tryz.underlying21 Tryz.underlying9
      go_wp2_with fail
      try (refine ⟨fun _ => hB, ?_⟩)
      clear cv2
      refine wpAnyN_one (i := 6) (by kernel_rfl) rfl rfl ?_
      intro K' hK'
      go_wp2_with fail
      try (refine ⟨fun _ => hB, ?_⟩)
      refine wpAnyN_one (i := 7) (by kernel_rfl) rfl rfl ?_
      intro K' hK'
      go_wp2_with fail
      first | (refine ⟨fun _ => hB, ?_⟩; refine wpAnyN_done (by kernel_rfl) ?_ _) | (refine ⟨by kernel_rfl, ?_⟩)
      go_wp2_with fail
      go_ret
      exact ⟨ret_bool rfl, G5.out.trans hB⟩
end Go.Proofs.YtdopncbmlehnoaaGreatDoor
/- redlinelaw12.OpText, where what it reads is of bulk at most 1048576: the call returns true, and each argument reads as it did. CONDITIONS: the row's own alone. -/
namespace Go.Proofs.YtdopncbmlehnoaaGreatDoor.opText
open Go.ChangeShapes Go.WideShapes Go.ChangeAt Go.RowKit
open Go.ChangeMaps (open_string shut_string)

theorem own : ownKnob Tryz.prog.godebug = none := by kernel_rfl

set_option maxRecDepth 100000 in
theorem contract (H : Type) (enc : TypeId × Value → H) (W : World) (base : Nat) (args : Array Value) (ds gs : List (DataW H)) (before : List MemPlace)
    (hval : ∀ (j : Nat) t v, Tryz.f8.params[j]? = some t → args[j]? = some v → Value.okWide Tryz.prog W .any base t v)
    (hW : DataW.Whole enc Tryz.prog Tryz.f8.params.toList Rows.opTextSpec.vars false W args.toList ds gs before) (hk : Rows.uptoSmall H (ds ++ gs) = true) :
    Calls Tryz.prog 8 args W fun e W' => ∃ v, e = .returned v ∧ Rows.opTextSpec.post enc Tryz.prog Tryz.f8 false true false false W args v W' := by
  have hW' := hW
  obtain ⟨p, q, hA0, hV, rfl, hfz, hnd⟩ := hW
  have hA : DataW.TrodAll enc Tryz.prog W 0 (fun _ => true) true Tryz.f8.params.toList args.toList ds p := hA0
  rw [Tryz.params8] at hA hval
  obtain ⟨v0, vs0, d0, ds0, p0, q0, hargs, rfl, rfl, h0, r0⟩ := trodAll_cons hA
  obtain ⟨v1, vs1, d1, ds1, p1, q1, rfl, rfl, rfl, h1, r1⟩ := trodAll_cons r0
  obtain ⟨v2, vs2, d2, ds2, p2, q2, rfl, rfl, rfl, h2, r2⟩ := trodAll_cons r1
  obtain ⟨rfl, rfl, rfl⟩ := trodAll_nil r2
  obtain rfl : args = #[v0, v1, v2] := by cases args; simp_all
  obtain ⟨rfl, rfl⟩ := trodVars_none hV
  have hbk : Rows.uptoBulkAll [d0, d1, d2] ≤ 1048576 := of_decide_eq_true hk
  simp only [Rows.uptoBulkAll] at hbk
  obtain ⟨fuel0, hf0⟩ := h0
  obtain ⟨cs0, rfl, _⟩ := okWide_struct Tryz.underlying26 (hval 0 26 v0 rfl rfl)
  obtain ⟨n0, hcs0, hok0, hb0'⟩ := open_node fuel0 _ _ hf0
  have hb0 : n0.er.bulk ≤ Rows.uptoBulk d0 := hb0'
  have hv0 : Value.agg cs0 = n0.val := by
    obtain ⟨l⟩ := cs0
    simp only [Value.cells] at hcs0
    subst hcs0
    rfl
  obtain ⟨fuel1, hf1⟩ := h1
  obtain ⟨cs1, rfl, _⟩ := okWide_struct Tryz.underlying33 (hval 1 33 v1 rfl rfl)
  obtain ⟨x1, hv1, hok1, hb1'⟩ := open_selV hf1
  have hb1 : 1 + x1.a.p.l.length + x1.f.p.l.length ≤ Rows.uptoBulk d1 := hb1'
  obtain ⟨fuel2, hf2⟩ := h2
  obtain ⟨cs2, rfl, _⟩ := okWide_struct Tryz.underlying35 (hval 2 35 v2 rfl rfl)
  obtain ⟨x2, hv2, hok2, hb2'⟩ := open_opV hf2
  have hb2 : 1 + x2.path.l.length + x2.dest.l.length + x2.node.er.bulk + propsBulk x2.old + propsBulk x2.new + x2.text.length ≤ Rows.uptoBulk d2 := hb2'
  rw [hv0, hv1, hv2] at hW' ⊢
  have hpos0 := T.bulk_pos n0.er
  have hpos2 := T.bulk_pos x2.node.er
  refine (opText_any n0 x1 x2 W ⟨hok0, hok1, hok2, by omega, by omega, by omega, by omega⟩).mono fun e W' ⟨he, hg⟩ => ?_
  exact ⟨_, he, post_law (tb := 4) (by kernel_rfl) (by
    intro t ht
    rw [Tryz.params8] at ht
    simp only [List.mem_cons, List.mem_nil_iff, or_false] at ht
    rcases ht with rfl | rfl | rfl
    all_goals exact ⟨by kernel_rfl, of_decide_eq_true (by kernel_rfl)⟩) hW' rfl rfl Tryz.underlying4 rfl rfl rfl hg⟩

/-- for the witness: the settled world, the listed variables as their initialisers lay them -/
noncomputable def layAt (h : Array Obj) (g : Nat) (cs : Array Value) : Array Obj := h.modify g fun
  | .cells _ t frozen => .cells cs t frozen
  | o => o
noncomputable def laidWorld (os : Os) : World :=
  { World.holding Tryz.prog os ⟨#[], #[], []⟩ with heap := layAt (layAt ((World.holding Tryz.prog os ⟨#[], #[], []⟩).heap) 1 (#[.int .u8 128, .int .u8 191, .int .u8 160, .int .u8 191, .int .u8 128, .int .u8 159, .int .u8 144, .int .u8 191, .int .u8 128, .int .u8 143, .int .u8 0, .int .u8 0, .int .u8 0, .int .u8 0, .int .u8 0, .int .u8 0, .int .u8 0, .int .u8 0, .int .u8 0, .int .u8 0, .int .u8 0, .int .u8 0, .int .u8 0, .int .u8 0, .int .u8 0, .int .u8 0, .int .u8 0, .int .u8 0, .int .u8 0, .int .u8 0, .int .u8 0, .int .u8 0])) 0 ((Go.Pinned.utf8FirstZ.map (fun z : Nat => Value.int .u8 (z : Int))).toArray) }
set_option maxRecDepth 100000 in
theorem laid_met (os : Os) : laidMet Tryz.prog Rows.opTextUptoRow.laid ((laidWorld os).forCall (fun _ _ => 0) ⟨#[], #[.agg #[.bool false, .slice none 0 0, .slice none 0 0, .slice none 0 0], .agg #[.bool false, .slice none 0 0, .int .i64 0, .slice none 0 0, .int .i64 0], .agg #[.int .i64 0, .slice none 0 0, .slice none 0 0, .int .i64 0, .bool false, .slice none 0 0, .slice none 0 0, .slice none 0 0, .slice none 0 0, .slice none 0 0, .slice none 0 0, .bool false, .slice none 0 0, .int .i64 0, .slice none 0 0, .int .i64 0, .bool false, .slice none 0 0, .int .i64 0, .slice none 0 0, .int .i64 0]], []⟩).memory :=
  laidMet_of_run' 8 (by kernel_rfl) (by kernel_rfl)
set_option maxRecDepth 100000 in
theorem reads (os : Os) {H : Type} (enc : TypeId × Value → H) : ∃ places, DataW.whole enc Tryz.prog ((laidWorld os).forCall (fun _ _ => 0) ⟨#[], #[.agg #[.bool false, .slice none 0 0, .slice none 0 0, .slice none 0 0], .agg #[.bool false, .slice none 0 0, .int .i64 0, .slice none 0 0, .int .i64 0], .agg #[.int .i64 0, .slice none 0 0, .slice none 0 0, .int .i64 0, .bool false, .slice none 0 0, .slice none 0 0, .slice none 0 0, .slice none 0 0, .slice none 0 0, .slice none 0 0, .bool false, .slice none 0 0, .int .i64 0, .slice none 0 0, .int .i64 0, .bool false, .slice none 0 0, .int .i64 0, .slice none 0 0, .int .i64 0]], []⟩).memory Tryz.f8.params.toList Rows.opTextSpec.vars false #[Value.agg #[.bool false, .slice none 0 0, .slice none 0 0, .slice none 0 0], Value.agg #[.bool false, .slice none 0 0, .int .i64 0, .slice none 0 0, .int .i64 0], Value.agg #[.int .i64 0, .slice none 0 0, .slice none 0 0, .int .i64 0, .bool false, .slice none 0 0, .slice none 0 0, .slice none 0 0, .slice none 0 0, .slice none 0 0, .slice none 0 0, .bool false, .slice none 0 0, .int .i64 0, .slice none 0 0, .int .i64 0, .bool false, .slice none 0 0, .int .i64 0, .slice none 0 0, .int .i64 0]].toList 8 = some ([.agg [.lit (.bool false), .nil, .nil, .nil], .agg [.lit (.bool false), .agg [.agg [.nil, .lit (.int .i64 0)], .agg [.nil, .lit (.int .i64 0)]]], .agg [.lit (.int .i64 0), .nil, .nil, .lit (.int .i64 0), .agg [.lit (.bool false), .nil, .nil, .nil], .nil, .nil, .nil, .agg [.lit (.bool false), .agg [.agg [.nil, .lit (.int .i64 0)], .agg [.nil, .lit (.int .i64 0)]]], .agg [.lit (.bool false), .agg [.agg [.nil, .lit (.int .i64 0)], .agg [.nil, .lit (.int .i64 0)]]]]], [], places) :=
  ⟨[], by kernel_rfl⟩

set_option maxRecDepth 100000 in
theorem lifted (os : Os) (started : os.Started) (H : Type) (enc : TypeId × Value → H) (F : Stop.Interp) :
    ReturnsInHanded {} Tryz.checked os 8 .any ((Rows.OpenSpec.upto Rows.opTextSpec).preRow enc Tryz.prog Tryz.f8 Rows.opTextUptoRow.domain false Rows.opTextUptoRow.laid) (((Rows.OpenSpec.upto Rows.opTextSpec).at F).post enc Tryz.prog Tryz.f8 false true false false) := by
  obtain ⟨places, hx⟩ := reads os enc
  refine returnsInHanded_of_row (C := Tryz.checked) (s := Rows.OpenSpec.upto Rows.opTextSpec) own started (by kernel_rfl) Tryz.func8
    (witness_row_at (enc := enc) (C := Tryz.checked) false (laidWorld os) #[.agg #[.bool false, .slice none 0 0, .slice none 0 0, .slice none 0 0], .agg #[.bool false, .slice none 0 0, .int .i64 0, .slice none 0 0, .int .i64 0], .agg #[.int .i64 0, .slice none 0 0, .slice none 0 0, .int .i64 0, .bool false, .slice none 0 0, .slice none 0 0, .slice none 0 0, .slice none 0 0, .slice none 0 0, .slice none 0 0, .bool false, .slice none 0 0, .int .i64 0, .slice none 0 0, .int .i64 0, .bool false, .slice none 0 0, .int .i64 0, .slice none 0 0, .int .i64 0]] rfl (by kernel_rfl) (by kernel_rfl) (by kernel_rfl)
      (OpenSpec.preRow_of_cond 8 hx (by kernel_rfl) (fun k hk => by cases hk; kernel_rfl) (by kernel_rfl) (laid_met os))) ?_
  intro W base args ds gs before hval hW _ hk _ _ _ _
  exact contract H enc W base args ds gs before hval hW (hk _ rfl)

set_option maxRecDepth 100000 in
theorem said : Rows.OpTextUptoSaid :=
  OpenClaim.holds_of_cond 8 Tryz.f8 rfl rfl rfl rfl rfl rfl rfl ⟨rfl, rfl, rfl, rfl, rfl⟩ rfl rfl rfl rfl rfl (by kernel_rfl) Tryz.func8 (by kernel_rfl)
    (of_decide_eq_true (by kernel_rfl)) (by unfold Func.isWrapper; rw [if_neg (of_decide_eq_false (by kernel_rfl))]; exact ⟨rfl, rfl⟩)
    (fun os started H enc _ F => by rw [OpenClaim.pre_eq_preRow]; exact lifted os started H enc F)

set_option maxRecDepth 100000 in
theorem plain (f : FuncId) (fn : Func) (hf : Tryz.pinned.checked.prog.funcNamed "redline/redlinelaw12.OpText" = some f) (hfn : Tryz.pinned.checked.prog.funcs[f]? = some fn) :
    false = Tryz.pinned.checked.prog.looks [] ∧ ∀ (j : Nat) t, fn.params[j]? = some t → Tryz.pinned.checked.prog.wantsStandIn t = false := by
  obtain rfl : f = 8 := Option.some.inj ((show Tryz.prog.funcNamed "redline/redlinelaw12.OpText" = some 8 by kernel_rfl).symm.trans hf) |>.symm
  obtain rfl : fn = Tryz.f8 := (Option.some.inj (Tryz.func8.symm.trans hfn)).symm
  refine ⟨by kernel_rfl, fun j t ht => ?_⟩
  rw [Tryz.params8] at ht
  have hm := Array.mem_of_getElem? ht
  simp only [List.mem_toArray, List.mem_cons, List.mem_nil_iff, or_false] at hm
  rcases hm with rfl | rfl | rfl
  all_goals first
    | exact (show Tryz.prog.wantsStandIn 26 = false by kernel_rfl)
    | exact (show Tryz.prog.wantsStandIn 33 = false by kernel_rfl)
    | exact (show Tryz.prog.wantsStandIn 35 = false by kernel_rfl)

set_option maxRecDepth 100000 in
theorem proved : Rows.OpTextUptoCardSaid :=
  Claim7.holds_tied_plain_at .later [] _ _ _ _ said (fun _ h => by cases h) (by kernel_rfl) (fun _ h => by cases h) opTextUpto_row_tie rfl ⟨rfl, rfl⟩ (by kernel_rfl) rfl plain (by kernel_rfl)
#print axioms proved
end Go.Proofs.YtdopncbmlehnoaaGreatDoor.opText
