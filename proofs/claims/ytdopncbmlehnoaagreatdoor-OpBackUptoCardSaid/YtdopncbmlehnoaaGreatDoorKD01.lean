/- THE LAW redlinelaw12.OpBack: the contract. -/
import Derived.Test.YtdopncbmlehnoaaGreatDoorK40
import Derived.Test.YtdopncbmlehnoaaGreatDoorK41
import Derived.Test.YtdopncbmlehnoaaGreatDoorK42
import Derived.Test.YtdopncbmlehnoaaGreatDoorCards
import Derived.Test.YtdopncbmlehnoaaGreatDoorTie
import Derived.Deep.DeepHandedRow
import Derived.Lib.LaidTab
namespace Go.Proofs.YtdopncbmlehnoaaGreatDoor
open Go Go.RowKit

/-- an operation put in a box laid for it -/
theorem put1_op {w W wa : World} {t : OpL} {tB : TypeId} (hW : w.alloc (.cells OpL.zcells.toArray tB) = W) (ha : W.setCells w.heap.size 0 t.cells = wa) : Grew w wa ∧ wa.rangeAt w.heap.size 0 t.cells ∧ w.heap.size < wa.heap.size := by
  obtain ⟨g1, _, t1, z1⟩ := boxes1 w OpL.zcells tB W hW
  have k1 : Keeps (· = w.heap.size) W wa := by rw [← ha]; exact setCells_keepsO _ t.cells 0 W
  have s1 := k1.size
  exact ⟨g1.keep k1 (fun j hj => by have : j = w.heap.size := hj; omega), by rw [← ha]; exact rangeAt_put t1, by omega⟩
theorem fewOp_bulk {o : OpE} (h : fewOpE o = true) : o.node.bulk ≤ 12700 ∧ propsBulk o.new ≤ 12700 ∧ o.text.length ≤ 100 := by
  unfold fewOpE fewSelE at h
  simp only [Bool.and_eq_true, decide_eq_true_eq] at h
  obtain ⟨⟨⟨⟨⟨⟨⟨⟨⟨h1, h2⟩, h3⟩, h4⟩, h5⟩, h6⟩, h7⟩, h8⟩, h9⟩, h10⟩ := h
  have h6 := few_bulk h6
  have h10 := few_props h10
  omega

set_option maxRecDepth 100000 in
set_option maxHeartbeats 8000000 in
theorem opBack_any (n : NT) (s : SelL) (o : OpL) (w : World) (hf0 : Fit n s o w) : Calls Tryz.prog 3 #[n.val, s.val, o.val] w fun e w' => e = .returned (.bool true) ∧ Grew w w' := by
  have FE := Lib.hid (fun w1 (g : Grew w w1) => few12_any n s o w1 (hf0.grew g))
  have HF := Lib.hid hf0
  have AP := Lib.hid (fun (h : fewE n.er s.er o.er = true) w1 (g : Grew w w1) => apply12 h (hf0.grew g))
  have SN := Lib.hid (fun w1 (g : Grew w w1) (hb : n.er.bulk ≤ 262144) => size_any n w1 (hf0.grew g).hn (by omega))
  have SO := Lib.hid (fun w1 (g : Grew w w1) => size_any o.node w1 (hf0.grew g).ho.2.1 (hf0.grew g).ob)
  clear hf0
  unfold OpL.val at FE AP ⊢
  unfold NT.val at FE AP SN SO ⊢
  unfold SelL.val at FE AP ⊢
  go_enter Tryz.func3, Tryz.ntmps3
  go_upto_region 1 with fail
  generalize hW : ((w.alloc _).alloc _).alloc _ = w1
  obtain ⟨g1, hB, z1⟩ := b3_new w n s o _ _ _ w1 hW
  have HB1 := Lib.hid hB
  have G1 := Lib.hid g1
  clear hW z1 hB g1
  go_wp2_with fail
  refine (live12_any _).mono ?_
  rintro e w2 ⟨rfl, g2⟩
  have HB2 := Lib.hid (HB1.out.grew g2)
  have G2 := Lib.hid (G1.out.trans g2)
  clear g2 HB1 G1
  obtain ⟨n0, n1, n2, n3⟩ := HB2.out.n
  obtain ⟨s0, s1, s2, s3, s4⟩ := HB2.out.s
  have rO := HB2.out.2.2.1
  obtain ⟨ov, hov⟩ : ∃ v, o.val = v := ⟨_, rfl⟩
  unfold OpL.val at hov
  rw [hov] at FE AP
  go_wp2_with (show wpList _ _ _ (Oper.mk (some 19) (Op.load 35 (.tmp 5)) _ _ _ _ :: _) _ _; refine wpList_load_mid_g rfl 35 (.tmp 5) rfl (w.heap.size + 2) 0 rfl o.cells _ rO Tryz.underlying35 rfl infoOpB ?_; have ho2 : Value.agg o.cells.toArray = ov := hov; rw [ho2]; clear ho2)
  refine (FE.out w2 G2.out).mono ?_
  rintro e w3 ⟨rfl, g3⟩
  have HB3 := Lib.hid (HB2.out.grew g3)
  have G3 := Lib.hid (G2.out.trans g3)
  clear g3 n0 n1 n2 n3 s0 s1 s2 s3 s4 rO HB2 FE G2
  by_cases hfe : fewE n.er s.er o.er = true
  case neg =>
    have hfe : fewE n.er s.er o.er = false := by simpa using hfe
    rw [hfe]
    go_wp2_with fail
    go_ret
    exact ⟨rfl, G3.out⟩
  case pos =>
  have AP1 := Lib.hid (AP.out hfe)
  have HFE := Lib.hid hfe
  rw [hfe]
  clear hfe AP
  obtain ⟨n0, n1, n2, n3⟩ := HB3.out.n
  obtain ⟨s0, s1, s2, s3, s4⟩ := HB3.out.s
  have rO := HB3.out.2.2.1
  go_wp2_with (show wpList _ _ _ (Oper.mk (some 25) (Op.load 35 (.tmp 5)) _ _ _ _ :: _) _ _; refine wpList_load_mid_g rfl 35 (.tmp 5) rfl (w.heap.size + 2) 0 rfl o.cells _ rO Tryz.underlying35 rfl infoOpB ?_; have ho2 : Value.agg o.cells.toArray = ov := hov; rw [ho2]; clear ho2)
  refine (AP1.out w3 G3.out).mono ?_
  rintro e w4 ⟨x, t, rfl, g4, hx, ht, hxe, hte⟩
  have HB4 := Lib.hid (HB3.out.grew g4)
  have G4 := Lib.hid (G3.out.trans g4)
  have HX4 : Hid (x.Ok w4) := hx.mono (Nat.zero_le _) (Nat.le_refl _)
  have HT4 : Hid (t.In w4 0 w4.heap.size) := ⟨IntsIn.mono ht.1 (Nat.zero_le _) (Nat.le_refl _), IntsIn.mono ht.2 (Nat.zero_le _) (Nat.le_refl _)⟩
  clear g4 n0 n1 n2 n3 s0 s1 s2 s3 s4 rO HB3 AP1 G3 hx ht
  unfold NT.val SelL.val
  have HER : Hid ((applyT n.er s.er o.er).2.2 = (applyT n.er s.er o.er).2.2) := rfl
  generalize hres : applyT n.er s.er o.er = res at *
  have HRES := Lib.hid hres
  obtain ⟨ta, tb, er⟩ := res
  clear hres HER
  go_upto_region 6 with (first | (show wpList _ _ _ (Oper.mk none (Op.store 26 (.tmp 7) (.tmp 27)) _ _ _ _ :: _) _ _; generalize hW : World.alloc (World.alloc w4 _) _ = wW; obtain ⟨tX, tY⟩ := two_there hW; refine wpList_store_mid rfl 26 (.tmp 7) (.tmp 27) rfl w4.heap.size 0 x.cells4.toArray rfl rfl tX infoNode4 (NT.cells4_all _) ?_; generalize hA : World.setCells wW _ _ _ = wa; have tZ : wa.there (w4.heap.size + 1) 0 5 := (by rw [← hA]; exact World.there_setCells tY _ _ _)) | (show wpList _ _ _ (Oper.mk none (Op.store 33 (.tmp 8) (.tmp 28)) _ _ _ _ :: _) _ _; refine wpList_store_mid rfl 33 (.tmp 8) (.tmp 28) rfl (w4.heap.size + 1) 0 t.cells.toArray rfl rfl tZ infoSel (all_oneCell_toArray t.cells_one) ?_; generalize hB : World.setCells wa _ _ _ = wb))
  obtain ⟨g5, hXB⟩ := put2_new hW hA hB
  clear hW hA hB tX tY tZ
  have HB5 := Lib.hid (HB4.out.grew g5)
  have G5 := Lib.hid (G4.out.trans g5)
  have HX5 : Hid (x.Ok wb) := NT.Ok.grew HX4.out g5
  have HT5 : Hid (t.In wb 0 wb.heap.size) := HT4.out.later g5
  have HXB := Lib.hid hXB
  clear g5 hXB HB4 G4 HX4 HT4
  generalize w4.heap.size = b7 at *
  have HXE : Hid (x.er = ta) := hxe.out
  have HTE : Hid (t.er = tb) := hte.out
  clear hxe hte
  obtain ⟨HFN, HFS, HFO⟩ := fewE_parts HFE.out
  have HFN := Lib.hid HFN
  have HFS := Lib.hid HFS
  have HFO := Lib.hid HFO
  have HNB : Hid (n.er.bulk ≤ 262144) := by show _ ≤ _; have := few_bulk HFN.out; omega
  have HXX : Hid (x.er.bulk ≤ 1048576) := by
    show _ ≤ _
    rw [HXE.out]
    have := apply_bulk (s := s.er) HNB.out (fewOp_tiny HFO.out).1
    rw [HRES.out] at this
    exact this
  have RS := Lib.hid (fun w1 (g : Grew wb w1) => refSame04_any x NT.nil w1 (NT.Ok.grew HX5.out g) NT.nil_in HXX.out (by rw [nil_er]; decide))
  unfold NT.val at RS
  by_cases her : er = 0
  case neg =>
    have t1 : (er != 0) = true := by simpa using her
    have hno := apply_no (n := n.er) (s := s.er) (o := o.er) (by rw [HRES.out]; exact her)
    rw [HRES.out] at hno
    have HN1 : Hid (x.er = NT.nil.er) := by show _ = _; rw [HXE.out, nil_er]; exact hno.1
    have HN2 : Hid (t.er = SelE.nil) := by show _ = _; rw [HTE.out]; exact hno.2
    clear hno
    obtain ⟨x0, x1, x2, x3⟩ := HXB.out.x
    go_wp2_with fail
    refine (RS.out wb (Grew.refl _)).mono ?_
    rintro e w6 ⟨rfl, g6⟩
    have t2 : decide (x.er = NT.nil.er) = true := by rw [HN1.out]; simp
    go_wp2_with fail
    go_ret
    exact ⟨rfl, G5.out.trans g6⟩
  case pos =>
  subst her
  have t1 : ((0 : Int) != 0) = false := rfl
  clear RS t1
  have hbk := apply_back (n := n.er) (s := s.er) (o := o.er) (by have := HNB.out; omega) (by rw [HRES.out])
  have hse := apply_sel (n := n.er) (s := s.er) (o := o.er) (by have := HNB.out; omega) (by rw [HRES.out])
  have hfb := fewOp_bulk HFO.out
  have hbu := apply_bulk2 (n := n.er) (s := s.er) (o := o.er) (m := 12700) HNB.out hfb.1 hfb.2.1 (by omega)
  rw [HRES.out] at hbk hse hbu
  have hnb := few_bulk HFN.out
  have HXT : Hid (x.er.bulk ≤ 262144) := by show _ ≤ _; rw [HXE.out]; simp only at hbu; omega
  obtain ⟨htn, hpl, hdl⟩ := fewOp_tiny HFO.out
  have HIT := Lib.hid (inv_tiny htn hpl hdl)
  have IV := Lib.hid (fun w1 (g : Grew wb w1) => inverse_any o w1 (HF.out.grew (G5.out.trans g)).ho htn.1)
  have hdd := fewOp_dst HFO.out
  have hsl := fewSel_len HFS.out
  have HTL : Hid (t.a.p.l.length ≤ 262144 ∧ t.f.p.l.length ≤ 262144) := by
    have e : t.er = (if o.er.kind = 9 then o.er.dst else s.er) := by rw [HTE.out]; exact hse.2
    have h1 : t.a.p.l = (if o.er.kind = 9 then o.er.dst else s.er).a.p := congrArg (fun s => s.a.p) e
    have h2 : t.f.p.l = (if o.er.kind = 9 then o.er.dst else s.er).f.p := congrArg (fun s => s.f.p) e
    show _ ∧ _
    rw [h1, h2]
    split
    · omega
    · omega
  have HSL : Hid (s.a.p.l.length ≤ 1048576 ∧ s.f.p.l.length ≤ 1048576) := ⟨Nat.le_trans hsl.1 (by decide), Nat.le_trans hsl.2 (by decide)⟩
  have HIE : Hid ((invT o.er).2 = 0) := hbk.1
  have HAB : Hid (applyT x.er t.er (invT o.er).1 = (n.er, s.er, 0)) := by show _ = _; rw [HXE.out, HTE.out]; exact hbk.2
  have NS := Lib.hid (fun (y : NT) w1 (hy : y.Ok w1) (he : y.er = n.er) (g : Grew wb w1) => nodeSame_any y n w1 hy (HF.out.grew (G5.out.trans g)).hn (by rw [he]; have := HNB.out; omega) (by have := HNB.out; omega))
  have SS := Lib.hid (fun (u : SelL) (hu : u.er = s.er) w1 (h : u.In w1 0 w1.heap.size) (g : Grew wb w1) => sameSel_any u s w1 h (HF.out.grew (G5.out.trans g)).hs (by have h1 : u.a.p.l = s.a.p.l := congrArg (fun s : SelE => s.a.p) hu; rw [h1]; exact HSL.out.1) (by have h1 : u.f.p.l = s.f.p.l := congrArg (fun s : SelE => s.f.p) hu; rw [h1]; exact HSL.out.2) HSL.out.1 HSL.out.2)
  clear hbk hse hbu hfb hnb htn hpl hdl hdd hsl HRES SN SO
  unfold NT.val at NS
  unfold OpL.val at IV
  rw [hov] at IV
  have rO := HB5.out.2.2.1
  go_wp2_with (show wpList _ _ _ (Oper.mk (some 36) (Op.load 35 (.tmp 5)) _ _ _ _ :: _) _ _; refine wpList_load_mid_g rfl 35 (.tmp 5) rfl (w.heap.size + 2) 0 rfl o.cells _ rO Tryz.underlying35 rfl infoOpB ?_; have ho2 : Value.agg o.cells.toArray = ov := hov; rw [ho2]; clear ho2)
  refine (IV.out wb (Grew.refl _)).mono ?_
  rintro e w6 ⟨b, rfl, g6, hb, hbe⟩
  have G56 := Lib.hid g6
  have HBI : Hid (b.In w6 0 w6.heap.size) := hb.mono (Nat.zero_le _) (Nat.le_refl _)
  have HBE : Hid (b.er = (invT o.er).1) := hbe.out
  clear g6 hb hbe rO IV
  rw [HIE.out]
  obtain ⟨bv, hbv⟩ : ∃ v, b.val = v := ⟨_, rfl⟩
  have HBC : Hid (bv = Value.agg b.cells.toArray) := by show _ = _; rw [← hbv]; rfl
  rw [hbv]
  have HBV := Lib.hid hbv
  clear hbv
  go_upto_region 9 with (show wpList _ _ _ (Oper.mk none (Op.store 35 (.tmp 10) (.tmp 38)) _ _ _ _ :: _) _ _; generalize hW : World.alloc w6 _ = wW; obtain ⟨_, _, tX, _⟩ := boxes1 w6 OpL.zcells _ wW hW; refine wpList_store_mid rfl 35 (.tmp 10) (.tmp 38) rfl w6.heap.size 0 b.cells.toArray rfl HBC.out tX infoOpB (all_oneCell_toArray b.cells_one) ?_; generalize hA : World.setCells wW _ _ _ = w7)
  obtain ⟨g7, rB, z7⟩ := put1_op hW hA
  clear hW hA tX
  have HB7 : Hid (b.In w7 0 w7.heap.size) := (HBI.out.grew g7 (Nat.le_refl _)).mono (Nat.le_refl _) g7.size
  clear HBI
  have G57 := Lib.hid (G56.out.trans g7)
  have RB := Lib.hid (⟨rB, z7⟩ : w7.rangeAt w6.heap.size 0 b.cells ∧ w6.heap.size < w7.heap.size)
  clear g7 rB z7
  generalize w6.heap.size = b10 at *
  have AB := Lib.hid (fun w1 (g : Grew w7 w1) => (have h := HIT.out; apply_any x t b w1 (NT.Ok.grew HX5.out (G57.out.trans g)) (HT5.out.later (G57.out.trans g)) ((HB7.out.grew g (Nat.le_refl _)).mono (Nat.le_refl _) g.size) HXT.out (by rw [HBE.out]; exact h.1) HTL.out.1 HTL.out.2 (by show b.er.path.length ≤ _; rw [HBE.out]; exact h.2.1) (by show b.er.dest.length ≤ _; rw [HBE.out]; exact h.2.2)))
  rw [HBE.out, HAB.out] at AB
  unfold OpL.val at AB
  unfold NT.val at AB
  unfold SelL.val at AB
  have hbv := HBV.out
  unfold OpL.val at hbv
  rw [hbv] at AB
  clear hbv
  obtain ⟨x0, x1, x2, x3⟩ := (HXB.out.grew G57.out).x
  obtain ⟨y0, y1, y2, y3, y4⟩ := (HXB.out.grew G57.out).t
  have rB := RB.out.1
  go_wp2_with (show wpList _ _ _ (Oper.mk (some 43) (Op.load 35 (.tmp 10)) _ _ _ _ :: _) _ _; refine wpList_load_mid_g rfl 35 (.tmp 10) rfl b10 0 rfl b.cells _ rB Tryz.underlying35 rfl infoOpB ?_; rw [← HBC.out])
  refine (AB.out w7 (Grew.refl _)).mono ?_
  rintro e w8 ⟨y, u, rfl, g8, hy, hu, hye, hue⟩
  have G58 := Lib.hid (G57.out.trans g8)
  have HY8 : Hid (y.Ok w8) := hy.mono (Nat.zero_le _) (Nat.le_refl _)
  have HU8 : Hid (u.In w8 0 w8.heap.size) := ⟨IntsIn.mono hu.1 (Nat.zero_le _) (Nat.le_refl _), IntsIn.mono hu.2 (Nat.zero_le _) (Nat.le_refl _)⟩
  have HYE : Hid (y.er = n.er) := hye.out
  have HUE : Hid (u.er = s.er) := hue.out
  clear g8 hy hu hye hue x0 x1 x2 x3 y0 y1 y2 y3 y4 rB AB
  unfold NT.val SelL.val
  go_upto_region 10 with (first | (show wpList _ _ _ (Oper.mk none (Op.store 26 (.tmp 12) (.tmp 45)) _ _ _ _ :: _) _ _; generalize hW : World.alloc (World.alloc w8 _) _ = wW; obtain ⟨tX, tY⟩ := two_there hW; refine wpList_store_mid rfl 26 (.tmp 12) (.tmp 45) rfl w8.heap.size 0 y.cells4.toArray rfl rfl tX infoNode4 (NT.cells4_all _) ?_; generalize hA : World.setCells wW _ _ _ = wa; have tZ : wa.there (w8.heap.size + 1) 0 5 := (by rw [← hA]; exact World.there_setCells tY _ _ _)) | (show wpList _ _ _ (Oper.mk none (Op.store 33 (.tmp 13) (.tmp 46)) _ _ _ _ :: _) _ _; refine wpList_store_mid rfl 33 (.tmp 13) (.tmp 46) rfl (w8.heap.size + 1) 0 u.cells.toArray rfl rfl tZ infoSel (all_oneCell_toArray u.cells_one) ?_; generalize hB : World.setCells wa _ _ _ = wd))
  obtain ⟨g9, hYB⟩ := put2_new hW hA hB
  clear hW hA hB tX tY tZ
  have G59 := Lib.hid (G58.out.trans g9)
  have HY9 : Hid (y.Ok wd) := NT.Ok.grew HY8.out g9
  have HU9 : Hid (u.In wd 0 wd.heap.size) := HU8.out.later g9
  have HYB := Lib.hid hYB
  clear g9 hYB HY8 HU8
  generalize w8.heap.size = b12 at *
  obtain ⟨x0, x1, x2, x3⟩ := HYB.out.x
  obtain ⟨n0, n1, n2, n3⟩ := (HB5.out.grew G59.out).n
  have N1 := Lib.hid (NS.out y wd HY9.out HYE.out G59.out)
  go_wp2_with fail
  refine N1.out.mono ?_
  rintro e w10 ⟨rfl, g10⟩
  have G510 := Lib.hid (G59.out.trans g10)
  have G910 := Lib.hid g10
  clear g10 x0 x1 x2 x3 n0 n1 n2 n3 N1
  have t1 : decide (y.er = n.er) = true := decide_eq_true HYE.out
  obtain ⟨y0, y1, y2, y3, y4⟩ := (HYB.out.grew G910.out).t
  obtain ⟨s0, s1, s2, s3, s4⟩ := (HB5.out.grew G510.out).s
  have S1 := Lib.hid (SS.out u HUE.out w10 (HU9.out.later G910.out) G510.out)
  rw [show sameSelP u.er s.er = true from sameSelP_iff.2 HUE.out] at S1
  rw [t1]
  go_wp2_with fail
  refine S1.out.mono ?_
  rintro e w11 ⟨rfl, g11⟩
  go_wp2_with fail
  go_ret
  exact ⟨rfl, G5.out.trans (G510.out.trans g11)⟩
end Go.Proofs.YtdopncbmlehnoaaGreatDoor
/- redlinelaw12.OpBack, where what it reads is of bulk at most 1048576: the call returns true, and each argument reads as it did. CONDITIONS: the row's own alone. -/
namespace Go.Proofs.YtdopncbmlehnoaaGreatDoor.opBack
open Go.ChangeShapes Go.WideShapes Go.ChangeAt Go.RowKit
open Go.ChangeMaps (open_string shut_string)

theorem own : ownKnob Tryz.prog.godebug = none := by kernel_rfl

set_option maxRecDepth 100000 in
theorem contract (H : Type) (enc : TypeId × Value → H) (W : World) (base : Nat) (args : Array Value) (ds gs : List (DataW H)) (before : List MemPlace)
    (hval : ∀ (j : Nat) t v, Tryz.f3.params[j]? = some t → args[j]? = some v → Value.okWide Tryz.prog W .any base t v)
    (hW : DataW.Whole enc Tryz.prog Tryz.f3.params.toList Rows.opBackSpec.vars false W args.toList ds gs before) (hk : Rows.uptoSmall H (ds ++ gs) = true) :
    Calls Tryz.prog 3 args W fun e W' => ∃ v, e = .returned v ∧ Rows.opBackSpec.post enc Tryz.prog Tryz.f3 false true false false W args v W' := by
  have hW' := hW
  obtain ⟨p, q, hA0, hV, rfl, hfz, hnd⟩ := hW
  have hA : DataW.TrodAll enc Tryz.prog W 0 (fun _ => true) true Tryz.f3.params.toList args.toList ds p := hA0
  rw [Tryz.params3] at hA hval
  obtain ⟨v0, vs0, d0, ds0, p0, q0, hargs, rfl, rfl, h0, r0⟩ := trodAll_cons hA
  obtain ⟨v1, vs1, d1, ds1, p1, q1, rfl, rfl, rfl, h1, r1⟩ := trodAll_cons r0
  obtain ⟨v2, vs2, d2, ds2, p2, q2, rfl, rfl, rfl, h2, r2⟩ := trodAll_cons r1
  obtain ⟨rfl, rfl, rfl⟩ := trodAll_nil r2
  obtain rfl : args = #[v0, v1, v2] := by cases args; simp_all
  obtain ⟨rfl, rfl⟩ := trodVars_none hV
  have hbk : Rows.uptoBulkAll [d0, d1, d2] ≤ 1048576 := of_decide_eq_true hk
  simp only [Rows.uptoBulkAll] at hbk
  obtain ⟨fuel0, hf0⟩ := h0
  obtain ⟨cs0, rfl, _⟩ := okWide_struct Tryz.underlying26 (hval 0 26 v0 rfl rfl)
  obtain ⟨n0, hcs0, hok0, hb0'⟩ := open_node fuel0 _ _ hf0
  have hb0 : n0.er.bulk ≤ Rows.uptoBulk d0 := hb0'
  have hv0 : Value.agg cs0 = n0.val := by
    obtain ⟨l⟩ := cs0
    simp only [Value.cells] at hcs0
    subst hcs0
    rfl
  obtain ⟨fuel1, hf1⟩ := h1
  obtain ⟨cs1, rfl, _⟩ := okWide_struct Tryz.underlying33 (hval 1 33 v1 rfl rfl)
  obtain ⟨x1, hv1, hok1, hb1'⟩ := open_selV hf1
  have hb1 : 1 + x1.a.p.l.length + x1.f.p.l.length ≤ Rows.uptoBulk d1 := hb1'
  obtain ⟨fuel2, hf2⟩ := h2
  obtain ⟨cs2, rfl, _⟩ := okWide_struct Tryz.underlying35 (hval 2 35 v2 rfl rfl)
  obtain ⟨x2, hv2, hok2, hb2'⟩ := open_opV hf2
  have hb2 : 1 + x2.path.l.length + x2.dest.l.length + x2.node.er.bulk + propsBulk x2.old + propsBulk x2.new + x2.text.length ≤ Rows.uptoBulk d2 := hb2'
  rw [hv0, hv1, hv2] at hW' ⊢
  have hpos0 := T.bulk_pos n0.er
  have hpos2 := T.bulk_pos x2.node.er
  refine (opBack_any n0 x1 x2 W ⟨hok0, hok1, hok2, by omega, by omega, by omega, by omega⟩).mono fun e W' ⟨he, hg⟩ => ?_
  exact ⟨_, he, post_law (tb := 4) (by kernel_rfl) (by
    intro t ht
    rw [Tryz.params3] at ht
    simp only [List.mem_cons, List.mem_nil_iff, or_false] at ht
    rcases ht with rfl | rfl | rfl
    all_goals exact ⟨by kernel_rfl, of_decide_eq_true (by kernel_rfl)⟩) hW' rfl rfl Tryz.underlying4 rfl rfl rfl hg⟩

/-- for the witness: the settled world, the listed variables as their initialisers lay them -/
noncomputable def layAt (h : Array Obj) (g : Nat) (cs : Array Value) : Array Obj := h.modify g fun
  | .cells _ t frozen => .cells cs t frozen
  | o => o
noncomputable def laidWorld (os : Os) : World :=
  { World.holding Tryz.prog os ⟨#[], #[], []⟩ with heap := layAt (layAt ((World.holding Tryz.prog os ⟨#[], #[], []⟩).heap) 1 (#[.int .u8 128, .int .u8 191, .int .u8 160, .int .u8 191, .int .u8 128, .int .u8 159, .int .u8 144, .int .u8 191, .int .u8 128, .int .u8 143, .int .u8 0, .int .u8 0, .int .u8 0, .int .u8 0, .int .u8 0, .int .u8 0, .int .u8 0, .int .u8 0, .int .u8 0, .int .u8 0, .int .u8 0, .int .u8 0, .int .u8 0, .int .u8 0, .int .u8 0, .int .u8 0, .int .u8 0, .int .u8 0, .int .u8 0, .int .u8 0, .int .u8 0, .int .u8 0])) 0 ((Go.Pinned.utf8FirstZ.map (fun z : Nat => Value.int .u8 (z : Int))).toArray) }
set_option maxRecDepth 100000 in
theorem laid_met (os : Os) : laidMet Tryz.prog Rows.opBackUptoRow.laid ((laidWorld os).forCall (fun _ _ => 0) ⟨#[], #[.agg #[.bool false, .slice none 0 0, .slice none 0 0, .slice none 0 0], .agg #[.bool false, .slice none 0 0, .int .i64 0, .slice none 0 0, .int .i64 0], .agg #[.int .i64 0, .slice none 0 0, .slice none 0 0, .int .i64 0, .bool false, .slice none 0 0, .slice none 0 0, .slice none 0 0, .slice none 0 0, .slice none 0 0, .slice none 0 0, .bool false, .slice none 0 0, .int .i64 0, .slice none 0 0, .int .i64 0, .bool false, .slice none 0 0, .int .i64 0, .slice none 0 0, .int .i64 0]], []⟩).memory :=
  laidMet_of_run' 8 (by kernel_rfl) (by kernel_rfl)
set_option maxRecDepth 100000 in
theorem reads (os : Os) {H : Type} (enc : TypeId × Value → H) : ∃ places, DataW.whole enc Tryz.prog ((laidWorld os).forCall (fun _ _ => 0) ⟨#[], #[.agg #[.bool false, .slice none 0 0, .slice none 0 0, .slice none 0 0], .agg #[.bool false, .slice none 0 0, .int .i64 0, .slice none 0 0, .int .i64 0], .agg #[.int .i64 0, .slice none 0 0, .slice none 0 0, .int .i64 0, .bool false, .slice none 0 0, .slice none 0 0, .slice none 0 0, .slice none 0 0, .slice none 0 0, .slice none 0 0, .bool false, .slice none 0 0, .int .i64 0, .slice none 0 0, .int .i64 0, .bool false, .slice none 0 0, .int .i64 0, .slice none 0 0, .int .i64 0]], []⟩).memory Tryz.f3.params.toList Rows.opBackSpec.vars false #[Value.agg #[.bool false, .slice none 0 0, .slice none 0 0, .slice none 0 0], Value.agg #[.bool false, .slice none 0 0, .int .i64 0, .slice none 0 0, .int .i64 0], Value.agg #[.int .i64 0, .slice none 0 0, .slice none 0 0, .int .i64 0, .bool false, .slice none 0 0, .slice none 0 0, .slice none 0 0, .slice none 0 0, .slice none 0 0, .slice none 0 0, .bool false, .slice none 0 0, .int .i64 0, .slice none 0 0, .int .i64 0, .bool false, .slice none 0 0, .int .i64 0, .slice none 0 0, .int .i64 0]].toList 8 = some ([.agg [.lit (.bool false), .nil, .nil, .nil], .agg [.lit (.bool false), .agg [.agg [.nil, .lit (.int .i64 0)], .agg [.nil, .lit (.int .i64 0)]]], .agg [.lit (.int .i64 0), .nil, .nil, .lit (.int .i64 0), .agg [.lit (.bool false), .nil, .nil, .nil], .nil, .nil, .nil, .agg [.lit (.bool false), .agg [.agg [.nil, .lit (.int .i64 0)], .agg [.nil, .lit (.int .i64 0)]]], .agg [.lit (.bool false), .agg [.agg [.nil, .lit (.int .i64 0)], .agg [.nil, .lit (.int .i64 0)]]]]], [], places) :=
  ⟨[], by kernel_rfl⟩

set_option maxRecDepth 100000 in
theorem lifted (os : Os) (started : os.Started) (H : Type) (enc : TypeId × Value → H) (F : Stop.Interp) :
    ReturnsInHanded {} Tryz.checked os 3 .any ((Rows.OpenSpec.upto Rows.opBackSpec).preRow enc Tryz.prog Tryz.f3 Rows.opBackUptoRow.domain false Rows.opBackUptoRow.laid) (((Rows.OpenSpec.upto Rows.opBackSpec).at F).post enc Tryz.prog Tryz.f3 false true false false) := by
  obtain ⟨places, hx⟩ := reads os enc
  refine returnsInHanded_of_row (C := Tryz.checked) (s := Rows.OpenSpec.upto Rows.opBackSpec) own started (by kernel_rfl) Tryz.func3
    (witness_row_at (enc := enc) (C := Tryz.checked) false (laidWorld os) #[.agg #[.bool false, .slice none 0 0, .slice none 0 0, .slice none 0 0], .agg #[.bool false, .slice none 0 0, .int .i64 0, .slice none 0 0, .int .i64 0], .agg #[.int .i64 0, .slice none 0 0, .slice none 0 0, .int .i64 0, .bool false, .slice none 0 0, .slice none 0 0, .slice none 0 0, .slice none 0 0, .slice none 0 0, .slice none 0 0, .bool false, .slice none 0 0, .int .i64 0, .slice none 0 0, .int .i64 0, .bool false, .slice none 0 0, .int .i64 0, .slice none 0 0, .int .i64 0]] rfl (by kernel_rfl) (by kernel_rfl) (by kernel_rfl)
      (OpenSpec.preRow_of_cond 8 hx (by kernel_rfl) (fun k hk => by cases hk; kernel_rfl) (by kernel_rfl) (laid_met os))) ?_
  intro W base args ds gs before hval hW _ hk _ _ _ _
  exact contract H enc W base args ds gs before hval hW (hk _ rfl)

set_option maxRecDepth 100000 in
theorem said : Rows.OpBackUptoSaid :=
  OpenClaim.holds_of_cond 3 Tryz.f3 rfl rfl rfl rfl rfl rfl rfl ⟨rfl, rfl, rfl, rfl, rfl⟩ rfl rfl rfl rfl rfl (by kernel_rfl) Tryz.func3 (by kernel_rfl)
    (of_decide_eq_true (by kernel_rfl)) (by unfold Func.isWrapper; rw [if_neg (of_decide_eq_false (by kernel_rfl))]; exact ⟨rfl, rfl⟩)
    (fun os started H enc _ F => by rw [OpenClaim.pre_eq_preRow]; exact lifted os started H enc F)

set_option maxRecDepth 100000 in
theorem plain (f : FuncId) (fn : Func) (hf : Tryz.pinned.checked.prog.funcNamed "redline/redlinelaw12.OpBack" = some f) (hfn : Tryz.pinned.checked.prog.funcs[f]? = some fn) :
    false = Tryz.pinned.checked.prog.looks [] ∧ ∀ (j : Nat) t, fn.params[j]? = some t → Tryz.pinned.checked.prog.wantsStandIn t = false := by
  obtain rfl : f = 3 := Option.some.inj ((show Tryz.prog.funcNamed "redline/redlinelaw12.OpBack" = some 3 by kernel_rfl).symm.trans hf) |>.symm
  obtain rfl : fn = Tryz.f3 := (Option.some.inj (Tryz.func3.symm.trans hfn)).symm
  refine ⟨by kernel_rfl, fun j t ht => ?_⟩
  rw [Tryz.params3] at ht
  have hm := Array.mem_of_getElem? ht
  simp only [List.mem_toArray, List.mem_cons, List.mem_nil_iff, or_false] at hm
  rcases hm with rfl | rfl | rfl
  all_goals first
    | exact (show Tryz.prog.wantsStandIn 26 = false by kernel_rfl)
    | exact (show Tryz.prog.wantsStandIn 33 = false by kernel_rfl)
    | exact (show Tryz.prog.wantsStandIn 35 = false by kernel_rfl)

set_option maxRecDepth 100000 in
theorem proved : Rows.OpBackUptoCardSaid :=
  Claim7.holds_tied_plain_at .later [] _ _ _ _ said (fun _ h => by cases h) (by kernel_rfl) (fun _ h => by cases h) opBackUpto_row_tie rfl ⟨rfl, rfl⟩ (by kernel_rfl) rfl plain (by kernel_rfl)
#print axioms proved
end Go.Proofs.YtdopncbmlehnoaaGreatDoor.opBack
