/- redlineref07.Same, SameSel; redlineref11.Same: of what says the same they say so. -/
import Derived.Test.YtdopncbmlehnoaaGreatDoorK04
import Derived.Test.YtdopncbmlehnoaaGreatDoorK03
import Derived.Test.YtdopncbmlehnoaaGreatDoorK10
import Derived.Test.YtdopncbmlehnoaaGreatDoorK41
import Derived.Test.YtdopncbmlehnoaaGreatDoorK39
import Derived.Test.YtdopncbmlehnoaaGreatDoorK23
import Derived.Test.YtdopncbmlehnoaaGreatDoorK22
import Derived.Test.YtdopncbmlehnoaaGreatDoorK09
namespace Go.Proofs.YtdopncbmlehnoaaGreatDoor
open Go Go.RowKit

theorem same02_true (a b : Option Addr) (c d : Nat) (xs : List Int) (w w' : World) (hx : IntsIn w 0 w.heap.size a c xs) (hy : IntsIn w 0 w.heap.size b d xs) (hl : xs.length ≤ 1048576) (hg : Grew w w') :
    Calls Tryz.prog 121 #[.slice a xs.length c, .slice b xs.length d] w' fun e w'' => e = .returned (.bool true) ∧ Grew w' w'' := by
  have h := same02_any a b c d xs xs w' _ _ _ _ (hx.grew hg (Nat.le_refl _)) (hy.grew hg (Nat.le_refl _)) hl hl hg.size hg.size
  rw [decide_eq_true rfl] at h
  exact h
set_option maxHeartbeats 1000000 in
theorem ptSame_any (x y : PtL) (w w0 : World) (hx : x.In w 0 w.heap.size) (hy : y.In w 0 w.heap.size) (he : x.er = y.er) (hl : x.p.l.length ≤ 1048576) (hg0 : Grew w w0) :
    Calls Tryz.prog 66 #[.agg #[.slice x.p.a x.p.l.length x.p.c, .int .i64 x.o], .agg #[.slice y.p.a y.p.l.length y.p.c, .int .i64 y.o]] w0 fun e w' => e = .returned (.bool true) ∧ Grew w0 w' := by
  have e1 : x.p.l = y.p.l := congrArg PtE.p he
  have e2 : x.o = y.o := congrArg PtE.o he
  obtain ⟨⟨xa, xc, xl⟩, xo⟩ := x
  obtain ⟨⟨ya, yc, yl⟩, yo⟩ := y
  simp only at e1 e2 hl
  subst e1 e2
  have S := Lib.hid (fun w' (hg : Grew w w') => same02_true xa ya xc yc xl w w' hx hy hl hg)
  have ht : (xo == xo) = true := by simp
  clear he hx hy
  go_enter Tryz.func66, Tryz.ntmps66
  go_wp2_with fail
  refine (S.out _ (hg0.trans ((Grew.alloc1 _ _).alloc _))).mono ?_
  rintro e w1 ⟨rfl, g1⟩
  go_wp2_with fail
  go_ret
  exact ⟨rfl, ((Grew.alloc1 _ _).alloc _).trans g1⟩

/-- two boxes: their cells -/
theorem boxes_at {w w1 : World} {cs ds : Array Value} {t u : TypeId} (g : Grew ((w.alloc (.cells cs t)).alloc (.cells ds u)) w1) : (∀ j v, cs[j]? = some v → w1.cell? ⟨w.heap.size, j, none⟩ = some v) ∧ (∀ j v, ds[j]? = some v → w1.cell? ⟨w.heap.size + 1, j, none⟩ = some v) := by
  refine ⟨fun j v h => box_at ((Grew.alloc1 _ _).trans g) h, fun j v h => ?_⟩
  have := box_at g h
  rw [World.size_alloc] at this
  exact this

set_option maxHeartbeats 1000000 in
theorem selSame_any (x y : SelL) (w w0 : World) (hx : x.In w 0 w.heap.size) (hy : y.In w 0 w.heap.size) (he : x.er = y.er) (hl : x.a.p.l.length ≤ 1048576 ∧ x.f.p.l.length ≤ 1048576) (hg0 : Grew w w0) :
    Calls Tryz.prog 23 #[.agg #[.bool x.is, .slice x.a.p.a x.a.p.l.length x.a.p.c, .int .i64 x.a.o, .slice x.f.p.a x.f.p.l.length x.f.p.c, .int .i64 x.f.o], .agg #[.bool y.is, .slice y.a.p.a y.a.p.l.length y.a.p.c, .int .i64 y.a.o, .slice y.f.p.a y.f.p.l.length y.f.p.c, .int .i64 y.f.o]] w0 fun e w' => e = .returned (.bool true) ∧ Grew w0 w' := by
  have e0 : x.is = y.is := congrArg SelE.is he
  have S1 := Lib.hid (fun w' (hg : Grew w w') => ptSame_any x.a y.a w w' hx.1 hy.1 (congrArg SelE.a he) hl.1 hg)
  have S2 := Lib.hid (fun w' (hg : Grew w w') => ptSame_any x.f y.f w w' hx.2 hy.2 (congrArg SelE.f he) hl.2 hg)
  have ht : (x.is == y.is) = true := by simp [e0]
  clear he hx hy hl e0
  generalize x.is = xi at *
  generalize y.is = yi at *
  generalize x.a = xa at *
  generalize y.a = ya at *
  generalize x.f = xf at *
  generalize y.f = yf at *
  have HB := Lib.hid (fun w' (g : Grew ((w0.alloc (.cells #[.bool xi, .slice xa.p.a xa.p.l.length xa.p.c, .int .i64 xa.o, .slice xf.p.a xf.p.l.length xf.p.c, .int .i64 xf.o] 33)).alloc (.cells #[.bool yi, .slice ya.p.a ya.p.l.length ya.p.c, .int .i64 ya.o, .slice yf.p.a yf.p.l.length yf.p.c, .int .i64 yf.o] 33)) w') => boxes_at g)
  go_enter Tryz.func23, Tryz.ntmps23
  go_wp2_with fail
  refine (S1.out _ (hg0.trans ((Grew.alloc1 _ _).alloc _))).mono ?_
  rintro e w1 ⟨rfl, g1⟩
  have c3 := (HB.out _ g1).1 3 _ rfl
  have c4 := (HB.out _ g1).1 4 _ rfl
  have d3 := (HB.out _ g1).2 3 _ rfl
  have d4 := (HB.out _ g1).2 4 _ rfl
  go_wp2_with fail
  refine (S2.out _ (hg0.trans (((Grew.alloc1 _ _).alloc _).trans g1))).mono ?_
  rintro e w2 ⟨rfl, g2⟩
  go_wp2_with fail
  go_ret
  exact ⟨rfl, (((Grew.alloc1 _ _).alloc _).trans g1).trans g2⟩
end Go.Proofs.YtdopncbmlehnoaaGreatDoor
/- THE LAW redlinelaw12.OpRight: the contract. -/
namespace Go.Proofs.YtdopncbmlehnoaaGreatDoor
open Go Go.RowKit

theorem fewOp_dst {o : OpE} (h : fewOpE o = true) : o.dst.a.p.length ≤ 60 ∧ o.dst.f.p.length ≤ 60 := by
  unfold fewOpE fewSelE at h
  simp only [Bool.and_eq_true, decide_eq_true_eq] at h
  have := h.1.1.2
  omega
theorem fewSel_len {s : SelE} (h : fewSelE s = true) : s.a.p.length ≤ 60 ∧ s.f.p.length ≤ 60 := by
  unfold fewSelE at h
  simp only [Bool.and_eq_true, decide_eq_true_eq] at h
  omega
theorem OpL.cells_dst {w : World} {b : Nat} {o : OpL} (h : w.rangeAt b 0 o.cells) : w.cell? ⟨b, 16, none⟩ = some (.bool o.dst.is) ∧ w.cell? ⟨b, 17, none⟩ = some (.slice o.dst.a.p.a o.dst.a.p.l.length o.dst.a.p.c) ∧ w.cell? ⟨b, 18, none⟩ = some (.int .i64 o.dst.a.o) ∧ w.cell? ⟨b, 19, none⟩ = some (.slice o.dst.f.p.a o.dst.f.p.l.length o.dst.f.p.c) ∧ w.cell? ⟨b, 20, none⟩ = some (.int .i64 o.dst.f.o) :=
  ⟨rangeAt_at0 h (j := 16) rfl, rangeAt_at0 h (j := 17) rfl, rangeAt_at0 h (j := 18) rfl, rangeAt_at0 h (j := 19) rfl, rangeAt_at0 h (j := 20) rfl⟩
/-- a selection put in a box laid for it -/
theorem put1_sel {w W wa : World} {t : SelL} {tB : TypeId} (hW : w.alloc (.cells SelL.nil.cells.toArray tB) = W) (ha : W.setCells w.heap.size 0 t.cells = wa) : Grew w wa ∧ wa.rangeAt w.heap.size 0 t.cells ∧ w.heap.size < wa.heap.size ∧ wa.there w.heap.size 0 5 := by
  obtain ⟨g1, _, t1, z1⟩ := boxes1 w SelL.nil.cells tB W hW
  have k1 : Keeps (· = w.heap.size) W wa := by rw [← ha]; exact setCells_keepsO _ t.cells 0 W
  have s1 := k1.size
  exact ⟨g1.keep k1 (fun j hj => by have : j = w.heap.size := hj; omega), by rw [← ha]; exact rangeAt_put t1, by omega, by rw [← ha]; exact World.there_setCells t1 _ _ _⟩
theorem sel_cells {w : World} {b : Nat} {s : SelL} (h : w.rangeAt b 0 s.cells) : w.cell? ⟨b, 0, none⟩ = some (.bool s.is) ∧ w.cell? ⟨b, 1, none⟩ = some (.slice s.a.p.a s.a.p.l.length s.a.p.c) ∧ w.cell? ⟨b, 2, none⟩ = some (.int .i64 s.a.o) ∧ w.cell? ⟨b, 3, none⟩ = some (.slice s.f.p.a s.f.p.l.length s.f.p.c) ∧ w.cell? ⟨b, 4, none⟩ = some (.int .i64 s.f.o) :=
  ⟨rangeAt_at0 h (j := 0) rfl, rangeAt_at0 h (j := 1) rfl, rangeAt_at0 h (j := 2) rfl, rangeAt_at0 h (j := 3) rfl, rangeAt_at0 h (j := 4) rfl⟩

set_option maxRecDepth 100000 in
set_option maxHeartbeats 8000000 in
theorem opRight_any (n : NT) (s : SelL) (o : OpL) (w : World) (hf0 : Fit n s o w) : Calls Tryz.prog 7 #[n.val, s.val, o.val] w fun e w' => e = .returned (.bool true) ∧ Grew w w' := by
  have FE := Lib.hid (fun w1 (g : Grew w w1) => few12_any n s o w1 (hf0.grew g))
  have HF := Lib.hid hf0
  have AP := Lib.hid (fun (h : fewE n.er s.er o.er = true) w1 (g : Grew w w1) => apply12 h (hf0.grew g))
  have SN := Lib.hid (fun w1 (g : Grew w w1) (hb : n.er.bulk ≤ 262144) => size_any n w1 (hf0.grew g).hn (by omega))
  have SO := Lib.hid (fun w1 (g : Grew w w1) => size_any o.node w1 (hf0.grew g).ho.2.1 (hf0.grew g).ob)
  clear hf0
  unfold OpL.val at FE AP ⊢
  unfold NT.val at FE AP SN SO ⊢
  unfold SelL.val at FE AP ⊢
  go_enter Tryz.func7, Tryz.ntmps7
  go_upto_region 1 with fail
  generalize hW : ((w.alloc _).alloc _).alloc _ = w1
  obtain ⟨g1, hB, z1⟩ := b3_new w n s o _ _ _ w1 hW
  have HB1 := Lib.hid hB
  have G1 := Lib.hid g1
  clear hW z1 hB g1
  go_wp2_with fail
  refine (live12_any _).mono ?_
  rintro e w2 ⟨rfl, g2⟩
  have HB2 := Lib.hid (HB1.out.grew g2)
  have G2 := Lib.hid (G1.out.trans g2)
  clear g2 HB1 G1
  obtain ⟨n0, n1, n2, n3⟩ := HB2.out.n
  obtain ⟨s0, s1, s2, s3, s4⟩ := HB2.out.s
  have rO := HB2.out.2.2.1
  obtain ⟨ov, hov⟩ : ∃ v, o.val = v := ⟨_, rfl⟩
  unfold OpL.val at hov
  rw [hov] at FE AP
  go_wp2_with (show wpList _ _ _ (Oper.mk (some 15) (Op.load 35 (.tmp 5)) _ _ _ _ :: _) _ _; refine wpList_load_mid_g rfl 35 (.tmp 5) rfl (w.heap.size + 2) 0 rfl o.cells _ rO Tryz.underlying35 rfl infoOpB ?_; have ho2 : Value.agg o.cells.toArray = ov := hov; rw [ho2]; clear ho2)
  refine (FE.out w2 G2.out).mono ?_
  rintro e w3 ⟨rfl, g3⟩
  have HB3 := Lib.hid (HB2.out.grew g3)
  have G3 := Lib.hid (G2.out.trans g3)
  clear g3 n0 n1 n2 n3 s0 s1 s2 s3 s4 rO HB2 FE G2
  by_cases hfe : fewE n.er s.er o.er = true
  case neg =>
    have hfe : fewE n.er s.er o.er = false := by simpa using hfe
    rw [hfe]
    go_wp2_with fail
    go_ret
    exact ⟨rfl, G3.out⟩
  case pos =>
  have AP1 := Lib.hid (AP.out hfe)
  have HFE := Lib.hid hfe
  rw [hfe]
  clear hfe AP
  obtain ⟨n0, n1, n2, n3⟩ := HB3.out.n
  obtain ⟨s0, s1, s2, s3, s4⟩ := HB3.out.s
  have rO := HB3.out.2.2.1
  go_wp2_with (show wpList _ _ _ (Oper.mk (some 21) (Op.load 35 (.tmp 5)) _ _ _ _ :: _) _ _; refine wpList_load_mid_g rfl 35 (.tmp 5) rfl (w.heap.size + 2) 0 rfl o.cells _ rO Tryz.underlying35 rfl infoOpB ?_; have ho2 : Value.agg o.cells.toArray = ov := hov; rw [ho2]; clear ho2)
  refine (AP1.out w3 G3.out).mono ?_
  rintro e w4 ⟨x, t, rfl, g4, hx, ht, hxe, hte⟩
  have HB4 := Lib.hid (HB3.out.grew g4)
  have G4 := Lib.hid (G3.out.trans g4)
  have HX4 : Hid (x.Ok w4) := hx.mono (Nat.zero_le _) (Nat.le_refl _)
  have HT4 : Hid (t.In w4 0 w4.heap.size) := ⟨IntsIn.mono ht.1 (Nat.zero_le _) (Nat.le_refl _), IntsIn.mono ht.2 (Nat.zero_le _) (Nat.le_refl _)⟩
  clear g4 n0 n1 n2 n3 s0 s1 s2 s3 s4 rO HB3 AP1 G3 hx ht
  unfold NT.val SelL.val
  have HER : Hid ((applyT n.er s.er o.er).2.2 = (applyT n.er s.er o.er).2.2) := rfl
  generalize hres : applyT n.er s.er o.er = res at *
  have HRES := Lib.hid hres
  obtain ⟨ta, tb, er⟩ := res
  clear hres HER
  go_upto_region 6 with (first | (show wpList _ _ _ (Oper.mk none (Op.store 26 (.tmp 7) (.tmp 23)) _ _ _ _ :: _) _ _; generalize hW : World.alloc (World.alloc w4 _) _ = wW; obtain ⟨tX, tY⟩ := two_there hW; refine wpList_store_mid rfl 26 (.tmp 7) (.tmp 23) rfl w4.heap.size 0 x.cells4.toArray rfl rfl tX infoNode4 (NT.cells4_all _) ?_; generalize hA : World.setCells wW _ _ _ = wa; have tZ : wa.there (w4.heap.size + 1) 0 5 := (by rw [← hA]; exact World.there_setCells tY _ _ _)) | (show wpList _ _ _ (Oper.mk none (Op.store 33 (.tmp 8) (.tmp 24)) _ _ _ _ :: _) _ _; refine wpList_store_mid rfl 33 (.tmp 8) (.tmp 24) rfl (w4.heap.size + 1) 0 t.cells.toArray rfl rfl tZ infoSel (all_oneCell_toArray t.cells_one) ?_; generalize hB : World.setCells wa _ _ _ = wb))
  obtain ⟨g5, hXB⟩ := put2_new hW hA hB
  clear hW hA hB tX tY tZ
  have HB5 := Lib.hid (HB4.out.grew g5)
  have G5 := Lib.hid (G4.out.trans g5)
  have HX5 : Hid (x.Ok wb) := NT.Ok.grew HX4.out g5
  have HT5 : Hid (t.In wb 0 wb.heap.size) := HT4.out.later g5
  have HXB := Lib.hid hXB
  clear g5 hXB HB4 G4 HX4 HT4
  generalize w4.heap.size = b7 at *
  have HXE : Hid (x.er = ta) := hxe.out
  have HTE : Hid (t.er = tb) := hte.out
  clear hxe hte
  obtain ⟨HFN, HFS, HFO⟩ := fewE_parts HFE.out
  have HFN := Lib.hid HFN
  have HFS := Lib.hid HFS
  have HFO := Lib.hid HFO
  have HNB : Hid (n.er.bulk ≤ 262144) := by show _ ≤ _; have := few_bulk HFN.out; omega
  have HXX : Hid (x.er.bulk ≤ 1048576) := by
    show _ ≤ _
    rw [HXE.out]
    have := apply_bulk (s := s.er) HNB.out (fewOp_tiny HFO.out).1
    rw [HRES.out] at this
    exact this
  have RS := Lib.hid (fun w1 (g : Grew wb w1) => refSame04_any x NT.nil w1 (NT.Ok.grew HX5.out g) NT.nil_in HXX.out (by rw [nil_er]; decide))
  unfold NT.val at RS
  by_cases her : er = 0
  case neg =>
    have t1 : (er != 0) = true := by simpa using her
    have hno := apply_no (n := n.er) (s := s.er) (o := o.er) (by rw [HRES.out]; exact her)
    rw [HRES.out] at hno
    have HN1 : Hid (x.er = NT.nil.er) := by show _ = _; rw [HXE.out, nil_er]; exact hno.1
    have HN2 : Hid (t.er = SelE.nil) := by show _ = _; rw [HTE.out]; exact hno.2
    clear hno
    obtain ⟨x0, x1, x2, x3⟩ := HXB.out.x
    have CK := Lib.hid (fun w1 (g : Grew wb w1) => check12_any n s o w1 HFE.out (HF.out.grew (G5.out.trans g)))
    have SS := Lib.hid (fun w1 (g : Grew wb w1) => selSame_any t SelL.nil wb w1 HT5.out sel_nil_in (by rw [HN2.out]; rfl) (by have e : t.er = SelE.nil := HN2.out; have h1 : t.a.p.l = [] := congrArg (fun s => s.a.p) e; have h2 : t.f.p.l = [] := congrArg (fun s => s.f.p) e; rw [h1, h2]; decide) g)
    rw [HRES.out] at CK
    unfold NT.val SelL.val OpL.val at CK
    rw [hov] at CK
    clear x0 x1 x2 x3
    obtain ⟨n0, n1, n2, n3⟩ := HB5.out.n
    obtain ⟨s0, s1, s2, s3, s4⟩ := HB5.out.s
    have rO := HB5.out.2.2.1
    have te : (er == er) = true := by simp
    go_wp2_with (show wpList _ _ _ (Oper.mk (some 31) (Op.load 35 (.tmp 5)) _ _ _ _ :: _) _ _; refine wpList_load_mid_g rfl 35 (.tmp 5) rfl (w.heap.size + 2) 0 rfl o.cells _ rO Tryz.underlying35 rfl infoOpB ?_; have ho2 : Value.agg o.cells.toArray = ov := hov; rw [ho2]; clear ho2)
    refine (CK.out wb (Grew.refl _)).mono ?_
    rintro e w6 ⟨rfl, g6⟩
    have G6 := Lib.hid g6
    clear g6 n0 n1 n2 n3 s0 s1 s2 s3 s4 rO CK
    obtain ⟨x0, x1, x2, x3⟩ := (HXB.out.grew G6.out).x
    go_wp2_with fail
    refine (RS.out w6 G6.out).mono ?_
    rintro e w7 ⟨rfl, g7⟩
    have t2 : decide (x.er = NT.nil.er) = true := by rw [HN1.out]; simp
    have G7 := Lib.hid (G6.out.trans g7)
    clear g7 x0 x1 x2 x3
    obtain ⟨y0, y1, y2, y3, y4⟩ := (HXB.out.grew G7.out).t
    rw [t2]
    go_wp2_with fail
    refine (SS.out w7 G7.out).mono ?_
    rintro e w8 ⟨rfl, g8⟩
    go_wp2_with fail
    go_ret
    exact ⟨rfl, G5.out.trans (G7.out.trans g8)⟩
  case pos =>
  subst her
  have t1 : ((0 : Int) != 0) = false := rfl
  clear RS t1
  have hck := apply_chk (n := n.er) (s := s.er) (o := o.er) (by have := HNB.out; omega) (by rw [HRES.out])
  have hse := apply_sel (n := n.er) (s := s.er) (o := o.er) (by have := HNB.out; omega) (by rw [HRES.out])
  have CK := Lib.hid (fun w1 (g : Grew wb w1) => check12_any n s o w1 HFE.out (HF.out.grew (G5.out.trans g)))
  rw [HRES.out] at hck hse CK
  have HLF : Hid (x.lf = false) := by show _ = _; rw [← NT.er_lf, HXE.out]; exact hck.2
  have NC := Lib.hid (fun w1 (g : Grew wb w1) => check04_any x w1 (NT.Ok.grew HX5.out g) HXX.out)
  rw [show x.er.chk = 0 by rw [HXE.out]; exact hck.1] at NC
  have hdl := fewOp_dst HFO.out
  have hsl := fewSel_len HFS.out
  have HTL : Hid (t.a.p.l.length ≤ 1048576 ∧ t.f.p.l.length ≤ 1048576) := by
    have e : t.er = (if o.er.kind = 9 then o.er.dst else s.er) := by rw [HTE.out]; exact hse.2
    have h1 : t.a.p.l = (if o.er.kind = 9 then o.er.dst else s.er).a.p := congrArg (fun s => s.a.p) e
    have h2 : t.f.p.l = (if o.er.kind = 9 then o.er.dst else s.er).f.p := congrArg (fun s => s.f.p) e
    show _ ∧ _
    rw [h1, h2]
    split
    · omega
    · omega
  have CS := Lib.hid (fun w1 (g : Grew wb w1) => checkSel_any x t w1 (NT.Ok.grew HX5.out g) HXX.out (HT5.out.later g) HTL.out.1 HTL.out.2)
  rw [show checkSelT x.er t.er = 0 by rw [HXE.out, HTE.out]; exact hse.1] at CS
  have HTS : Hid (t.er = (if o.er.kind = 9 then o.er.dst else s.er)) := by show _ = _; rw [HTE.out]; exact hse.2
  have SS := Lib.hid (fun (u : SelL) (hu : u.er = (if o.er.kind = 9 then o.er.dst else s.er)) w1 (hl : u.a.p.l.length ≤ 1048576 ∧ u.f.p.l.length ≤ 1048576) (h : u.In w1 0 w1.heap.size) (g : Grew wb w1) => sameSel_any t u w1 (HT5.out.later g) h HTL.out.1 HTL.out.2 hl.1 hl.2)
  have HDL := Lib.hid hdl
  have HSL := Lib.hid hsl
  clear hck hse HRES hdl hsl
  unfold NT.val SelL.val OpL.val at CK
  unfold NT.val at NC CS
  rw [hov] at CK
  have k0 : wb.cell? ⟨w.heap.size + 2, 0, none⟩ = some (.int .i64 o.kind) := rangeAt_at0 HB5.out.2.2.1 (j := 0) rfl
  obtain ⟨s0, s1, s2, s3, s4⟩ := HB5.out.s
  have q := OpL.cells_dst HB5.out.2.2.1
  by_cases hk9 : o.kind = 9
  case pos =>
    have t9 : (o.kind == 9) = true := by simpa using hk9
    have HU : Hid (o.dst.er = (if o.er.kind = 9 then o.er.dst else s.er)) := by show _ = _; rw [if_pos (show o.er.kind = 9 from hk9)]; rfl
    have HUL : Hid (o.dst.a.p.l.length ≤ 1048576 ∧ o.dst.f.p.l.length ≤ 1048576) := ⟨Nat.le_trans HDL.out.1 (by decide), Nat.le_trans HDL.out.2 (by decide)⟩
    have HUI : Hid (o.dst.In wb 0 wb.heap.size) := (HF.out.grew G5.out).ho.2.2.2.2.2.2
    clear hk9
    obtain ⟨d0, d1, d2, d3, d4⟩ := q
    go_upto_region 9 with (show wpList _ _ _ (Oper.mk none (Op.store 33 (.tmp 10) (.tmp 44)) _ _ _ _ :: _) _ _; generalize hW : World.alloc wb _ = wW; obtain ⟨_, _, tX, _⟩ := boxes1 wb SelL.nil.cells _ wW hW; refine wpList_store_mid rfl 33 (.tmp 10) (.tmp 44) rfl wb.heap.size 0 s.cells.toArray rfl rfl tX infoSel (all_oneCell_toArray s.cells_one) ?_; generalize hA : World.setCells wW _ _ _ = wa)
    obtain ⟨g6, rU, z6, tU⟩ := put1_sel hW hA
    clear hW hA tX s0 s1 s2 s3 s4 k0 d0 d1 d2 d3 d4
    have k0 : wa.cell? ⟨w.heap.size + 2, 0, none⟩ = some (.int .i64 o.kind) := rangeAt_at0 (HB5.out.grew g6).2.2.1 (j := 0) rfl
    obtain ⟨d0, d1, d2, d3, d4⟩ := OpL.cells_dst (HB5.out.grew g6).2.2.1
    go_upto_region 11 with (show wpList _ _ _ (Oper.mk none (Op.store 33 (.tmp 10) (.tmp 49)) _ _ _ _ :: _) _ _; refine wpList_store_mid rfl 33 (.tmp 10) (.tmp 49) rfl wb.heap.size 0 o.dst.cells.toArray rfl rfl tU infoSel (all_oneCell_toArray o.dst.cells_one) ?_; generalize hA : World.setCells wa _ _ _ = wc)
    have kV : Keeps (· = wb.heap.size) wa wc := by rw [← hA]; exact setCells_keepsO _ o.dst.cells 0 wa
    have g7 : Grew wb wc := g6.keep kV (fun j hj => by have : j = wb.heap.size := hj; rw [this]; exact Nat.le_refl _)
    have rV : wc.rangeAt wb.heap.size 0 o.dst.cells := by rw [← hA]; exact rangeAt_put tU
    have z7 : wb.heap.size < wc.heap.size := Nat.lt_of_lt_of_le z6 kV.size
    clear hA kV k0 d0 d1 d2 d3 d4 tU rU g6 z6
    have G7 := Lib.hid g7
    have KU := Lib.hid (fun w1 (g : Grew wc w1) => sel_cells (rangeAt_grew rV g z7))
    clear g7 rV z7
    obtain ⟨n0, n1, n2, n3⟩ := (HB5.out.grew G7.out).n
    obtain ⟨s0, s1, s2, s3, s4⟩ := (HB5.out.grew G7.out).s
    have rO := (HB5.out.grew G7.out).2.2.1
    go_wp2_with (show wpList _ _ _ (Oper.mk (some 52) (Op.load 35 (.tmp 5)) _ _ _ _ :: _) _ _; refine wpList_load_mid_g rfl 35 (.tmp 5) rfl (w.heap.size + 2) 0 rfl o.cells _ rO Tryz.underlying35 rfl infoOpB ?_; have ho2 : Value.agg o.cells.toArray = ov := hov; rw [ho2]; clear ho2)
    refine (CK.out wc G7.out).mono ?_
    rintro e w8 ⟨rfl, g8⟩
    have G78 := Lib.hid g8
    have G8 := Lib.hid (G7.out.trans g8)
    clear g8 n0 n1 n2 n3 s0 s1 s2 s3 s4 rO CK
    obtain ⟨x0, x1, x2, x3⟩ := (HXB.out.grew G8.out).x
    go_wp2_with fail
    refine (NC.out w8 G8.out).mono ?_
    rintro e w9 ⟨rfl, g9⟩
    have G79 := Lib.hid (G78.out.trans g9)
    have G9 := Lib.hid (G8.out.trans g9)
    clear g9 x0 x1 x2 x3 NC
    obtain ⟨x0, x1, x2, x3⟩ := (HXB.out.grew G9.out).x
    obtain ⟨y0, y1, y2, y3, y4⟩ := (HXB.out.grew G9.out).t
    have tl : x.lf = false := HLF.out
    rw [tl] at x0 CS
    go_wp2_with fail
    refine (CS.out w9 G9.out).mono ?_
    rintro e w10 ⟨rfl, g10⟩
    have G710 := Lib.hid (G79.out.trans g10)
    have G10 := Lib.hid (G9.out.trans g10)
    clear g10 x0 x1 x2 x3 y0 y1 y2 y3 y4 CS
    obtain ⟨y0, y1, y2, y3, y4⟩ := (HXB.out.grew G10.out).t
    obtain ⟨u0, u1, u2, u3, u4⟩ := KU.out w10 G710.out
    have ts : sameSelP t.er o.dst.er = true := by rw [HU.out, ← HTS.out]; exact sameSelP_iff.2 rfl
    have S1 := Lib.hid (SS.out o.dst HU.out w10 HUL.out (HUI.out.later G10.out) G10.out)
    rw [ts] at S1
    go_wp2_with fail
    refine S1.out.mono ?_
    rintro e w11 ⟨rfl, g11⟩
    go_wp2_with fail
    go_ret
    exact ⟨rfl, G5.out.trans (G10.out.trans g11)⟩
  case neg =>
    have t9 : (o.kind == 9) = false := by simpa using hk9
    have HU : Hid (s.er = (if o.er.kind = 9 then o.er.dst else s.er)) := by show _ = _; rw [if_neg (show ¬ o.er.kind = 9 from hk9)]
    have HUL : Hid (s.a.p.l.length ≤ 1048576 ∧ s.f.p.l.length ≤ 1048576) := ⟨Nat.le_trans HSL.out.1 (by decide), Nat.le_trans HSL.out.2 (by decide)⟩
    have HUI : Hid (s.In wb 0 wb.heap.size) := (HF.out.grew G5.out).hs
    clear hk9
    go_upto_region 9 with (show wpList _ _ _ (Oper.mk none (Op.store 33 (.tmp 10) (.tmp 44)) _ _ _ _ :: _) _ _; generalize hW : World.alloc wb _ = wW; obtain ⟨_, _, tX, _⟩ := boxes1 wb SelL.nil.cells _ wW hW; refine wpList_store_mid rfl 33 (.tmp 10) (.tmp 44) rfl wb.heap.size 0 s.cells.toArray rfl rfl tX infoSel (all_oneCell_toArray s.cells_one) ?_; generalize hA : World.setCells wW _ _ _ = wa)
    obtain ⟨g6, rU, z6, tU⟩ := put1_sel hW hA
    clear hW hA tX s0 s1 s2 s3 s4 k0
    have k0 : wa.cell? ⟨w.heap.size + 2, 0, none⟩ = some (.int .i64 o.kind) := rangeAt_at0 (HB5.out.grew g6).2.2.1 (j := 0) rfl
    go_upto_region 11 with fail
    clear k0 tU
    have G7 := Lib.hid g6
    have KU := Lib.hid (fun w1 (g : Grew wa w1) => sel_cells (rangeAt_grew rU g z6))
    clear g6 rU z6
    obtain ⟨n0, n1, n2, n3⟩ := (HB5.out.grew G7.out).n
    obtain ⟨s0, s1, s2, s3, s4⟩ := (HB5.out.grew G7.out).s
    have rO := (HB5.out.grew G7.out).2.2.1
    go_wp2_with (show wpList _ _ _ (Oper.mk (some 52) (Op.load 35 (.tmp 5)) _ _ _ _ :: _) _ _; refine wpList_load_mid_g rfl 35 (.tmp 5) rfl (w.heap.size + 2) 0 rfl o.cells _ rO Tryz.underlying35 rfl infoOpB ?_; have ho2 : Value.agg o.cells.toArray = ov := hov; rw [ho2]; clear ho2)
    refine (CK.out wa G7.out).mono ?_
    rintro e w8 ⟨rfl, g8⟩
    have G78 := Lib.hid g8
    have G8 := Lib.hid (G7.out.trans g8)
    clear g8 n0 n1 n2 n3 s0 s1 s2 s3 s4 rO CK
    obtain ⟨x0, x1, x2, x3⟩ := (HXB.out.grew G8.out).x
    go_wp2_with fail
    refine (NC.out w8 G8.out).mono ?_
    rintro e w9 ⟨rfl, g9⟩
    have G79 := Lib.hid (G78.out.trans g9)
    have G9 := Lib.hid (G8.out.trans g9)
    clear g9 x0 x1 x2 x3 NC
    obtain ⟨x0, x1, x2, x3⟩ := (HXB.out.grew G9.out).x
    obtain ⟨y0, y1, y2, y3, y4⟩ := (HXB.out.grew G9.out).t
    have tl : x.lf = false := HLF.out
    rw [tl] at x0 CS
    go_wp2_with fail
    refine (CS.out w9 G9.out).mono ?_
    rintro e w10 ⟨rfl, g10⟩
    have G710 := Lib.hid (G79.out.trans g10)
    have G10 := Lib.hid (G9.out.trans g10)
    clear g10 x0 x1 x2 x3 y0 y1 y2 y3 y4 CS
    obtain ⟨y0, y1, y2, y3, y4⟩ := (HXB.out.grew G10.out).t
    obtain ⟨u0, u1, u2, u3, u4⟩ := KU.out w10 G710.out
    have ts : sameSelP t.er s.er = true := by rw [HU.out, ← HTS.out]; exact sameSelP_iff.2 rfl
    have S1 := Lib.hid (SS.out s HU.out w10 HUL.out (HUI.out.later G10.out) G10.out)
    rw [ts] at S1
    go_wp2_with fail
    refine S1.out.mono ?_
    rintro e w11 ⟨rfl, g11⟩
    go_wp2_with fail
    go_ret
    exact ⟨rfl, G5.out.trans (G10.out.trans g11)⟩
end Go.Proofs.YtdopncbmlehnoaaGreatDoor
