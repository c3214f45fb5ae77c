/- op.shaped: the contract. -/
import Derived.Test.YtbhbekocmpmjfaaGreatDoorK32
import Derived.Test.YtbhbekocmpmjfaaGreatDoorK34
import Derived.Test.YtbhbekocmpmjfaaGreatDoorK22
namespace Go.Proofs.YtbhbekocmpmjfaaGreatDoor
open Go Go.RowKit

/-- the boxes of op.shaped that stay -/
def Base (w : World) (n : NT) (o : OpL) (wz : World) : Prop := wz.rangeAt w.heap.size 0 n.cells4 ∧ wz.rangeAt (w.heap.size + 1) 0 o.cells ∧ wz.there (w.heap.size + 2) 0 4 ∧ Grew w wz ∧ w.heap.size + 5 ≤ wz.heap.size
theorem Base.grew {w wz w' : World} {n : NT} {o : OpL} (h : Base w n o wz) (g : Grew wz w') : Base w n o w' := by
  obtain ⟨h1, h2, h3, h4, h5⟩ := h
  exact ⟨rangeAt_grew h1 g (by omega), rangeAt_grew h2 g (by omega), there_grew h3 g (by omega), h4.trans g, Nat.le_trans h5 g.size⟩
theorem Base.keep {w wz w' : World} {n : NT} {o : OpL} (h : Base w n o wz) (k : Keeps (fun k => k = w.heap.size + 3 ∨ k = w.heap.size + 4) wz w') : Base w n o w' := by
  obtain ⟨h1, h2, h3, h4, h5⟩ := h
  refine ⟨rangeAt_keeps h1 k (by omega) (by show ¬ (_ ∨ _); omega), rangeAt_keeps h2 k (by omega) (by show ¬ (_ ∨ _); omega), fun j hj => ?_, h4.keep k (fun j hj => by omega), Nat.le_trans h5 k.size⟩
  obtain ⟨q1, q2⟩ := h3 j hj
  exact ⟨by rw [k.cell (p := ⟨w.heap.size + 2, 0 + j, none⟩) (by show w.heap.size + 2 < _; omega) (by show ¬ (w.heap.size + 2 = _ ∨ w.heap.size + 2 = _); omega)]; exact q1, by rw [k.frozen (p := ⟨w.heap.size + 2, 0 + j, none⟩) (by show w.heap.size + 2 < _; omega) (by show ¬ (w.heap.size + 2 = _ ∨ w.heap.size + 2 = _); omega)]; exact q2⟩
theorem Base.n {w wz : World} {n : NT} {o : OpL} (h : Base w n o wz) : wz.cell? ⟨w.heap.size, 0, none⟩ = some (.bool n.lf) ∧ wz.cell? ⟨w.heap.size, 1, none⟩ = some (.slice n.pa n.ps.length n.pc) ∧ wz.cell? ⟨w.heap.size, 2, none⟩ = some (.slice n.ta n.ts.length n.tc) ∧ wz.cell? ⟨w.heap.size, 3, none⟩ = some (.slice n.ka n.ks.length n.kc) := by
  have h := NT.cells4_at.1 h.1
  unfold NodeAt at h
  simp only [Nat.zero_add] at h
  exact h
theorem retTE_nil {w wz wf : World} {r : T × Int} {er : Int} (hg : Grew w wz) (k3 : Keeps (· = w.heap.size + 2) wz wf) (hr : r = (T.nilT, er)) : RetTE r w (.returned (.tuple #[NT.nil.val, .int .i64 er])) wf := by
  subst hr
  exact ⟨NT.nil, rfl, hg.keep k3 (fun j hj => by rw [hj]; omega), NT.nil_in, nil_er⟩
theorem cut_bulk {t : T} {p : List Int} (h : (cutT t p).2.2 = 0) : (cutT t p).1.bulk + (cutT t p).2.1.bulk = t.bulk := by
  obtain ⟨_, u, hu, h0, h1, _, he⟩ := cut_ok h
  rw [he]
  have h2 := T.bulk_setAt (y' := .mk u.lf u.ps u.ts (u.ks.eraseIdx (p.getD (p.length - 1) 0).toNat)) hu
  have h3 : ∀ (l : List T) (i : Nat), i < l.length → T.bulkAll (l.eraseIdx i) + (l.getD i default).bulk = T.bulkAll l := by
    intro l
    induction l with
    | nil => intro i h; exact absurd h (Nat.not_lt_zero _)
    | cons x r ih =>
      intro i h
      cases i with
      | zero => simp only [List.eraseIdx_cons_zero, T.bulkAll, List.getD_cons_zero]; omega
      | succ i =>
        have := ih i (by simpa using h)
        simp only [List.eraseIdx_cons_succ, T.bulkAll, List.getD_cons_succ]; omega
  have h4 := h3 u.ks (p.getD (p.length - 1) 0).toNat (by omega)
  rw [T.bulk_eq u, T.bulk] at h2
  show (T.setAt _ t _).bulk + (u.ks.getD _ default).bulk = _
  omega
theorem treeCut_any (n : NT) (pa : Option Addr) (pc : Nat) (p : List Int) (w : World) (hn : n.Ok w) (hb : n.er.bulk ≤ 1048576) (hp : IntsIn w 0 w.heap.size pa pc p) (hl : p.length ≤ 1048576) :
    Calls Tryz.prog 128 #[n.val, .slice pa p.length pc] w (RetCut (cutT n.er p) w) := by
  by_cases h0 : p = []
  · subst h0
    exact treeCutNil_any n pa pc w
  · exact treeCutAt_any n pa pc p (List.length_pos_iff.2 h0) w hn hb hp hl
end Go.Proofs.YtbhbekocmpmjfaaGreatDoor
/- op.shaped: the contract, kind 1. -/
namespace Go.Proofs.YtbhbekocmpmjfaaGreatDoor
open Go Go.RowKit

set_option maxRecDepth 100000 in
set_option maxHeartbeats 8000000 in
theorem shaped1_any (n : NT) (o : OpL) (w : World) (hn : n.Ok w) (ho : o.In w 0 w.heap.size) (hb : n.er.bulk ≤ 262144) (ht : o.er.Tiny) (k1 : o.kind = 1) :
    Calls Tryz.prog 69 #[n.val, o.val] w (RetTE (shapedT n.er o.er) w) := by
  have Hk1 := Lib.hid k1
  clear k1
  have later : ∀ {w1}, Grew w w1 → o.In w1 0 w1.heap.size := fun g => (ho.grew g (Nat.le_refl _)).mono (Nat.le_refl _) g.size
  have CC := Lib.hid (fun w1 (g : Grew w w1) => check04_any o.node w1 (NT.In.ok (later g).2.1 (Nat.le_refl _)) ht.1.2.1)
  have CPC := Lib.hid (fun w1 (g : Grew w w1) => check01_any o.new o.na o.nc w1 0 w1.heap.size (later g).2.2.2.1 (Nat.le_refl _) (Nat.le_trans ht.2.1.2 (by omega)))
  have CCU := Lib.hid (fun w1 (g : Grew w w1) => treeCut_any n o.path.a o.path.c o.path.l w1 (NT.Ok.grew hn g) (by omega) (later g).1.1 ht.1.1.1)
  have CA := Lib.hid (fun w1 (g : Grew w w1) => treeAdd_any n o.node o.path.a o.path.c o.path.l w1 (NT.Ok.grew hn g) (by omega) (NT.In.ok (later g).2.1 (Nat.le_refl _)) ht.1.2.1 (later g).1.1 ht.1.1.1)
  have CS := Lib.hid (fun (y : NT) w1 (g : Grew w w1) (hy : y.Ok w1) (hyb : y.er.bulk ≤ 1048576) => nodeSame_any y o.node w1 hy (NT.In.ok (later g).2.1 (Nat.le_refl _)) hyb ht.1.2.1)
  have CM := Lib.hid (fun (x y : NT) w1 (g : Grew w w1) (hx : x.Ok w1) (hy : y.Ok w1) (hbb : x.er.bulk + y.er.bulk ≤ 1048576) => merged_any x y o w1 hx hy (later g) hbb ht.1)
  have CSP := Lib.hid (fun (x y : NT) w1 (g : Grew w w1) (hx : x.Ok w1) (hy : y.Ok w1) (hbb : x.er.bulk + y.er.bulk ≤ 262144) => opSplit_any x y o w1 hx hy (later g) (by have h : propsBulk o.new ≤ 262144 := ht.2.1.2; omega) ht.1)
  have CMV := Lib.hid (fun (x y : NT) w1 (g : Grew w w1) (hx : x.Ok w1) (hy : y.Ok w1) (h1 : x.er.bulk ≤ 1048576) (h2 : y.er.bulk ≤ 1048576) => treeAdd_any x y o.dest.a o.dest.c o.dest.l w1 hx h1 hy h2 (later g).1.2 ht.1.1.2)
  have CCT := Lib.hid (fun w1 (g : Grew w w1) => opContent_any n o w1 (NT.Ok.grew hn g) (later g) hb ht)
  have HB := Lib.hid hb
  have HCB := Lib.hid (fun h => cut_bulk (t := n.er) (p := o.path.l) h)
  have HM : Hid (shapedT n.er o.er = if o.kind = 1 then (if o.node.er.chk ≠ 0 then (T.nilT, o.node.er.chk) else addT n.er o.path.l o.node.er)
    else if o.kind = 4 ∧ checkPs o.new ≠ 0 then (T.nilT, checkPs o.new)
    else if (o.kind = 2 ∨ o.kind = 3 ∨ o.kind = 4 ∨ o.kind = 5) ∧ (cutT n.er o.path.l).2.2 ≠ 0 then (T.nilT, (cutT n.er o.path.l).2.2)
    else if o.kind = 2 then (if (cutT n.er o.path.l).2.1 = o.node.er then ((cutT n.er o.path.l).1, 0) else (T.nilT, 9))
    else if o.kind = 3 then mergedT (cutT n.er o.path.l).1 (cutT n.er o.path.l).2.1 o.er
    else if o.kind = 4 then splitT (cutT n.er o.path.l).1 (cutT n.er o.path.l).2.1 o.er
    else if o.kind = 5 then addT (cutT n.er o.path.l).1 o.dest.l (cutT n.er o.path.l).2.1
    else contentT n.er o.er) := rfl
  generalize shapedT n.er o.er = res at *
  generalize contentT n.er o.er = ctr at *
  generalize addT n.er o.path.l o.node.er = adr at *
  generalize cutT n.er o.path.l = cu at *
  obtain ⟨cx, cy, ce⟩ := cu
  clear later hn ho hb ht
  unfold NT.val at CC CA CS CCU CM CSP CMV CCT ⊢
  unfold OpL.val at CM CSP CCT ⊢
  go_enter Tryz.func69, Tryz.ntmps69
  go_upto_region 2 with fail
  generalize hW : ((((w.alloc _).alloc _).alloc _).alloc _).alloc _ = w1
  obtain ⟨g0, rN, rO, _, tF, z0⟩ := boxes3 w n.cells4 o.cells NT.nil.cells4 26 35 26 _ rfl
  obtain ⟨g1, _, tX, _, tY, z1⟩ := boxes2 (((w.alloc (.cells n.cells4.toArray 26)).alloc (.cells o.cells.toArray 35)).alloc (.cells NT.nil.cells4.toArray 26)) NT.nil.cells4 NT.nil.cells4 _ _ w1 hW
  clear hW
  rw [z0] at tX tY z1
  have hb1 : Base w n o w1 := ⟨rangeAt_grew rN g1 (by omega), rangeAt_grew rO g1 (by omega), there_grew tF g1 (by omega), g0.trans g1, by omega⟩
  obtain ⟨ov, hov⟩ : ∃ v, o.val = v := ⟨_, rfl⟩
  unfold OpL.val at hov
  rw [hov]
  clear hov
  have HB1 := Lib.hid hb1
  have TX : Hid (w1.there (w.heap.size + 3) 0 4) := tX
  have TY : Hid (w1.there (w.heap.size + 4) 0 4) := by show w1.there _ 0 4; exact tY
  have HZ1 : Hid (w1.heap.size = w.heap.size + 5) := by show _ = _; omega
  clear g0 rN rO tF z0 g1 tX tY z1 hb1
  have k0 := rangeAt_at0 HB1.out.2.1 (j := 0) rfl
  have k1 := Hk1.out
  have t1 : (o.kind == 1) = true := by simpa using k1
  have t2 : (o.kind == 2) = false := by simpa using (show ¬ o.kind = 2 by omega)
  have t3 : (o.kind == 3) = false := by simpa using (show ¬ o.kind = 3 by omega)
  have t4 : (o.kind == 4) = false := by simpa using (show ¬ o.kind = 4 by omega)
  have t5 : (o.kind == 5) = false := by simpa using (show ¬ o.kind = 5 by omega)
  have HMx : Hid (res = if o.node.er.chk ≠ 0 then (T.nilT, o.node.er.chk) else adr) := by show _ = _; rw [HM.out, if_pos k1]
  have j4 := rangeAt_at0 HB1.out.2.1 (j := 4) rfl
  have j5 := rangeAt_at0 HB1.out.2.1 (j := 5) rfl
  have j6 := rangeAt_at0 HB1.out.2.1 (j := 6) rfl
  have j7 := rangeAt_at0 HB1.out.2.1 (j := 7) rfl
  have HCx := Lib.hid (CC.out w1 HB1.out.2.2.2.1)
  generalize o.node.er.chk = ck at *
  clear HM
  go_wp2_with fail
  refine HCx.out.mono ?_
  rintro e w2 ⟨rfl, g2⟩
  have hBZ := HB1.out.grew g2
  clear j4 j5 j6 j7 k0 HCx g2
  by_cases hck : ck = 0
  · have tck : (ck != 0) = false := by simp [hck]
    have HRR : Hid (res = adr) := by show _ = _; rw [HMx.out, if_neg (by simp [hck])]
    have HCC := Lib.hid (CA.out w2 hBZ.2.2.2.1)
    rw [← HRR.out] at HCC
    obtain ⟨n0, n1, n2, n3⟩ := hBZ.n
    have j1 := rangeAt_at0 hBZ.2.1 (j := 1) rfl
    have j4 := rangeAt_at0 hBZ.2.1 (j := 4) rfl
    have j5 := rangeAt_at0 hBZ.2.1 (j := 5) rfl
    have j6 := rangeAt_at0 hBZ.2.1 (j := 6) rfl
    have j7 := rangeAt_at0 hBZ.2.1 (j := 7) rfl
    clear hck HMx
    go_wp2_with fail
    refine HCC.out.mono ?_
    rintro e wB ⟨y, rfl, gB, hy, hye⟩
    have hBB := hBZ.grew gB
    have t3 := hBB.2.2.1
    have HP := Lib.hid (rangeAt_put (cs := y.cells4) t3)
    have HK := Lib.hid (setCells_keepsO (w.heap.size + 2) y.cells4 0 wB)
    have HFIN := Lib.hid (fun wf (k3 : Keeps (· = w.heap.size + 2) wB wf) => retTE_box (x := y) (r := res) (bx := w.heap.size + 2) (by omega) (by have := hBZ.2.2.2.2; omega) hBZ.2.2.2.1 gB hy hye k3)
    clear hy hye gB hBB hBZ
    go_wp2_with (refine wpList_store_mid rfl 26 (.tmp 4) (.tmp 55) rfl (w.heap.size + 2) 0 y.cells4.toArray rfl rfl t3 infoNode4 (NT.cells4_all _) ?_; generalize hF : World.setCells wB _ _ _ = wf; have r3 : wf.rangeAt (w.heap.size + 2) 0 y.cells4 := hF ▸ HP.out; have k3 : Keeps (· = w.heap.size + 2) wB wf := hF ▸ HK.out; clear hF HP HK)
    exact bodyPost_ret (v := .tuple #[y.val, .int .i64 res.2]) (results_cellE Tryz.results69 _ wf (w.heap.size + 2) 0 y.cells4 _ _ rfl rfl r3 Tryz.underlying26 rfl infoNode4) rfl (HFIN.out wf k3)
  · have tck : (ck != 0) = true := by simpa using hck
    have HN : Hid (res = (T.nilT, ck)) := by show _ = _; rw [HMx.out, if_pos hck]
    clear hck HMx
    have t3 := hBZ.2.2.1
    have HP := Lib.hid (rangeAt_put (cs := NT.nil.cells4) t3)
    have HK := Lib.hid (setCells_keepsO (w.heap.size + 2) NT.nil.cells4 0 w2)
    have FIN := Lib.hid (fun wq (k3 : Keeps (· = w.heap.size + 2) w2 wq) => retTE_nil hBZ.2.2.2.1 k3 HN.out)
    clear hBZ
    go_wp2_with (refine wpList_store_mid rfl 26 (.tmp 4) (.tmp 47) rfl (w.heap.size + 2) 0 NT.nil.cells4.toArray rfl rfl t3 infoNode4 (NT.cells4_all _) ?_; generalize hF : World.setCells w2 _ _ _ = wf; have r3 : wf.rangeAt (w.heap.size + 2) 0 NT.nil.cells4 := hF ▸ HP.out; have k3 : Keeps (· = w.heap.size + 2) w2 wf := hF ▸ HK.out; clear hF HP HK)
    exact bodyPost_ret (v := .tuple #[NT.nil.val, .int .i64 ck]) (results_cellE Tryz.results69 _ wf (w.heap.size + 2) 0 NT.nil.cells4 _ _ rfl rfl r3 Tryz.underlying26 rfl infoNode4) rfl (FIN.out wf k3)
end Go.Proofs.YtbhbekocmpmjfaaGreatDoor
/- op.shaped: the contract, kind 2. -/
namespace Go.Proofs.YtbhbekocmpmjfaaGreatDoor
open Go Go.RowKit

set_option maxRecDepth 100000 in
set_option maxHeartbeats 8000000 in
theorem shaped2_any (n : NT) (o : OpL) (w : World) (hn : n.Ok w) (ho : o.In w 0 w.heap.size) (hb : n.er.bulk ≤ 262144) (ht : o.er.Tiny) (k2 : o.kind = 2) :
    Calls Tryz.prog 69 #[n.val, o.val] w (RetTE (shapedT n.er o.er) w) := by
  have Hk2 := Lib.hid k2
  clear k2
  have later : ∀ {w1}, Grew w w1 → o.In w1 0 w1.heap.size := fun g => (ho.grew g (Nat.le_refl _)).mono (Nat.le_refl _) g.size
  have CC := Lib.hid (fun w1 (g : Grew w w1) => check04_any o.node w1 (NT.In.ok (later g).2.1 (Nat.le_refl _)) ht.1.2.1)
  have CPC := Lib.hid (fun w1 (g : Grew w w1) => check01_any o.new o.na o.nc w1 0 w1.heap.size (later g).2.2.2.1 (Nat.le_refl _) (Nat.le_trans ht.2.1.2 (by omega)))
  have CCU := Lib.hid (fun w1 (g : Grew w w1) => treeCut_any n o.path.a o.path.c o.path.l w1 (NT.Ok.grew hn g) (by omega) (later g).1.1 ht.1.1.1)
  have CA := Lib.hid (fun w1 (g : Grew w w1) => treeAdd_any n o.node o.path.a o.path.c o.path.l w1 (NT.Ok.grew hn g) (by omega) (NT.In.ok (later g).2.1 (Nat.le_refl _)) ht.1.2.1 (later g).1.1 ht.1.1.1)
  have CS := Lib.hid (fun (y : NT) w1 (g : Grew w w1) (hy : y.Ok w1) (hyb : y.er.bulk ≤ 1048576) => nodeSame_any y o.node w1 hy (NT.In.ok (later g).2.1 (Nat.le_refl _)) hyb ht.1.2.1)
  have CM := Lib.hid (fun (x y : NT) w1 (g : Grew w w1) (hx : x.Ok w1) (hy : y.Ok w1) (hbb : x.er.bulk + y.er.bulk ≤ 1048576) => merged_any x y o w1 hx hy (later g) hbb ht.1)
  have CSP := Lib.hid (fun (x y : NT) w1 (g : Grew w w1) (hx : x.Ok w1) (hy : y.Ok w1) (hbb : x.er.bulk + y.er.bulk ≤ 262144) => opSplit_any x y o w1 hx hy (later g) (by have h : propsBulk o.new ≤ 262144 := ht.2.1.2; omega) ht.1)
  have CMV := Lib.hid (fun (x y : NT) w1 (g : Grew w w1) (hx : x.Ok w1) (hy : y.Ok w1) (h1 : x.er.bulk ≤ 1048576) (h2 : y.er.bulk ≤ 1048576) => treeAdd_any x y o.dest.a o.dest.c o.dest.l w1 hx h1 hy h2 (later g).1.2 ht.1.1.2)
  have CCT := Lib.hid (fun w1 (g : Grew w w1) => opContent_any n o w1 (NT.Ok.grew hn g) (later g) hb ht)
  have HB := Lib.hid hb
  have HCB := Lib.hid (fun h => cut_bulk (t := n.er) (p := o.path.l) h)
  have HM : Hid (shapedT n.er o.er = if o.kind = 1 then (if o.node.er.chk ≠ 0 then (T.nilT, o.node.er.chk) else addT n.er o.path.l o.node.er)
    else if o.kind = 4 ∧ checkPs o.new ≠ 0 then (T.nilT, checkPs o.new)
    else if (o.kind = 2 ∨ o.kind = 3 ∨ o.kind = 4 ∨ o.kind = 5) ∧ (cutT n.er o.path.l).2.2 ≠ 0 then (T.nilT, (cutT n.er o.path.l).2.2)
    else if o.kind = 2 then (if (cutT n.er o.path.l).2.1 = o.node.er then ((cutT n.er o.path.l).1, 0) else (T.nilT, 9))
    else if o.kind = 3 then mergedT (cutT n.er o.path.l).1 (cutT n.er o.path.l).2.1 o.er
    else if o.kind = 4 then splitT (cutT n.er o.path.l).1 (cutT n.er o.path.l).2.1 o.er
    else if o.kind = 5 then addT (cutT n.er o.path.l).1 o.dest.l (cutT n.er o.path.l).2.1
    else contentT n.er o.er) := rfl
  generalize shapedT n.er o.er = res at *
  generalize contentT n.er o.er = ctr at *
  generalize addT n.er o.path.l o.node.er = adr at *
  generalize cutT n.er o.path.l = cu at *
  obtain ⟨cx, cy, ce⟩ := cu
  clear later hn ho hb ht
  unfold NT.val at CC CA CS CCU CM CSP CMV CCT ⊢
  unfold OpL.val at CM CSP CCT ⊢
  go_enter Tryz.func69, Tryz.ntmps69
  go_upto_region 2 with fail
  generalize hW : ((((w.alloc _).alloc _).alloc _).alloc _).alloc _ = w1
  obtain ⟨g0, rN, rO, _, tF, z0⟩ := boxes3 w n.cells4 o.cells NT.nil.cells4 26 35 26 _ rfl
  obtain ⟨g1, _, tX, _, tY, z1⟩ := boxes2 (((w.alloc (.cells n.cells4.toArray 26)).alloc (.cells o.cells.toArray 35)).alloc (.cells NT.nil.cells4.toArray 26)) NT.nil.cells4 NT.nil.cells4 _ _ w1 hW
  clear hW
  rw [z0] at tX tY z1
  have hb1 : Base w n o w1 := ⟨rangeAt_grew rN g1 (by omega), rangeAt_grew rO g1 (by omega), there_grew tF g1 (by omega), g0.trans g1, by omega⟩
  obtain ⟨ov, hov⟩ : ∃ v, o.val = v := ⟨_, rfl⟩
  unfold OpL.val at hov
  rw [hov]
  clear hov
  have HB1 := Lib.hid hb1
  have TX : Hid (w1.there (w.heap.size + 3) 0 4) := tX
  have TY : Hid (w1.there (w.heap.size + 4) 0 4) := by show w1.there _ 0 4; exact tY
  have HZ1 : Hid (w1.heap.size = w.heap.size + 5) := by show _ = _; omega
  clear g0 rN rO tF z0 g1 tX tY z1 hb1
  have k0 := rangeAt_at0 HB1.out.2.1 (j := 0) rfl
  have k2 := Hk2.out
  have t2 : (o.kind == 2) = true := by simpa using k2
  have t1 : (o.kind == 1) = false := by simpa using (show ¬ o.kind = 1 by omega)
  have t3 : (o.kind == 3) = false := by simpa using (show ¬ o.kind = 3 by omega)
  have t4 : (o.kind == 4) = false := by simpa using (show ¬ o.kind = 4 by omega)
  have t5 : (o.kind == 5) = false := by simpa using (show ¬ o.kind = 5 by omega)
  have HMx : Hid True := trivial
  have HMc : Hid (res = if ce ≠ 0 then (T.nilT, ce) else (if cy = o.node.er then (cx, 0) else (T.nilT, 9))) := by
    show _ = _
    rw [HM.out, if_neg (by omega), if_neg (fun h => by omega)]
    by_cases hc : ce ≠ 0
    · rw [if_pos ⟨by omega, hc⟩, if_pos hc]
    · rw [if_neg (fun h => hc h.2), if_neg hc]
      rw [if_pos k2]
  have HB2 := Lib.hid HB1.out
  have TX2 := Lib.hid TX.out
  have TY2 := Lib.hid TY.out
  clear HM
  obtain ⟨n0, n1, n2, n3⟩ := HB2.out.n
  have k1 := rangeAt_at0 HB2.out.2.1 (j := 1) rfl
  have HCx := Lib.hid (CCU.out w1 HB2.out.2.2.2.1)
  unfold RetCut NT.val at HCx
  have hst3 := TX2.out
  have hst4 := TY2.out
  go_wp2_with fail
  refine HCx.out.mono ?_
  rintro e w3 ⟨x, y, rfl, g3, hx, hy, hxy⟩
  have HB3 : Hid (Base w n o w3) := Base.grew HB2.out g3
  have hne : w.heap.size + 3 ≠ w.heap.size + 4 := by omega
  have tx3 : w3.there (w.heap.size + 3) 0 4 := there_grew TX2.out g3 (by have := HB2.out.2.2.2.2; omega)
  have ty3 : w3.there (w.heap.size + 4) 0 4 := there_grew TY2.out g3 (by have := HB2.out.2.2.2.2; omega)
  obtain ⟨rx, ry, ty3', kS⟩ := put_two hne tx3 ty3 x y
  have HRX := Lib.hid rx
  have HRY := Lib.hid ry
  have HKS := Lib.hid kS
  have HXY := Lib.hid (⟨hx, hy.1⟩ : _ ∧ _)
  have HXE := Lib.hid hxy.out
  have HZ2 : Hid (w.heap.size + 5 ≤ w1.heap.size) := HB2.out.2.2.2.2
  clear n0 n1 n2 n3 k1 HCx hst3 hst4 rx ry kS hx hy hxy g3 HB2 TX2 TY2 k0
  have HT4 := Lib.hid ty3'
  clear ty3'
  go_upto_region 12 with (first | (refine wpList_store_mid rfl 26 (.tmp 7) (.tmp 32) rfl (w.heap.size + 4) 0 y.cells4.toArray rfl rfl ty3b infoNode4 (NT.cells4_all _) ?_) | (refine wpList_store_mid rfl 26 (.tmp 6) (.tmp 31) rfl (w.heap.size + 3) 0 x.cells4.toArray rfl rfl tx3 infoNode4 (NT.cells4_all _) ?_; generalize hF1 : World.setCells w3 (w.heap.size + 3) 0 _ = w3b; have ty3b : w3b.there (w.heap.size + 4) 0 4 := hF1 ▸ HT4.out))
  subst hF1
  generalize hF : World.setCells _ (w.heap.size + 4) 0 _ = w4
  have rX : w4.rangeAt (w.heap.size + 3) 0 x.cells4 := hF ▸ HRX.out
  have rY : w4.rangeAt (w.heap.size + 4) 0 y.cells4 := hF ▸ HRY.out
  have kS : Keeps (fun k => k = w.heap.size + 3 ∨ k = w.heap.size + 4) w3 w4 := hF ▸ HKS.out
  have HB4 : Hid (Base w n o w4) := Base.keep HB3.out kS
  have HXO : Hid (x.Ok w4 ∧ y.Ok w4) := by
    have ha : Agree w1.heap.size w3.heap.size w3 w4 := kS.agree (Nat.le_refl _) (fun j h1 h2 hj => by have := HZ2.out; omega)
    exact ⟨(NT.In.agree HXY.out.1 ha).mono (Nat.zero_le _) kS.size, (NT.In.agree HXY.out.2 ha).mono (Nat.zero_le _) kS.size⟩
  have HXI : Hid (x.In w4 w1.heap.size w4.heap.size) := (NT.In.agree HXY.out.1 (kS.agree (Nat.le_refl _) (fun j h1 h2 hj => by have := HZ2.out; omega))).mono (Nat.le_refl _) kS.size
  have KX := NT.cells4_at.1 rX
  have KY := NT.cells4_at.1 rY
  unfold NodeAt at KX KY
  simp only [Nat.zero_add] at KX KY
  have KXH := Lib.hid KX
  have KYH := Lib.hid KY
  clear hF HRX HRY HKS tx3 ty3 ty3b HT4 hne rX rY kS KX KY HB3 HXY
  by_cases hce : ce = 0
  · subst hce
    have HMd := Lib.hid (HMc.out.trans (if_neg (by simp)))
    have HBB := Lib.hid (HCB.out rfl)
    clear HMc HCB
    have HXB : Hid (x.er.bulk + y.er.bulk ≤ 262144) := by show _ ≤ _; rw [HXE.out.1, HXE.out.2]; have h1 : cx.bulk + cy.bulk = n.er.bulk := HBB.out; have h2 := HB.out; omega
    obtain ⟨x0, x1, x2, x3⟩ := KXH.out
    obtain ⟨y0, y1, y2, y3⟩ := KYH.out
    have k0 := rangeAt_at0 HB4.out.2.1 (j := 0) rfl
    have hBZ := HB4.out
    have j4 := rangeAt_at0 hBZ.2.1 (j := 4) rfl
    have j5 := rangeAt_at0 hBZ.2.1 (j := 5) rfl
    have j6 := rangeAt_at0 hBZ.2.1 (j := 6) rfl
    have j7 := rangeAt_at0 hBZ.2.1 (j := 7) rfl
    have HSx := Lib.hid (CS.out y w4 hBZ.2.2.2.1 HXO.out.2 (by have := HXB.out; omega))
    go_wp2_with fail
    refine HSx.out.mono ?_
    rintro e w5 ⟨rfl, g5⟩
    have hB5 := hBZ.grew g5
    clear hBZ HSx j4 j5 j6 j7 k0 x0 x1 x2 x3 y0 y1 y2 y3
    have hBZ := hB5
    clear hB5
    by_cases hsm : y.er = o.node.er
    · have tsm : decide (y.er = o.node.er) = true := by simpa using hsm
      have HRS : Hid (res = (cx, 0)) := by show _ = _; rw [HMd.out, if_pos (by rw [← HXE.out.2]; exact hsm)]
      have x0 := (g5.cell (p := ⟨w.heap.size + 3, 0, none⟩) (by show w.heap.size + 3 < _; have := HB4.out.2.2.2.2; omega)).trans KXH.out.1
      have x1 := (g5.cell (p := ⟨w.heap.size + 3, 1, none⟩) (by show w.heap.size + 3 < _; have := HB4.out.2.2.2.2; omega)).trans KXH.out.2.1
      have x2 := (g5.cell (p := ⟨w.heap.size + 3, 2, none⟩) (by show w.heap.size + 3 < _; have := HB4.out.2.2.2.2; omega)).trans KXH.out.2.2.1
      have x3 := (g5.cell (p := ⟨w.heap.size + 3, 3, none⟩) (by show w.heap.size + 3 < _; have := HB4.out.2.2.2.2; omega)).trans KXH.out.2.2.2
      have t3 := hBZ.2.2.1
      have HP := Lib.hid (rangeAt_put (cs := x.cells4) t3)
      have HK := Lib.hid (setCells_keepsO (w.heap.size + 2) x.cells4 0 w5)
      have HFIN := Lib.hid (fun wf (k3 : Keeps (· = w.heap.size + 2) w5 wf) => (by
        have h5 : x.In w5 w1.heap.size w5.heap.size := (NT.In.agree HXI.out ((g5.agree (Nat.le_refl _)).mono (Nat.zero_le _) (Nat.le_refl _))).mono (Nat.le_refl _) g5.size
        rw [HRS.out]
        exact ⟨x, rfl, hBZ.2.2.2.1.keep k3 (fun j hj => by rw [hj]; omega), (NT.In.agree h5 (k3.agree (Nat.le_refl _) (fun j h1 h2 hj => by have := HZ2.out; omega))).mono (by have := HZ2.out; omega) k3.size, HXE.out.1⟩ : RetTE res w (.returned (.tuple #[x.val, .int .i64 0])) wf))
      clear hsm HMd g5 HXI HXO hBZ
      go_wp2_with (refine wpList_store_mid rfl 26 (.tmp 4) (.tmp 65) rfl (w.heap.size + 2) 0 x.cells4.toArray rfl rfl t3 infoNode4 (NT.cells4_all _) ?_; generalize hF : World.setCells w5 _ _ _ = wf; have r3 : wf.rangeAt (w.heap.size + 2) 0 x.cells4 := hF ▸ HP.out; have k3 : Keeps (· = w.heap.size + 2) w5 wf := hF ▸ HK.out; clear hF HP HK)
      exact bodyPost_ret (v := .tuple #[x.val, .int .i64 0]) (results_cellE Tryz.results69 _ wf (w.heap.size + 2) 0 x.cells4 _ _ rfl rfl r3 Tryz.underlying26 rfl infoNode4) rfl (HFIN.out wf k3)
    · have tsm : decide (y.er = o.node.er) = false := by simpa using hsm
      have HN : Hid (res = (T.nilT, 9)) := by show _ = _; rw [HMd.out, if_neg (by rw [← HXE.out.2]; exact hsm)]
      clear hsm HMd g5 HXI HXO
      have t3 := hBZ.2.2.1
      have HP := Lib.hid (rangeAt_put (cs := NT.nil.cells4) t3)
      have HK := Lib.hid (setCells_keepsO (w.heap.size + 2) NT.nil.cells4 0 w5)
      have FIN := Lib.hid (fun wq (k3 : Keeps (· = w.heap.size + 2) w5 wq) => retTE_nil hBZ.2.2.2.1 k3 HN.out)
      clear hBZ
      go_wp2_with (refine wpList_store_mid rfl 26 (.tmp 4) (.tmp 64) rfl (w.heap.size + 2) 0 NT.nil.cells4.toArray rfl rfl t3 infoNode4 (NT.cells4_all _) ?_; generalize hF : World.setCells w5 _ _ _ = wf; have r3 : wf.rangeAt (w.heap.size + 2) 0 NT.nil.cells4 := hF ▸ HP.out; have k3 : Keeps (· = w.heap.size + 2) w5 wf := hF ▸ HK.out; clear hF HP HK)
      exact bodyPost_ret (v := .tuple #[NT.nil.val, .int .i64 9]) (results_cellE Tryz.results69 _ wf (w.heap.size + 2) 0 NT.nil.cells4 _ _ rfl rfl r3 Tryz.underlying26 rfl infoNode4) rfl (FIN.out wf k3)
  · have tce : (ce != 0) = true := by simpa using hce
    have HN : Hid (res = (T.nilT, ce)) := by show _ = _; rw [HMc.out, if_pos hce]
    have hBZ := HB4.out
    clear hce HMc HCB HMx
    have t3 := hBZ.2.2.1
    have HP := Lib.hid (rangeAt_put (cs := NT.nil.cells4) t3)
    have HK := Lib.hid (setCells_keepsO (w.heap.size + 2) NT.nil.cells4 0 w4)
    have FIN := Lib.hid (fun wq (k3 : Keeps (· = w.heap.size + 2) w4 wq) => retTE_nil hBZ.2.2.2.1 k3 HN.out)
    clear hBZ
    go_wp2_with (refine wpList_store_mid rfl 26 (.tmp 4) (.tmp 36) rfl (w.heap.size + 2) 0 NT.nil.cells4.toArray rfl rfl t3 infoNode4 (NT.cells4_all _) ?_; generalize hF : World.setCells w4 _ _ _ = wf; have r3 : wf.rangeAt (w.heap.size + 2) 0 NT.nil.cells4 := hF ▸ HP.out; have k3 : Keeps (· = w.heap.size + 2) w4 wf := hF ▸ HK.out; clear hF HP HK)
    exact bodyPost_ret (v := .tuple #[NT.nil.val, .int .i64 ce]) (results_cellE Tryz.results69 _ wf (w.heap.size + 2) 0 NT.nil.cells4 _ _ rfl rfl r3 Tryz.underlying26 rfl infoNode4) rfl (FIN.out wf k3)
end Go.Proofs.YtbhbekocmpmjfaaGreatDoor
/- op.shaped: the contract, kind 3. -/
namespace Go.Proofs.YtbhbekocmpmjfaaGreatDoor
open Go Go.RowKit

set_option maxRecDepth 100000 in
set_option maxHeartbeats 8000000 in
theorem shaped3_any (n : NT) (o : OpL) (w : World) (hn : n.Ok w) (ho : o.In w 0 w.heap.size) (hb : n.er.bulk ≤ 262144) (ht : o.er.Tiny) (k3 : o.kind = 3) :
    Calls Tryz.prog 69 #[n.val, o.val] w (RetTE (shapedT n.er o.er) w) := by
  have Hk3 := Lib.hid k3
  clear k3
  have later : ∀ {w1}, Grew w w1 → o.In w1 0 w1.heap.size := fun g => (ho.grew g (Nat.le_refl _)).mono (Nat.le_refl _) g.size
  have CC := Lib.hid (fun w1 (g : Grew w w1) => check04_any o.node w1 (NT.In.ok (later g).2.1 (Nat.le_refl _)) ht.1.2.1)
  have CPC := Lib.hid (fun w1 (g : Grew w w1) => check01_any o.new o.na o.nc w1 0 w1.heap.size (later g).2.2.2.1 (Nat.le_refl _) (Nat.le_trans ht.2.1.2 (by omega)))
  have CCU := Lib.hid (fun w1 (g : Grew w w1) => treeCut_any n o.path.a o.path.c o.path.l w1 (NT.Ok.grew hn g) (by omega) (later g).1.1 ht.1.1.1)
  have CA := Lib.hid (fun w1 (g : Grew w w1) => treeAdd_any n o.node o.path.a o.path.c o.path.l w1 (NT.Ok.grew hn g) (by omega) (NT.In.ok (later g).2.1 (Nat.le_refl _)) ht.1.2.1 (later g).1.1 ht.1.1.1)
  have CS := Lib.hid (fun (y : NT) w1 (g : Grew w w1) (hy : y.Ok w1) (hyb : y.er.bulk ≤ 1048576) => nodeSame_any y o.node w1 hy (NT.In.ok (later g).2.1 (Nat.le_refl _)) hyb ht.1.2.1)
  have CM := Lib.hid (fun (x y : NT) w1 (g : Grew w w1) (hx : x.Ok w1) (hy : y.Ok w1) (hbb : x.er.bulk + y.er.bulk ≤ 1048576) => merged_any x y o w1 hx hy (later g) hbb ht.1)
  have CSP := Lib.hid (fun (x y : NT) w1 (g : Grew w w1) (hx : x.Ok w1) (hy : y.Ok w1) (hbb : x.er.bulk + y.er.bulk ≤ 262144) => opSplit_any x y o w1 hx hy (later g) (by have h : propsBulk o.new ≤ 262144 := ht.2.1.2; omega) ht.1)
  have CMV := Lib.hid (fun (x y : NT) w1 (g : Grew w w1) (hx : x.Ok w1) (hy : y.Ok w1) (h1 : x.er.bulk ≤ 1048576) (h2 : y.er.bulk ≤ 1048576) => treeAdd_any x y o.dest.a o.dest.c o.dest.l w1 hx h1 hy h2 (later g).1.2 ht.1.1.2)
  have CCT := Lib.hid (fun w1 (g : Grew w w1) => opContent_any n o w1 (NT.Ok.grew hn g) (later g) hb ht)
  have HB := Lib.hid hb
  have HCB := Lib.hid (fun h => cut_bulk (t := n.er) (p := o.path.l) h)
  have HM : Hid (shapedT n.er o.er = if o.kind = 1 then (if o.node.er.chk ≠ 0 then (T.nilT, o.node.er.chk) else addT n.er o.path.l o.node.er)
    else if o.kind = 4 ∧ checkPs o.new ≠ 0 then (T.nilT, checkPs o.new)
    else if (o.kind = 2 ∨ o.kind = 3 ∨ o.kind = 4 ∨ o.kind = 5) ∧ (cutT n.er o.path.l).2.2 ≠ 0 then (T.nilT, (cutT n.er o.path.l).2.2)
    else if o.kind = 2 then (if (cutT n.er o.path.l).2.1 = o.node.er then ((cutT n.er o.path.l).1, 0) else (T.nilT, 9))
    else if o.kind = 3 then mergedT (cutT n.er o.path.l).1 (cutT n.er o.path.l).2.1 o.er
    else if o.kind = 4 then splitT (cutT n.er o.path.l).1 (cutT n.er o.path.l).2.1 o.er
    else if o.kind = 5 then addT (cutT n.er o.path.l).1 o.dest.l (cutT n.er o.path.l).2.1
    else contentT n.er o.er) := rfl
  generalize shapedT n.er o.er = res at *
  generalize contentT n.er o.er = ctr at *
  generalize addT n.er o.path.l o.node.er = adr at *
  generalize cutT n.er o.path.l = cu at *
  obtain ⟨cx, cy, ce⟩ := cu
  clear later hn ho hb ht
  unfold NT.val at CC CA CS CCU CM CSP CMV CCT ⊢
  unfold OpL.val at CM CSP CCT ⊢
  go_enter Tryz.func69, Tryz.ntmps69
  go_upto_region 2 with fail
  generalize hW : ((((w.alloc _).alloc _).alloc _).alloc _).alloc _ = w1
  obtain ⟨g0, rN, rO, _, tF, z0⟩ := boxes3 w n.cells4 o.cells NT.nil.cells4 26 35 26 _ rfl
  obtain ⟨g1, _, tX, _, tY, z1⟩ := boxes2 (((w.alloc (.cells n.cells4.toArray 26)).alloc (.cells o.cells.toArray 35)).alloc (.cells NT.nil.cells4.toArray 26)) NT.nil.cells4 NT.nil.cells4 _ _ w1 hW
  clear hW
  rw [z0] at tX tY z1
  have hb1 : Base w n o w1 := ⟨rangeAt_grew rN g1 (by omega), rangeAt_grew rO g1 (by omega), there_grew tF g1 (by omega), g0.trans g1, by omega⟩
  obtain ⟨ov, hov⟩ : ∃ v, o.val = v := ⟨_, rfl⟩
  unfold OpL.val at hov
  rw [hov]
  clear hov
  have HB1 := Lib.hid hb1
  have TX : Hid (w1.there (w.heap.size + 3) 0 4) := tX
  have TY : Hid (w1.there (w.heap.size + 4) 0 4) := by show w1.there _ 0 4; exact tY
  have HZ1 : Hid (w1.heap.size = w.heap.size + 5) := by show _ = _; omega
  clear g0 rN rO tF z0 g1 tX tY z1 hb1
  have k0 := rangeAt_at0 HB1.out.2.1 (j := 0) rfl
  have k3 := Hk3.out
  have t3 : (o.kind == 3) = true := by simpa using k3
  have t1 : (o.kind == 1) = false := by simpa using (show ¬ o.kind = 1 by omega)
  have t2 : (o.kind == 2) = false := by simpa using (show ¬ o.kind = 2 by omega)
  have t4 : (o.kind == 4) = false := by simpa using (show ¬ o.kind = 4 by omega)
  have t5 : (o.kind == 5) = false := by simpa using (show ¬ o.kind = 5 by omega)
  have HMx : Hid True := trivial
  have HMc : Hid (res = if ce ≠ 0 then (T.nilT, ce) else mergedT cx cy o.er) := by
    show _ = _
    rw [HM.out, if_neg (by omega), if_neg (fun h => by omega)]
    by_cases hc : ce ≠ 0
    · rw [if_pos ⟨by omega, hc⟩, if_pos hc]
    · rw [if_neg (fun h => hc h.2), if_neg hc]
      rw [if_neg (by omega), if_pos k3]
  have HB2 := Lib.hid HB1.out
  have TX2 := Lib.hid TX.out
  have TY2 := Lib.hid TY.out
  clear HM
  obtain ⟨n0, n1, n2, n3⟩ := HB2.out.n
  have k1 := rangeAt_at0 HB2.out.2.1 (j := 1) rfl
  have HCx := Lib.hid (CCU.out w1 HB2.out.2.2.2.1)
  unfold RetCut NT.val at HCx
  have hst3 := TX2.out
  have hst4 := TY2.out
  go_wp2_with fail
  refine HCx.out.mono ?_
  rintro e w3 ⟨x, y, rfl, g3, hx, hy, hxy⟩
  have HB3 : Hid (Base w n o w3) := Base.grew HB2.out g3
  have hne : w.heap.size + 3 ≠ w.heap.size + 4 := by omega
  have tx3 : w3.there (w.heap.size + 3) 0 4 := there_grew TX2.out g3 (by have := HB2.out.2.2.2.2; omega)
  have ty3 : w3.there (w.heap.size + 4) 0 4 := there_grew TY2.out g3 (by have := HB2.out.2.2.2.2; omega)
  obtain ⟨rx, ry, ty3', kS⟩ := put_two hne tx3 ty3 x y
  have HRX := Lib.hid rx
  have HRY := Lib.hid ry
  have HKS := Lib.hid kS
  have HXY := Lib.hid (⟨hx, hy.1⟩ : _ ∧ _)
  have HXE := Lib.hid hxy.out
  have HZ2 : Hid (w.heap.size + 5 ≤ w1.heap.size) := HB2.out.2.2.2.2
  clear n0 n1 n2 n3 k1 HCx hst3 hst4 rx ry kS hx hy hxy g3 HB2 TX2 TY2 k0
  have HT4 := Lib.hid ty3'
  clear ty3'
  go_upto_region 12 with (first | (refine wpList_store_mid rfl 26 (.tmp 7) (.tmp 32) rfl (w.heap.size + 4) 0 y.cells4.toArray rfl rfl ty3b infoNode4 (NT.cells4_all _) ?_) | (refine wpList_store_mid rfl 26 (.tmp 6) (.tmp 31) rfl (w.heap.size + 3) 0 x.cells4.toArray rfl rfl tx3 infoNode4 (NT.cells4_all _) ?_; generalize hF1 : World.setCells w3 (w.heap.size + 3) 0 _ = w3b; have ty3b : w3b.there (w.heap.size + 4) 0 4 := hF1 ▸ HT4.out))
  subst hF1
  generalize hF : World.setCells _ (w.heap.size + 4) 0 _ = w4
  have rX : w4.rangeAt (w.heap.size + 3) 0 x.cells4 := hF ▸ HRX.out
  have rY : w4.rangeAt (w.heap.size + 4) 0 y.cells4 := hF ▸ HRY.out
  have kS : Keeps (fun k => k = w.heap.size + 3 ∨ k = w.heap.size + 4) w3 w4 := hF ▸ HKS.out
  have HB4 : Hid (Base w n o w4) := Base.keep HB3.out kS
  have HXO : Hid (x.Ok w4 ∧ y.Ok w4) := by
    have ha : Agree w1.heap.size w3.heap.size w3 w4 := kS.agree (Nat.le_refl _) (fun j h1 h2 hj => by have := HZ2.out; omega)
    exact ⟨(NT.In.agree HXY.out.1 ha).mono (Nat.zero_le _) kS.size, (NT.In.agree HXY.out.2 ha).mono (Nat.zero_le _) kS.size⟩
  have HXI : Hid (x.In w4 w1.heap.size w4.heap.size) := (NT.In.agree HXY.out.1 (kS.agree (Nat.le_refl _) (fun j h1 h2 hj => by have := HZ2.out; omega))).mono (Nat.le_refl _) kS.size
  have KX := NT.cells4_at.1 rX
  have KY := NT.cells4_at.1 rY
  unfold NodeAt at KX KY
  simp only [Nat.zero_add] at KX KY
  have KXH := Lib.hid KX
  have KYH := Lib.hid KY
  clear hF HRX HRY HKS tx3 ty3 ty3b HT4 hne rX rY kS KX KY HB3 HXY
  by_cases hce : ce = 0
  · subst hce
    have HMd := Lib.hid (HMc.out.trans (if_neg (by simp)))
    have HBB := Lib.hid (HCB.out rfl)
    clear HMc HCB
    have HXB : Hid (x.er.bulk + y.er.bulk ≤ 262144) := by show _ ≤ _; rw [HXE.out.1, HXE.out.2]; have h1 : cx.bulk + cy.bulk = n.er.bulk := HBB.out; have h2 := HB.out; omega
    obtain ⟨x0, x1, x2, x3⟩ := KXH.out
    obtain ⟨y0, y1, y2, y3⟩ := KYH.out
    have k0 := rangeAt_at0 HB4.out.2.1 (j := 0) rfl
    have hBZ := HB4.out
    have HRR := HMd.out
    rw [← HXE.out.1, ← HXE.out.2] at HRR
    have HCC := Lib.hid (CM.out x y w4 hBZ.2.2.2.1 HXO.out.1 HXO.out.2 (by have := HXB.out; omega))
    rw [← HRR] at HCC
    have rO := hBZ.2.1
    clear HMd HRR HXO HXI
    go_wp2_with (refine wpList_load_mid rfl 35 (.tmp 3) rfl (w.heap.size + 1) 0 rfl o.cells _ rO Tryz.underlying35 rfl infoOpB ?_)
    refine HCC.out.mono ?_
    rintro e wB ⟨y, rfl, gB, hy, hye⟩
    have hBB := hBZ.grew gB
    have t3 := hBB.2.2.1
    have HP := Lib.hid (rangeAt_put (cs := y.cells4) t3)
    have HK := Lib.hid (setCells_keepsO (w.heap.size + 2) y.cells4 0 wB)
    have HFIN := Lib.hid (fun wf (k3 : Keeps (· = w.heap.size + 2) wB wf) => retTE_box (x := y) (r := res) (bx := w.heap.size + 2) (by omega) (by have := hBZ.2.2.2.2; omega) hBZ.2.2.2.1 gB hy hye k3)
    clear hy hye gB hBB hBZ
    go_wp2_with (refine wpList_store_mid rfl 26 (.tmp 4) (.tmp 72) rfl (w.heap.size + 2) 0 y.cells4.toArray rfl rfl t3 infoNode4 (NT.cells4_all _) ?_; generalize hF : World.setCells wB _ _ _ = wf; have r3 : wf.rangeAt (w.heap.size + 2) 0 y.cells4 := hF ▸ HP.out; have k3 : Keeps (· = w.heap.size + 2) wB wf := hF ▸ HK.out; clear hF HP HK)
    exact bodyPost_ret (v := .tuple #[y.val, .int .i64 res.2]) (results_cellE Tryz.results69 _ wf (w.heap.size + 2) 0 y.cells4 _ _ rfl rfl r3 Tryz.underlying26 rfl infoNode4) rfl (HFIN.out wf k3)
  · have tce : (ce != 0) = true := by simpa using hce
    have HN : Hid (res = (T.nilT, ce)) := by show _ = _; rw [HMc.out, if_pos hce]
    have hBZ := HB4.out
    clear hce HMc HCB HMx
    have t3 := hBZ.2.2.1
    have HP := Lib.hid (rangeAt_put (cs := NT.nil.cells4) t3)
    have HK := Lib.hid (setCells_keepsO (w.heap.size + 2) NT.nil.cells4 0 w4)
    have FIN := Lib.hid (fun wq (k3 : Keeps (· = w.heap.size + 2) w4 wq) => retTE_nil hBZ.2.2.2.1 k3 HN.out)
    clear hBZ
    go_wp2_with (refine wpList_store_mid rfl 26 (.tmp 4) (.tmp 36) rfl (w.heap.size + 2) 0 NT.nil.cells4.toArray rfl rfl t3 infoNode4 (NT.cells4_all _) ?_; generalize hF : World.setCells w4 _ _ _ = wf; have r3 : wf.rangeAt (w.heap.size + 2) 0 NT.nil.cells4 := hF ▸ HP.out; have k3 : Keeps (· = w.heap.size + 2) w4 wf := hF ▸ HK.out; clear hF HP HK)
    exact bodyPost_ret (v := .tuple #[NT.nil.val, .int .i64 ce]) (results_cellE Tryz.results69 _ wf (w.heap.size + 2) 0 NT.nil.cells4 _ _ rfl rfl r3 Tryz.underlying26 rfl infoNode4) rfl (FIN.out wf k3)
end Go.Proofs.YtbhbekocmpmjfaaGreatDoor
