/- tree.Cut: the contract. -/
import Derived.Test.YtbhbekocmpmjfaaGreatDoorK10
import Derived.Test.YtbhbekocmpmjfaaGreatDoorK01
import Derived.Test.YtbhbekocmpmjfaaGreatDoorChecked
import Derived.Outline
import Derived.Laws.EntriesVeiled
import Derived.Test.YtbhbekocmpmjfaaGreatDoorK02
import Derived.Deep.QuietTactic
import Derived.BigQuiet
namespace Go.Proofs.YtbhbekocmpmjfaaGreatDoor
open Go Go.RowKit

/-- two boxes that hold two nodes -/
def TwoBox (b4 b5 : Nat) (x y : NT) (w6 w : World) : Prop := w.rangeAt b4 0 x.cells4 ∧ w.rangeAt b5 0 y.cells4 ∧ w.there b4 0 4 ∧ w.there b5 0 4 ∧ Keeps (fun k => k = b4 ∨ k = b5) w6 w
theorem TwoBox.put1 {b4 b5 : Nat} {x y : NT} {w6 w : World} (hne : b4 ≠ b5) (h : TwoBox b4 b5 x y w6 w) : TwoBox b4 b5 x y w6 (w.setCells b4 0 x.cells4) := by
  obtain ⟨h1, h2, h3, h4, h5⟩ := h
  refine ⟨rangeAt_put (cs := x.cells4) h3, fun j v hj => ?_, World.there_setCells h3 b4 0 x.cells4, World.there_setCells h4 b4 0 x.cells4, h5.trans ((setCells_keepsO b4 x.cells4 0 w).wider fun k _ hk => Or.inl hk)⟩
  rw [World.cell?_setCells_out b4 x.cells4 0 _ ⟨b5, 0 + j, none⟩ (fun h _ => absurd (show b5 = b4 from h) hne.symm)]
  exact h2 j v hj
theorem TwoBox.put2 {b4 b5 : Nat} {x y : NT} {w6 w : World} (hne : b4 ≠ b5) (h : TwoBox b4 b5 x y w6 w) : TwoBox b4 b5 x y w6 (w.setCells b5 0 y.cells4) := by
  obtain ⟨h1, h2, h3, h4, h5⟩ := h
  refine ⟨fun j v hj => ?_, rangeAt_put (cs := y.cells4) h4, World.there_setCells h3 b5 0 y.cells4, World.there_setCells h4 b5 0 y.cells4, h5.trans ((setCells_keepsO b5 y.cells4 0 w).wider fun k _ hk => Or.inr hk)⟩
  rw [World.cell?_setCells_out b5 y.cells4 0 _ ⟨b4, 0 + j, none⟩ (fun h _ => absurd (show b4 = b5 from h) hne)]
  exact h1 j v hj
theorem TwoBox.cells {b4 b5 : Nat} {x y : NT} {w6 w : World} (h : TwoBox b4 b5 x y w6 w) : (w.cell? ⟨b4, 0, none⟩ = some (.bool x.lf) ∧ w.cell? ⟨b4, 1, none⟩ = some (.slice x.pa x.ps.length x.pc) ∧ w.cell? ⟨b4, 2, none⟩ = some (.slice x.ta x.ts.length x.tc) ∧ w.cell? ⟨b4, 3, none⟩ = some (.slice x.ka x.ks.length x.kc)) ∧ (w.cell? ⟨b5, 0, none⟩ = some (.bool y.lf) ∧ w.cell? ⟨b5, 1, none⟩ = some (.slice y.pa y.ps.length y.pc) ∧ w.cell? ⟨b5, 2, none⟩ = some (.slice y.ta y.ts.length y.tc) ∧ w.cell? ⟨b5, 3, none⟩ = some (.slice y.ka y.ks.length y.kc)) :=
  ⟨⟨rangeAt_at0 h.1 (j := 0) rfl, rangeAt_at0 h.1 (j := 1) rfl, rangeAt_at0 h.1 (j := 2) rfl, rangeAt_at0 h.1 (j := 3) rfl⟩, ⟨rangeAt_at0 h.2.1 (j := 0) rfl, rangeAt_at0 h.2.1 (j := 1) rfl, rangeAt_at0 h.2.1 (j := 2) rfl, rangeAt_at0 h.2.1 (j := 3) rfl⟩⟩
set_option maxRecDepth 100000 in
set_option maxHeartbeats 8000000 in
theorem treeCutAt_any (n : NT) (pa : Option Addr) (pc : Nat) (p : List Int) (hpos : 0 < p.length) (w : World) (hn : n.Ok w) (hb : n.er.bulk ≤ 1048576) (hp : IntsIn w 0 w.heap.size pa pc p) (hl : p.length ≤ 1048576) :
    Calls Tryz.prog 128 #[n.val, .slice pa p.length pc] w (RetCut (cutT n.er p) w) := by
  have htl : (p.take (p.length - 1)).length = p.length - 1 := by rw [List.length_take]; omega
  have hcut : Hid (cutT n.er p = match n.er.at p with | none => (T.nilT, T.nilT, 5) | some k => ((changedT n.er (p.take (p.length - 1)) (cutHow (p.getD (p.length - 1) 0).toNat)).1, k, (changedT n.er (p.take (p.length - 1)) (cutHow (p.getD (p.length - 1) 0).toNat)).2)) := by
    show _ = _
    unfold cutT
    rw [if_neg (fun h => by rw [h] at hpos; exact absurd hpos (by simp))]
    cases n.er.at p <;> rfl
  have GT := Lib.hid (fun w1 (hg : Grew w w1) => treeGet_any n pa pc p w1 (NT.Ok.grew hn hg) hb ((hp.grew hg (Nat.le_refl _)).mono (Nat.le_refl _) hg.size) hl)
  have LAST := Lib.hid (fun (k : T) (h : n.er.at p = some k) => T.at_last hpos h)
  have CH := Lib.hid (fun (w1 : World) (bi : Nat) (k : T) (hat : n.er.at p = some k) (hg : Grew w w1) (hi : w1.cell? ⟨bi, 0, none⟩ = some (.int .i64 (p.getD (p.length - 1) 0))) (hbi : bi < w1.heap.size) => (by
    obtain ⟨u, hu, hi0, hi1⟩ := T.at_last hpos hat
    have hii : (p.getD (p.length - 1) 0) = (((p.getD (p.length - 1) 0).toNat : Nat) : Int) := by omega
    rw [hii] at hi
    have := changed_any n pa pc (p.take (p.length - 1)) 182 #[.pointer (some ⟨bi, 0, none⟩)] (cutHow (p.getD (p.length - 1) 0).toNat) w1 (NT.Ok.grew hn hg) hb (IntsIn.take ((hp.grew hg (Nat.le_refl _)).mono (Nat.le_refl _) hg.size) (by omega)) (by omega) (fun _ _ => rfl)
      (fun y l h b o w2 g2 h1 h2 h3 h4 h5 h6 h7 h8 h9 h10 h11 h12 => by
        have z2 := g2.size
        have hue : u = y.er := by rw [hu] at h7; exact Option.some.inj h7
        have hul : u.ks.length = y.ks.length := by rw [hue, NT.er_ks, List.length_map]
        exact cut1_any y (p.getD (p.length - 1) 0).toNat bi l h b o (w1.heap.size + 2) w2 ((g2.cell (p := ⟨bi, 0, none⟩) hbi).trans hi) (by omega) (by omega) h4 h5 h6 h2 h3 h1 (by
          have q1 := bulk_at h7
          have q2 := y.lens
          omega) h8 h9 h11 h12 (by omega))
    rw [htl] at this
    exact this : Calls Tryz.prog 181 #[n.val, .slice pa (p.length - 1) pc, .func (.func 182) #[] #[.pointer (some ⟨bi, 0, none⟩)]] w1 (RetTE (changedT n.er (p.take (p.length - 1)) (cutHow (p.getD (p.length - 1) 0).toNat)) w1)))
  generalize cutT n.er p = res at *
  generalize changedT n.er (p.take (p.length - 1)) (cutHow (p.getD (p.length - 1) 0).toNat) = ch at *
  obtain ⟨pb, po, rfl, _, hpb, hpc⟩ := hp.at (j := p.length - 1) (by omega)
  have t0 : ((p.length : Int) == 0) = false := beq_eq_false_iff_ne.2 (by omega)
  have hcap := hp.1.2.1
  generalize p.getD (p.length - 1) 0 = i at *
  have HPos := Lib.hid (⟨hpos, hcap⟩ : 0 < p.length ∧ p.length ≤ pc)
  unfold NT.val at *
  clear hn hp hcap htl hpos LAST
  go_enter Tryz.func128, Tryz.ntmps128
  go_upto_region 1 with fail
  generalize hW : ((w.alloc _).alloc _).alloc _ = w1
  have hW2 := hW
  obtain ⟨g1, rN, _, _, t6, z1⟩ := boxes3 w n.cells4 NT.nil.cells4 NT.nil.cells4 _ _ _ w1 hW
  have t5 : w1.there (w.heap.size + 1) 0 4 := by
    rw [← hW2]
    have := there_new (w := w.alloc (.cells n.cells4.toArray 26)) (cs := NT.nil.cells4.toArray) (t := 26) (Grew.alloc1 _ (.cells NT.nil.cells4.toArray 26))
    rw [World.size_alloc] at this
    exact this
  clear hW hW2
  obtain ⟨m0, m1, m2, m3⟩ := NT.cells4_at.1 rN
  rw [Nat.zero_add] at m1 m2 m3
  have G1 := Lib.hid g1
  have Z1 := Lib.hid z1
  have T5 := Lib.hid t5
  have T6 := Lib.hid t6
  have RN := Lib.hid rN
  clear rN g1 z1 t5 t6
  go_wp2_with fail
  refine (GT.out w1 G1.out).mono ?_
  rintro e w2 ⟨y, k, rfl, g2, hy, hE⟩
  have z1 := Z1.out
  have z2 := g2.size
  have t62 := there_grew T6.out g2 (by omega)
  have t52 := there_grew T5.out g2 (by omega)
  have rN2 := rangeAt_grew RN.out g2 (by omega)
  have HQ := Lib.hid (fun (w3 : World) (h : w2.setCells (w.heap.size + 2) 0 y.cells4 = w3) => (by
    subst h
    have k3 := setCells_keepsO (w.heap.size + 2) y.cells4 0 w2
    exact ⟨k3, rangeAt_put (cs := y.cells4) t62, World.there_setCells t62 (w.heap.size + 2) 0 y.cells4, World.there_setCells t52 (w.heap.size + 2) 0 y.cells4, rangeAt_other rN2 k3 (by omega) (by omega)⟩ : Keeps (· = w.heap.size + 2) w2 w3 ∧ w3.rangeAt (w.heap.size + 2) 0 y.cells4 ∧ w3.there (w.heap.size + 2) 0 4 ∧ w3.there (w.heap.size + 1) 0 4 ∧ w3.rangeAt w.heap.size 0 n.cells4))
  have G2 := Lib.hid (G1.out.trans g2)
  clear m0 m1 m2 m3 T5 T6 RN GT t52 rN2
  unfold NT.val
  go_upto_region 4 with (refine wpList_store_mid rfl 26 (.tmp 5) (.tmp 18) rfl (w.heap.size + 2) 0 y.cells4.toArray rfl rfl t62 infoNode4 (NT.cells4_all _) ?_; generalize hF : w2.setCells _ _ _ = w3; obtain ⟨k3, r3, t63, t53, rN3⟩ := HQ.out w3 hF; clear hF HQ)
  have z3 := k3.size
  have G3 : Hid (Grew w w3) := G2.out.keep k3 (fun j hj => by rw [hj]; omega)
  have HY : Hid (y.Own w3 w1.heap.size w2.heap.size) := hy.agree (k3.agree (Nat.le_refl _) (fun j h1 h2 => by show ¬ j = _; omega))
  clear hy t62 g2
  rcases hE.out with ⟨rfl, hat⟩ | ⟨rfl, hat, _⟩
  · have HR : Hid (res = (ch.1, y.er, ch.2)) := by show _ = _; rw [hcut.out, hat]
    have hw1 : IntKind.i64.wrap ((p.length : Int) - 1) = (p.length : Int) - 1 := by have := HPos.out; rw [IntKind.wrap_i64]; omega
    have htn : ((p.length : Int) - 1).toNat = p.length - 1 := by omega
    have q1 : (0 : Int) ≤ (p.length : Int) - 1 := by have := HPos.out; omega
    have q2 : (p.length : Int) - 1 < p.length := by omega
    have q1b : (1 : Int) ≤ p.length := by have := HPos.out; omega
    have q3 : (p.length : Int) - 1 ≤ pc := by have := HPos.out; omega
    have KB := fun w' (g : Grew w3 w') => (g.cell (p := ⟨pb, po + (p.length - 1), none⟩) (by show pb < w3.heap.size; omega)).trans ((G3.out.cell (p := ⟨pb, po + (p.length - 1), none⟩) hpb).trans hpc)
    have g30 : Grew w3 w3.drew := (Grew.refl _).drew
    have CH1 := Lib.hid (fun (w4 : World) (bi : Nat) (hg : Grew w w4) (hi : w4.cell? ⟨bi, 0, none⟩ = some (.int .i64 i)) (hbi : bi < w4.heap.size) => CH.out w4 bi y.er hat hg hi hbi)
    have Z3 := Lib.hid (⟨z1, z2, z3⟩ : _ ∧ _ ∧ _)
    have R3 := Lib.hid r3
    have T63 := Lib.hid t63
    have T53 := Lib.hid t53
    have RN3 := Lib.hid rN3
    clear hat hcut hE CH hpb hpc z1 z2 z3 r3 t63 t53 rN3 k3
    go_upto_region 6 with fail
    go_region_held3 (fun w' => Grew w3 w') ((first | with_reducible exact g30 | with_reducible assumption | exact (Grew.alloc1 _ _).drew | exact ((Grew.alloc1 _ _).setCell (Nat.le_refl _) _).drew)) ((go_at_call 999999; skip))
    clear KB g30 q1 q2 q1b q3 hw1 htn t0
    have gB : Grew w3 (w3.alloc (.cells #[.int .i64 i] 3)).drew := (Grew.alloc1 _ _).drew
    have cB : (w3.alloc (.cells #[.int .i64 i] 3)).drew.cell? ⟨w3.heap.size, 0, none⟩ = some (.int .i64 i) := box_at (Grew.refl (w3.alloc (.cells #[.int .i64 i] 3))) (j := 0) (v := .int .i64 i) rfl
    have zB : (w3.alloc (.cells #[.int .i64 i] 3)).drew.heap.size = w3.heap.size + 1 := by simp
    generalize (w3.alloc (.cells #[.int .i64 i] 3)).drew = w4 at *
    obtain ⟨z1, z2, z3⟩ := Z3.out
    have CH4 := Lib.hid (CH1.out w4 w3.heap.size (G3.out.trans gB) cB (by omega))
    obtain ⟨m0, m1, m2, m3⟩ := NT.cells4_at.1 (rangeAt_grew RN3.out gB (by omega))
    rw [Nat.zero_add] at m1 m2 m3
    have G4 := Lib.hid (G3.out.trans gB)
    have GB := Lib.hid gB
    have ZB := Lib.hid zB
    clear CH1 RN3 gB cB zB z1 z2 z3
    go_wp2_with fail
    refine CH4.out.mono ?_
    rintro e w5 ⟨x, rfl, g5, hx, hxe⟩
    obtain ⟨z1, z2, z3⟩ := Z3.out
    have zb := ZB.out
    have z5 := g5.size
    have g35 := GB.out.trans g5
    have t45 := there_grew T53.out g35 (by omega)
    have t65 := there_grew T63.out g35 (by omega)
    have r65 := rangeAt_grew R3.out g35 (by omega)
    have HQ := Lib.hid (fun (w6 : World) (h : w5.setCells (w.heap.size + 1) 0 x.cells4 = w6) => (by
      subst h
      have k6 := setCells_keepsO (w.heap.size + 1) x.cells4 0 w5
      exact ⟨k6, rangeAt_put (cs := x.cells4) t45, rangeAt_other r65 k6 (by omega) (by omega), World.there_setCells t45 (w.heap.size + 1) 0 x.cells4, World.there_setCells t65 (w.heap.size + 1) 0 x.cells4, Keeps.refl _ _⟩ : Keeps (· = w.heap.size + 1) w5 w6 ∧ TwoBox (w.heap.size + 1) (w.heap.size + 2) x y w6 w6))
    have HB5 := Lib.hid (⟨z1, z2, z3, zb, z5⟩ : _ ∧ _ ∧ _ ∧ _ ∧ _)
    have HX := Lib.hid hx
    have HY5 : Hid (y.Own w5 w1.heap.size w2.heap.size) := HY.out.grew g35 (by omega)
    have G5 := Lib.hid (G4.out.trans g5)
    clear m0 m1 m2 m3 z1 z2 z3 zb z5 g35 r65 t65 hx g5
    unfold NT.val
    go_upto_region 8 with (refine wpList_store_mid rfl 26 (.tmp 4) (.tmp 41) rfl (w.heap.size + 1) 0 x.cells4.toArray rfl rfl t45 infoNode4 (NT.cells4_all _) ?_; generalize hF : w5.setCells _ _ _ = w6; obtain ⟨k6, tb6⟩ := HQ.out w6 hF; clear hF HQ)
    have hne : w.heap.size + 1 ≠ w.heap.size + 2 := by omega
    have S6 : TwoBox (w.heap.size + 1) (w.heap.size + 2) x y w6 w6.drew := ⟨tb6.1, tb6.2.1, tb6.2.2.1, tb6.2.2.2.1, (Grew.refl w6).drew.keeps _⟩
    refine wp_region_need (TwoBox (w.heap.size + 1) (w.heap.size + 2) x y w6) (fun j => j.blt 5) (by kernel_rfl) ?_
    refine wpAnyN_take (i := 0) (v := .agg #[.bool x.lf, .slice x.pa x.ps.length x.pc, .slice x.ta x.ts.length x.tc, .slice x.ka x.ks.length x.kc]) rfl (by kernel_rfl) (by kernel_rfl) (by kernel_rfl) (by kernel_rfl) (fun _ _ _ h => h) (Or.inl ⟨rfl, fun w' hS => by obtain ⟨⟨e1, e2, e3, e4⟩, ⟨e5, e6, e7, e8⟩⟩ := TwoBox.cells hS; go_simp⟩) S6 ?_
    refine wpAnyN_take (i := 1) (v := .agg #[.bool y.lf, .slice y.pa y.ps.length y.pc, .slice y.ta y.ts.length y.tc, .slice y.ka y.ks.length y.kc]) rfl (by kernel_rfl) (by kernel_rfl) (by kernel_rfl) (by kernel_rfl) (fun _ _ _ h => h) (Or.inl ⟨rfl, fun w' hS => by obtain ⟨⟨e1, e2, e3, e4⟩, ⟨e5, e6, e7, e8⟩⟩ := TwoBox.cells hS; go_simp⟩) S6 ?_
    refine wpAnyN_take (i := 2) (v := .int .i64 ch.2) rfl (by kernel_rfl) (by kernel_rfl) (by kernel_rfl) (by kernel_rfl) (fun _ _ _ h => h) (Or.inl ⟨rfl, fun w' hS => by go_simp⟩) S6 ?_
    refine wpAnyN_one (i := 3) (by kernel_rfl) rfl rfl ?_
    intro K' hK'
    refine wp_store_mid 26 (.tmp 4) (.tmp 43) rfl (w.heap.size + 1) 0 x.cells4.toArray rfl rfl S6.2.2.1 infoNode4 (NT.cells4_all _) ?_
    have S7 := S6.put1 hne
    generalize hA : w6.drew.setCells (w.heap.size + 1) 0 x.cells4.toArray.toList = wa
    have S7 : TwoBox (w.heap.size + 1) (w.heap.size + 2) x y w6 wa := hA ▸ S7
    clear hA
    refine hK' _ _ ⟨fun _ => S7, ?_⟩
    clear hK' K'
    refine wpAnyN_one (i := 4) (by kernel_rfl) rfl rfl ?_
    intro K' hK'
    refine wp_store_mid 26 (.tmp 5) (.tmp 44) rfl (w.heap.size + 2) 0 y.cells4.toArray rfl rfl S7.2.2.2.1 infoNode4 (NT.cells4_all _) ?_
    have S8 := S7.put2 hne
    generalize hA : wa.setCells (w.heap.size + 2) 0 y.cells4.toArray.toList = wb
    have S8 : TwoBox (w.heap.size + 1) (w.heap.size + 2) x y w6 wb := hA ▸ S8
    clear hA
    refine hK' _ _ ⟨fun _ => S8, ?_⟩
    clear hK' K'
    refine wpAnyN_one (i := 5) (by kernel_rfl) rfl rfl ?_
    intro K' hK'
    go_wp2_with fail
    refine ⟨fun h => (by cases h), ?_⟩
    refine wpAnyN_done (by kernel_rfl) ?_ _
    go_wp2_with fail
    obtain ⟨z1, z2, z3, zb, z5⟩ := HB5.out
    have k8 := S8.2.2.2.2
    have z6 := k6.size
    have z8 := k8.size
    have h68 : ∀ lo hi, w.heap.size + 3 ≤ lo → hi ≤ w5.heap.size → Agree lo hi w5 wb := fun lo hi h1 h2 => Agree.trans (k6.agree h2 (fun j j1 j2 hj => by have : j = w.heap.size + 1 := hj; omega)) (k8.agree (by omega) (fun j j1 j2 hj => by rcases hj with hj | hj <;> omega))
    refine bodyPost_ret (v := .tuple #[x.val, y.val, .int .i64 ch.2]) (results_cells2E Tryz.results128 _ _ (w.heap.size + 1) (w.heap.size + 2) x.cells4 y.cells4 _ _ rfl rfl rfl S8.1 S8.2.1 Tryz.underlying26 rfl infoNode4 infoNode4) rfl ?_
    rw [HR.out]
    refine ⟨x, y, rfl, (G5.out.keep k6 (fun j hj => by rw [hj]; omega)).keep k8 (fun j hj => by rcases hj with hj | hj <;> (rw [hj]; omega)), (HX.out.agree (h68 _ _ (by omega) (Nat.le_refl _))).mono (by omega) (by omega), (HY5.out.agree (h68 _ _ (by omega) (by omega))).mono (by omega) (by omega), hxe.out, rfl⟩
  · have HR : Hid (res = (T.nilT, T.nilT, 5)) := by show _ = _; rw [hcut.out, hat]
    obtain ⟨r1, r2, t62, k12⟩ := put_two (by omega) t53 t63 NT.nil NT.nil
    have HH := Lib.hid (fun (wa wb : World) (ha : w3.setCells (w.heap.size + 1) 0 NT.nil.cells4 = wa) (hb : wa.setCells (w.heap.size + 2) 0 NT.nil.cells4 = wb) => (by
      subst ha hb
      exact ⟨r1, r2, k12⟩ : wb.rangeAt (w.heap.size + 1) 0 NT.nil.cells4 ∧ wb.rangeAt (w.heap.size + 2) 0 NT.nil.cells4 ∧ Keeps (fun k => k = w.heap.size + 1 ∨ k = w.heap.size + 2) w3 wb))
    have HT := Lib.hid t62
    clear hat hcut hE CH hpb hpc z1 z2 z3 r3 t63 rN3 r1 r2 t62 k12 k3 HY
    go_wp2_with (first | (refine wpList_store_mid rfl 26 (.tmp 4) (.tmp 22) rfl (w.heap.size + 1) 0 NT.nil.cells4.toArray rfl rfl t53 infoNode4 (NT.cells4_all _) ?_; generalize hA : w3.setCells _ _ _ = wa; have ta : wa.there (w.heap.size + 2) 0 4 := hA ▸ HT.out; clear HT; have HA := Lib.hid hA; clear hA) | (refine wpList_store_mid rfl 26 (.tmp 5) (.tmp 23) rfl (w.heap.size + 2) 0 NT.nil.cells4.toArray rfl rfl ta infoNode4 (NT.cells4_all _) ?_; generalize hB : wa.setCells _ _ _ = wb; obtain ⟨ra, rb, kb⟩ := HH.out wa wb HA.out hB; clear hB HH HA))
    refine bodyPost_ret (v := .tuple #[NT.nil.val, NT.nil.val, .int .i64 5]) (results_cells2E Tryz.results128 _ _ (w.heap.size + 1) (w.heap.size + 2) NT.nil.cells4 NT.nil.cells4 _ _ rfl rfl rfl ra rb Tryz.underlying26 rfl infoNode4 infoNode4) rfl ?_
    rw [HR.out]
    exact ⟨NT.nil, NT.nil, rfl, G3.out.keep kb (fun j hj => by rcases hj with hj | hj <;> (rw [hj]; omega)), NT.nil_in, nil_own, nil_er, nil_er⟩
end Go.Proofs.YtbhbekocmpmjfaaGreatDoor
/- slices.IndexFunc and slices.ContainsFunc on nodes: the contracts, for whatever function value is handed in. -/
namespace Go.Proofs.YtbhbekocmpmjfaaGreatDoor
open Go Go.RowKit

/-- what a predicate on nodes is to do that is handed to slices.IndexFunc -/
def KidCalls (pf : FuncId) (caps : Array Value) (ks : List NT) (ka : Option Addr) (kc lo hi : Nat) (I : Nat → (Nat → Prop) → World → Prop) (J : Nat → World → Prop) : Prop :=
  ∀ j, j < ks.length → ∀ O w, I j O w → KidsIn w lo hi ka kc ks → hi ≤ w.heap.size → (∀ k, lo ≤ k → k < hi → ¬ O k) →
    Calls Tryz.prog pf (#[(ks.getD j default).val] ++ caps) w fun e w' => ∃ O', Moves O w O' w' ∧ ((e = .returned (.bool false) ∧ I (j + 1) O' w') ∨ (e = .returned (.bool true) ∧ J j w'))

set_option maxHeartbeats 400000 in
theorem indexNodes_any (ks : List NT) (ka : Option Addr) (kc : Nat) (pf : FuncId) (caps : Array Value) (lo hi : Nat) (I : Nat → (Nat → Prop) → World → Prop) (J : Nat → World → Prop)
    (eg : ∀ args w, (callFunc pf args).run Tryz.prog w = .ok (.enter pf args) w)
    (hcall : KidCalls pf caps ks ka kc lo hi I J) (O : Nat → Prop)
    (hS : ∀ k, lo ≤ k → k < hi → ¬ O k) (hlen : ks.length ≤ 1048576) (w : World) (hk : KidsIn w lo hi ka kc ks) (hhi : hi ≤ w.heap.size) (hI : I 0 O w) :
    Calls Tryz.prog 193 #[.slice ka ks.length kc, .func (.func pf) #[] caps] w fun e w' =>
      ∃ O', Moves O w O' w' ∧ ((e = .returned (.int .i64 (-1)) ∧ I ks.length O' w') ∨ ∃ j : Nat, j < ks.length ∧ e = .returned (.int .i64 j) ∧ J j w') := by
  have HC := Lib.hid hcall
  clear hcall
  go_enter Tryz.func193, Tryz.ntmps193
  go_wp2_with fail
  go_loopw [8] (fun i wr => ∃ (k : Nat) (Ok : Nat → Prop), k ≤ ks.length ∧ i = .int .i64 k ∧ Moves O w Ok wr ∧ I k Ok wr) (fun i _ => ks.length - (intOf i).toNat)
  case atStart => exact ⟨0, O, by omega, rfl, Moves.refl _ _, hI⟩
  case round =>
    obtain ⟨k, Ok, hk1, rfl, hg, hIk⟩ := hrel
    by_cases hlt : k < ks.length
    · have hkr := hk.agree (hg.1.agree hhi hS)
      obtain ⟨b, o, rfl, _, hbh, hc0, hc1, hc2, hc3⟩ := hkr.at hlt
      have HC1 := Lib.hid (HC.out k hlt Ok wr hIk hkr (Nat.le_trans hhi hg.1.size) (fun k' h1 h2 => hg.notin (hS k' h1 h2) (by omega)))
      generalize ks.getD k default = x at *
      go_wp2_with fail
      refine HC1.out.mono ?_
      rintro e w' ⟨O', hkp, ⟨rfl, hI2⟩ | ⟨rfl, hJ⟩⟩
      · go_wp2_with fail
        go_roundw
        case rel => exact ⟨k + 1, O', by omega, by go_num, hg.trans hkp, hI2⟩
        case measure => simp [intOf]; omega
      · go_wp2_with fail
        go_ret
        exact ⟨O', hg.trans hkp, Or.inr ⟨k, hlt, rfl, hJ⟩⟩
    · obtain rfl : k = ks.length := by omega
      go_wp2_with fail
      go_ret
      exact ⟨Ok, hg, Or.inl ⟨rfl, hIk⟩⟩
set_option maxHeartbeats 400000 in
theorem containsNodes_any (ks : List NT) (ka : Option Addr) (kc : Nat) (pf : FuncId) (caps : Array Value) (lo hi : Nat) (I : Nat → (Nat → Prop) → World → Prop) (J : Nat → World → Prop)
    (eg : ∀ args w, (callFunc pf args).run Tryz.prog w = .ok (.enter pf args) w)
    (hcall : KidCalls pf caps ks ka kc lo hi I J) (O : Nat → Prop)
    (hS : ∀ k, lo ≤ k → k < hi → ¬ O k) (hlen : ks.length ≤ 1048576) (w : World) (hk : KidsIn w lo hi ka kc ks) (hhi : hi ≤ w.heap.size) (hI : I 0 O w) :
    Calls Tryz.prog 135 #[.slice ka ks.length kc, .func (.func pf) #[] caps] w fun e w' =>
      ∃ O', Moves O w O' w' ∧ ((e = .returned (.bool false) ∧ I ks.length O' w') ∨ ∃ j : Nat, j < ks.length ∧ e = .returned (.bool true) ∧ J j w') := by
  have C := Lib.hid (indexNodes_any ks ka kc pf caps lo hi I J eg hcall O hS hlen w hk hhi hI)
  clear hcall eg
  go_enter Tryz.func135, Tryz.ntmps135
  go_wp2_with fail
  refine C.out.mono ?_
  rintro e w' ⟨O', hkp, ⟨rfl, hI2⟩ | ⟨j, hj, rfl, hJ⟩⟩
  · go_wp2_with fail
    go_ret
    exact ⟨O', hkp, Or.inl ⟨rfl, hI2⟩⟩
  · go_wp2_with fail
    go_ret
    exact ⟨O', hkp, Or.inr ⟨j, hj, ret_bool (by simp), hJ⟩⟩
end Go.Proofs.YtbhbekocmpmjfaaGreatDoor
/- node.walk and what it calls: the contracts, for whatever function value is handed in. -/
namespace Go.Proofs.YtbhbekocmpmjfaaGreatDoor
open Go Go.RowKit

/-- the nodes of a tree, in order -/
def NT.pre : NT → List NT
  | .mk lf pa pc ps ta tc ts ka kc ks => .mk lf pa pc ps ta tc ts ka kc ks :: NT.pres ks
  where NT.pres : List NT → List NT
  | [] => []
  | k :: r => NT.pre k ++ NT.pres r
theorem NT.pres_eq (l : List NT) : NT.pre.NT.pres l = l.flatMap NT.pre := by
  induction l with
  | nil => rfl
  | cons x r ih => simp [NT.pre.NT.pres, ih]
theorem NT.pre_eq (n : NT) : n.pre = n :: n.ks.flatMap NT.pre := by cases n; simp [NT.pre, NT.pres_eq]

/-- how many nodes stand ahead of the j-th of a list -/
def offs (ks : List NT) (j : Nat) : Nat := ((ks.take j).flatMap NT.pre).length
theorem offs_zero (ks : List NT) : offs ks 0 = 0 := by simp [offs]
theorem offs_succ (ks : List NT) (j : Nat) (h : j < ks.length) : offs ks (j + 1) = offs ks j + (ks.getD j default).pre.length := by
  unfold offs
  rw [List.take_succ_eq_append_getElem h, List.flatMap_append, List.length_append]
  congr 1
  simp [List.getD, List.getElem?_eq_getElem h]
theorem offs_end (n : NT) : 1 + offs n.ks n.ks.length = n.pre.length := by
  unfold offs; rw [List.take_length, NT.pre_eq]; simp; omega
theorem pre_kid {L : List NT} {i : Nat} {n : NT} (h : n.pre <+: L.drop i) (j : Nat) (hj : j < n.ks.length) : (n.ks.getD j default).pre <+: L.drop (i + 1 + offs n.ks j) := by
  obtain ⟨rest, hr⟩ := h
  rw [NT.pre_eq] at hr
  have h1 : L.drop (i + 1) = n.ks.flatMap NT.pre ++ rest := by
    rw [← List.tail_drop, ← hr]; rfl
  have h2 : n.ks.flatMap NT.pre = (n.ks.take j).flatMap NT.pre ++ ((n.ks.getD j default).pre ++ (n.ks.drop (j + 1)).flatMap NT.pre) := by
    conv => lhs; rw [← List.take_append_drop j n.ks, drop_cons n.ks j hj]
    simp
  rw [← List.drop_drop, h1, h2, List.append_assoc, offs, List.drop_left, List.append_assoc]
  exact ⟨_, rfl⟩
theorem pre_head {L : List NT} {i : Nat} {n : NT} (h : n.pre <+: L.drop i) : L[i]? = some n := by
  obtain ⟨rest, hr⟩ := h
  rw [NT.pre_eq] at hr
  have : (L.drop i)[0]? = some n := by rw [← hr]; rfl
  simpa using this

/-- what node.walk lays: the function that is handed in, and the closure that calls itself -/
def WEnv (tf : FuncId) (caps : Array Value) (bt be : Nat) (w : World) : Prop :=
  w.cell? ⟨bt, 0, none⟩ = some (.func (.func tf) #[] caps) ∧ w.cell? ⟨be, 0, none⟩ = some (.func (.func 134) #[] #[.pointer (some ⟨bt, 0, none⟩), .pointer (some ⟨be, 0, none⟩)]) ∧ bt < w.heap.size ∧ be < w.heap.size
theorem WEnv.keeps {tf : FuncId} {caps : Array Value} {bt be : Nat} {w w' : World} {S : Nat → Prop} (h : WEnv tf caps bt be w) (hk : Keeps S w w') (h1 : ¬ S bt) (h2 : ¬ S be) : WEnv tf caps bt be w' :=
  ⟨(hk.cell (p := ⟨bt, 0, none⟩) h.2.2.1 h1).trans h.1, (hk.cell (p := ⟨be, 0, none⟩) h.2.2.2 h2).trans h.2.1, Nat.lt_of_lt_of_le h.2.2.1 hk.size, Nat.lt_of_lt_of_le h.2.2.2 hk.size⟩

section
variable (L : List NT) (tf : FuncId) (caps : Array Value) (lo hi bt be : Nat) (I : Nat → (Nat → Prop) → World → Prop) (J : Nat → World → Prop)

/-- what is asked of the function that is handed in -/
def WTo : Prop := ∀ i x, L[i]? = some x → ∀ O w, I i O w → x.In w lo hi → hi ≤ w.heap.size → (∀ k, lo ≤ k → k < hi → ¬ O k) →
  Calls Tryz.prog tf (#[x.val] ++ caps) w fun e w' => ∃ O', Moves O w O' w' ∧ ((e = .returned (.bool true) ∧ I (i + 1) O' w') ∨ (e = .returned (.bool false) ∧ J i w'))

set_option maxHeartbeats 400000 in
theorem each_any (eg : ∀ args w, (callFunc tf args).run Tryz.prog w = .ok (.enter tf args) w) (hto : WTo L tf caps lo hi I J) (hst : ∀ i O w w', I i O w → Grew w w' → I i O w')
    (hlt : ∀ i O w, I i O w → ∀ k, O k → k < w.heap.size) (n : NT) :
    ∀ (i : Nat) (O : Nat → Prop) (w : World), n.pre <+: L.drop i → n.er.bulk ≤ 1048576 → n.In w lo hi → hi ≤ w.heap.size → (∀ k, lo ≤ k → k < hi → ¬ O k) → ¬ O bt → ¬ O be → I i O w → WEnv tf caps bt be w →
      Calls Tryz.prog 134 #[n.val, .pointer (some ⟨bt, 0, none⟩), .pointer (some ⟨be, 0, none⟩)] w fun e w' =>
        ∃ O', Moves O w O' w' ∧ ((e = .returned (.bool true) ∧ I (i + n.pre.length) O' w') ∨ (e = .returned (.bool false) ∧ ∃ j, J j w')) := by
  induction n using NT.ind with
  | h n ih =>
  intro i O w hpre hb hn hhi hS hbt hbe hI hE
  have hlens := n.lens
  have HI := Lib.hid ih
  clear ih
  have HTO := Lib.hid (hto i n (pre_head hpre) O (w.alloc (Obj.cells #[.bool n.lf, .slice n.pa n.ps.length n.pc, .slice n.ta n.ts.length n.tc, .slice n.ka n.ks.length n.kc] 26)) (hst _ _ _ _ hI (Grew.alloc1 _ _)) (hn.grew (Grew.alloc1 _ _) hhi) (by simp; omega) hS)
  clear hto
  have hE1 := hE.1
  have hE2 := hE.2.1
  have z1 := hE.2.2.1
  have z2 := hE.2.2.2
  have hbox : ¬ O w.heap.size := fun h => by have := hlt _ _ _ hI _ h; omega
  unfold NT.val
  go_enter Tryz.func134, Tryz.ntmps134
  go_wp2_with fail
  obtain ⟨w1, hw1⟩ : ∃ w1, w1 = w.alloc (Obj.cells #[.bool n.lf, .slice n.pa n.ps.length n.pc, .slice n.ta n.ts.length n.tc, .slice n.ka n.ks.length n.kc] 26) := ⟨_, rfl⟩
  have b1 : Grew w w1 := by rw [hw1]; exact Grew.alloc1 _ _
  have c3 : w1.cell? ⟨w.heap.size, 3, none⟩ = some (.slice n.ka n.ks.length n.kc) := by rw [hw1]; go_simp
  have zz : w.heap.size < w1.heap.size := by rw [hw1]; simp
  rw [← hw1] at HTO ⊢
  clear hw1
  refine HTO.out.mono ?_
  have hE' := hE.keeps (b1.keeps O) hbt hbe
  rintro e w2 ⟨O2, hk2, ⟨rfl, hI2⟩ | ⟨rfl, hJ⟩⟩
  · have hE2' := hE'.keeps hk2.1 hbt hbe
    have hbt2 : ¬ O2 bt := hk2.notin hbt (by omega)
    have hbe2 : ¬ O2 be := hk2.notin hbe (by omega)
    have hS2 : ∀ k, lo ≤ k → k < hi → ¬ O2 k := fun k h1 h2 => hk2.notin (hS k h1 h2) (by omega)
    have d3 : w2.cell? ⟨w.heap.size, 3, none⟩ = some (.slice n.ka n.ks.length n.kc) := by
      rw [hk2.1.cell (by exact zz) hbox]; exact c3
    have hh1 : hi ≤ w1.heap.size := Nat.le_trans hhi b1.size
    have hkk := (NT.In_iff.1 ((hn.grew b1 hhi).agree (hk2.1.agree hh1 hS))).2.2
    have hh2 : hi ≤ w2.heap.size := Nat.le_trans hh1 hk2.1.size
    have hlen : n.ks.length ≤ 1048576 := by omega
    have C := Lib.hid (containsNodes_any n.ks n.ka n.kc 136 #[.pointer (some ⟨be, 0, none⟩)] lo hi (fun j O w => I (i + 1 + offs n.ks j) O w ∧ ¬ O bt ∧ ¬ O be ∧ WEnv tf caps bt be w) (fun _ w => ∃ m, J m w) Tryz.call136 (by
      intro j hj O3 w3 ⟨hI3, hbt3, hbe3, hE3⟩ hk3 hh3 hS3
      have hmem := getD_mem n.ks j hj
      have hbk := T.bulk_kid (n := n.er) (k := (n.ks.getD j default).er) (by rw [NT.er_ks]; exact er_mem hmem)
      have C3 := fun w4 (hg : Grew w3 w4) => HI.out _ hmem (i + 1 + offs n.ks j) O3 w4 (pre_kid hpre j hj) (by omega) ((hk3.2 _ hmem).grew hg hh3) (Nat.le_trans hh3 hg.size) hS3 hbt3 hbe3 (hst _ _ _ _ hI3 hg) (hE3.keeps (hg.keeps O3) hbt3 hbe3)
      rw [Nat.add_assoc _ (offs n.ks j), ← offs_succ n.ks j hj] at C3
      generalize n.ks.getD j default = x at *
      have C4 := Lib.hid C3
      clear C3
      have e2 := hE3.2.1
      have z3 := hE3.2.2.2
      have z4 := hE3.2.2.1
      clear hI3
      simp only [NT.val, List.append_toArray, List.cons_append, List.nil_append]
      go_enter Tryz.func136, Tryz.ntmps136
      go_wp2_with fail
      refine (C4.out _ (Grew.alloc1 _ _)).mono ?_
      rintro e w5 ⟨O5, hk5, ⟨rfl, hI5⟩ | ⟨rfl, hJ5⟩⟩
      · go_wp2_with fail
        go_ret
        exact ⟨O5, (Moves.grew (Grew.alloc1 _ _)).trans hk5, Or.inl ⟨rfl, hI5, hk5.notin hbt3 (by simp; omega), hk5.notin hbe3 (by simp; omega), (hE3.keeps ((Grew.alloc1 _ _).keeps O3) hbt3 hbe3).keeps hk5.1 hbt3 hbe3⟩⟩
      · go_wp2_with fail
        go_ret
        exact ⟨O5, (Moves.grew (Grew.alloc1 _ _)).trans hk5, Or.inr ⟨rfl, hJ5⟩⟩) O2 hS2 hlen w2 hkk hh2 ⟨by rw [offs_zero]; exact hI2, hbt2, hbe2, hE2'⟩)
    have HO := Lib.hid (offs_end n)
    clear HI
    go_wp2_with fail
    refine C.out.mono ?_
    rintro e w3 ⟨O3, hk3, ⟨rfl, hI3, _⟩ | ⟨j, hj, rfl, hJ⟩⟩
    · go_wp2_with fail
      go_ret
      exact ⟨O3, (Moves.grew b1).trans (hk2.trans hk3), Or.inl ⟨rfl, by rw [← HO.out, ← Nat.add_assoc]; exact hI3⟩⟩
    · go_wp2_with fail
      go_ret
      exact ⟨O3, (Moves.grew b1).trans (hk2.trans hk3), Or.inr ⟨rfl, hJ⟩⟩
  · go_wp2_with fail
    go_ret
    exact ⟨O2, (Moves.grew b1).trans hk2, Or.inr ⟨rfl, _, hJ⟩⟩

set_option maxHeartbeats 400000 in
theorem walk_any (n : NT) (O : Nat → Prop) (w : World) (eg : ∀ args w, (callFunc tf args).run Tryz.prog w = .ok (.enter tf args) w) (hto : WTo n.pre tf caps lo hi I J) (hst : ∀ i O w w', I i O w → Grew w w' → I i O w')
    (hlt : ∀ i O w, I i O w → ∀ k, O k → k < w.heap.size) (hS : ∀ k, lo ≤ k → k < hi → ¬ O k) (hb : n.er.bulk ≤ 1048576) (hn : n.In w lo hi) (hhi : hi ≤ w.heap.size) (hI : I 0 O w) :
    Calls Tryz.prog 73 #[n.val, .func (.func tf) #[] caps] w fun e w' =>
      ∃ O', Moves O w O' w' ∧ ((e = .returned (.bool true) ∧ I n.pre.length O' w') ∨ (e = .returned (.bool false) ∧ ∃ j, J j w')) := by
  have C := Lib.hid (fun w3 bt be => each_any n.pre tf caps lo hi bt be I J eg hto hst hlt n 0 O w3 (by simp) hb)
  have hO := hlt _ _ _ hI
  clear hto eg
  unfold NT.val
  go_enter Tryz.func73, Tryz.ntmps73
  go_wp2_with fail
  have hg : ∀ o1 o2 o3, Grew w (((w.alloc o1).alloc o2).alloc o3) := fun o1 o2 o3 => (((Grew.refl w).alloc o1).alloc o2).alloc o3
  refine (C.out _ (w.heap.size + 1) (w.heap.size + 1 + 1) (hn.grew (hg _ _ _) hhi) (Nat.le_trans hhi (hg _ _ _).size) hS (fun h => by have := hO _ h; omega) (fun h => by have := hO _ h; omega) (hst _ _ _ _ hI (hg _ _ _)) ⟨by go_simp, by go_simp, by simp, by simp⟩).mono ?_
  rintro e w2 ⟨O2, hk2, ⟨rfl, hI2⟩ | ⟨rfl, hJ⟩⟩
  · rw [Nat.zero_add] at hI2
    go_wp2_with fail
    go_ret
    exact ⟨O2, (Moves.grew (hg _ _ _)).trans hk2, Or.inl ⟨rfl, hI2⟩⟩
  · go_wp2_with fail
    go_ret
    exact ⟨O2, (Moves.grew (hg _ _ _)).trans hk2, Or.inr ⟨rfl, hJ⟩⟩
end
end Go.Proofs.YtbhbekocmpmjfaaGreatDoor
/- node.Size: the contract. -/
namespace Go.Proofs.YtbhbekocmpmjfaaGreatDoor
open Go Go.RowKit

mutual
def T.size : T → Nat
  | .mk _ _ ts ks => 1 + ts.length + T.sizes ks
def T.sizes : List T → Nat
  | [] => 0
  | k :: r => T.size k + T.sizes r
end
theorem T.size_eq (t : T) : t.size = 1 + t.ts.length + T.sizes t.ks := by cases t; simp [T.size]
theorem T.sizes_sum (l : List T) : T.sizes l = (l.map T.size).sum := by
  induction l with
  | nil => rfl
  | cons x r ih => simp [T.sizes, ih]
theorem T.size_le (t : T) : t.size ≤ t.bulk := by
  induction t using T.ind with
  | h t ih =>
    have : T.sizes t.ks ≤ T.bulkAll t.ks := by
      generalize t.ks = l at ih
      induction l with
      | nil => simp [T.sizes]
      | cons x r ihr =>
        have h1 := ih x (by simp)
        have h2 := ihr (fun k hk => ih k (by simp [hk]))
        simp only [T.sizes, T.bulkAll]; omega
    rw [T.size_eq, T.bulk_eq]; omega
theorem T.sizes_append (a b : List T) : T.sizes (a ++ b) = T.sizes a + T.sizes b := by simp [T.sizes_sum]
/-- what the nodes of a list have by themselves -/
def ownSizes (l : List NT) : Nat := (l.map fun x => 1 + x.ts.length).sum
theorem ownSizes_append (a b : List NT) : ownSizes (a ++ b) = ownSizes a + ownSizes b := by simp [ownSizes]
theorem ownSizes_pre (n : NT) : ownSizes n.pre = n.er.size := by
  induction n using NT.ind with
  | h n ih =>
    have hl : ∀ l : List NT, (∀ k ∈ l, ownSizes k.pre = k.er.size) → ownSizes (l.flatMap NT.pre) = T.sizes (l.map NT.er) := by
      intro l
      induction l with
      | nil => intro _; rfl
      | cons x r ihr =>
        intro h
        simp only [List.flatMap_cons, ownSizes_append, List.map_cons, T.sizes]
        rw [h x (by simp), ihr (fun k hk => h k (by simp [hk]))]
    rw [NT.pre_eq, T.size_eq, NT.er_ks, NT.er_ts, ← hl n.ks ih]
    simp [ownSizes]
theorem ownSizes_take (l : List NT) (i : Nat) (x : NT) (h : l[i]? = some x) : ownSizes (l.take (i + 1)) = ownSizes (l.take i) + (1 + x.ts.length) := by
  have hi : i < l.length := by
    rcases Nat.lt_or_ge i l.length with h1 | h1
    · exact h1
    · rw [List.getElem?_eq_none h1] at h; cases h
  rw [List.take_succ_eq_append_getElem hi, ownSizes_append]
  have : l[i] = x := by rw [List.getElem?_eq_getElem hi] at h; exact Option.some.inj h
  simp [ownSizes, this]
theorem ownSizes_take_le (l : List NT) (i : Nat) : ownSizes (l.take i) ≤ ownSizes l := by
  conv => rhs; rw [← List.take_append_drop i l, ownSizes_append]
  omega

/-- the closure's own cell behind i nodes -/
def SizeI (n : NT) (s : Nat) (i : Nat) (O : Nat → Prop) (w : World) : Prop :=
  w.cell? ⟨s, 0, none⟩ = some (.int .i64 (ownSizes (n.pre.take i) : Nat)) ∧ w.frozen? ⟨s, 0, none⟩ = false ∧ s < w.heap.size ∧ O s ∧ ∀ k, O k → k = s
def NoJ (_ : Nat) (_ : World) : Prop := False

set_option maxHeartbeats 400000 in
theorem sizeTo_any (n : NT) (hb : n.er.bulk ≤ 1048576) (s : Nat) (lo hi : Nat) :
    WTo n.pre 74 #[.pointer (some ⟨s, 0, none⟩)] lo hi (SizeI n s) NoJ := by
  intro i x hx O w ⟨hc, hf, hsz, hO1, hO2⟩ hin hhi hS
  have hle := ownSizes_take_le n.pre i
  have hle2 := ownSizes_take_le n.pre (i + 1)
  have hsl := T.size_le n.er
  rw [ownSizes_pre] at hle hle2
  have HX := Lib.hid (ownSizes_take n.pre i x hx)
  rw [HX.out] at hle2
  generalize ownSizes (n.pre.take i) = a at *
  have ha : a ≤ 1048576 := by omega
  have hl : x.ts.length ≤ 1048576 := by omega
  clear hx hle hle2 hin hS hO2
  simp only [NT.val, List.append_toArray, List.cons_append, List.nil_append]
  go_enter Tryz.func74, Tryz.ntmps74
  go_wp2_with fail
  go_ret
  refine ⟨(· = s), ⟨Keeps.alloc ((Keeps.refl _ _).setCell (Or.inr hO1) _) _, fun k hk => Or.inl (by subst hk; exact hO1)⟩, Or.inl ⟨rfl, ?_, ?_, ?_, rfl, fun _ h => h⟩⟩
  · rw [World.cell?_alloc_past _ _ _ (by simpa [World.setCell] using hsz), World.cell?_setCell_same _ _ _ hc, HX.out]
    simp
  · rw [World.frozen?_alloc_past _ _ _ (by simpa [World.setCell] using hsz), World.frozen?_setCell]
    exact hf
  · simp [World.setCell]; omega

set_option maxHeartbeats 400000 in
theorem size_any (n : NT) (w : World) (hn : n.Ok w) (hb : n.er.bulk ≤ 1048576) :
    Calls Tryz.prog 17 #[n.val] w fun e w' => e = .returned (.int .i64 n.er.size) ∧ Grew w w' := by
  have C := Lib.hid (fun s (hs : w.heap.size ≤ s) w1 => walk_any 74 #[.pointer (some ⟨s, 0, none⟩)] 0 w.heap.size (SizeI n s) NoJ n (· = s) w1 Tryz.call74 (sizeTo_any n hb s 0 w.heap.size)
    (fun i O w w' h hg => ⟨(hg.cell h.2.2.1).trans h.1, (hg.frozen h.2.2.1).trans h.2.1, Nat.lt_of_lt_of_le h.2.2.1 hg.size, h.2.2.2⟩) (fun i O w h k hk => by rw [h.2.2.2.2 k hk]; exact h.2.2.1) (fun k _ h2 => by omega) hb)
  have HO := Lib.hid (ownSizes_pre n)
  unfold NT.val
  go_enter Tryz.func17, Tryz.ntmps17
  go_wp2_with fail
  have hg : ∀ o1 o2, Grew w ((w.alloc o1).alloc o2) := fun o1 o2 => ((Grew.refl w).alloc o1).alloc o2
  refine (C.out (w.heap.size + 1) (by omega) _ (NT.In.grew hn (hg _ _) (Nat.le_refl _)) (hg _ _).size ⟨by go_simp; simp [ownSizes], by go_simp, by simp, rfl, fun _ h => h⟩).mono ?_
  rintro e w2 ⟨O2, hk2, ⟨rfl, hI2⟩ | ⟨rfl, j, hJ⟩⟩
  · have hc := hI2.1
    rw [List.take_length, HO.out] at hc
    go_wp2_with fail
    go_ret
    exact ⟨rfl, (hg _ _).keep hk2.1 (fun k h => by subst h; omega)⟩
  · exact absurd hJ id
end Go.Proofs.YtbhbekocmpmjfaaGreatDoor
/- redlineref03.Copy, redlineref03.Same: the contracts. -/
namespace Go.Proofs.YtbhbekocmpmjfaaGreatDoor
open Go Go.RowKit

theorem infoRune : (Tryz.prog.info? 21).map (fun i => (i.zero, i.size, i.bytes)) = some (some (.int .i32 0), 1, 4) := by kernel_rfl

end Go.Proofs.YtbhbekocmpmjfaaGreatDoor
/- node.Text: the contract. -/
namespace Go.Proofs.YtbhbekocmpmjfaaGreatDoor
open Go Go.RowKit

mutual
def T.text : T → List Int
  | .mk _ _ ts ks => ts ++ T.texts ks
def T.texts : List T → List Int
  | [] => []
  | k :: r => T.text k ++ T.texts r
end
theorem T.text_eq (t : T) : t.text = t.ts ++ T.texts t.ks := by cases t; simp [T.text]
theorem T.texts_append (a b : List T) : T.texts (a ++ b) = T.texts a ++ T.texts b := by
  induction a with
  | nil => rfl
  | cons x r ih => simp [T.texts, ih]
end Go.Proofs.YtbhbekocmpmjfaaGreatDoor
