/- tree.Cut: the contract. -/
import Derived.Test.YtbhbekocmpmjfaaGreatDoorK20
import Derived.Test.YtbhbekocmpmjfaaGreatDoorK06
import Derived.Test.YtbhbekocmpmjfaaGreatDoorK11
import Derived.Laws.Cover1
import Derived.Test.YtbhbekocmpmjfaaGreatDoorK01
import Derived.Test.YtbhbekocmpmjfaaGreatDoorChecked
import Derived.Outline
import Derived.Laws.EntriesVeiled
namespace Go.Proofs.YtbhbekocmpmjfaaGreatDoor
open Go Go.RowKit
def TwoBox (b4 b5 : Nat) (x y : NT) (w6 w : World) : Prop := w.rangeAt b4 0 x.cells4 ∧ w.rangeAt b5 0 y.cells4 ∧ w.there b4 0 4 ∧ w.there b5 0 4 ∧ Keeps (fun k => k = b4 ∨ k = b5) w6 w
theorem TwoBox.put1 {b4 b5 : Nat} {x y : NT} {w6 w : World} (hne : b4 ≠ b5) (h : TwoBox b4 b5 x y w6 w) : TwoBox b4 b5 x y w6 (w.setCells b4 0 x.cells4) := by
 obtain ⟨h1, h2, h3, h4, h5⟩ := h
 refine ⟨zb7 (cs := x.cells4) h3, fun j v hj => ?_, World.there_setCells h3 b4 0 x.cells4, World.there_setCells h4 b4 0 x.cells4, h5.trans ((zct b4 x.cells4 0 w).wider fun k _ hk => Or.inl hk)⟩
 rw [World.cell?_setCells_out b4 x.cells4 0 _ ⟨b5, 0 + j, none⟩ (fun h _ => absurd (show b5 = b4 from h) hne.symm)]
 exact h2 j v hj
theorem TwoBox.put2 {b4 b5 : Nat} {x y : NT} {w6 w : World} (hne : b4 ≠ b5) (h : TwoBox b4 b5 x y w6 w) : TwoBox b4 b5 x y w6 (w.setCells b5 0 y.cells4) := by
 obtain ⟨h1, h2, h3, h4, h5⟩ := h
 refine ⟨fun j v hj => ?_, zb7 (cs := y.cells4) h4, World.there_setCells h3 b5 0 y.cells4, World.there_setCells h4 b5 0 y.cells4, h5.trans ((zct b5 y.cells4 0 w).wider fun k _ hk => Or.inr hk)⟩
 rw [World.cell?_setCells_out b5 y.cells4 0 _ ⟨b4, 0 + j, none⟩ (fun h _ => absurd (show b4 = b5 from h) hne)]
 exact h1 j v hj
theorem TwoBox.cells {b4 b5 : Nat} {x y : NT} {w6 w : World} (h : TwoBox b4 b5 x y w6 w) : (w.cell? ⟨b4, 0, none⟩ = some (.bool x.lf) ∧ w.cell? ⟨b4, 1, none⟩ = some (.slice x.pa x.ps.length x.pc) ∧ w.cell? ⟨b4, 2, none⟩ = some (.slice x.ta x.ts.length x.tc) ∧ w.cell? ⟨b4, 3, none⟩ = some (.slice x.ka x.ks.length x.kc)) ∧ (w.cell? ⟨b5, 0, none⟩ = some (.bool y.lf) ∧ w.cell? ⟨b5, 1, none⟩ = some (.slice y.pa y.ps.length y.pc) ∧ w.cell? ⟨b5, 2, none⟩ = some (.slice y.ta y.ts.length y.tc) ∧ w.cell? ⟨b5, 3, none⟩ = some (.slice y.ka y.ks.length y.kc)) :=
 ⟨⟨zb4 h.1 (j := 0) rfl, zb4 h.1 (j := 1) rfl, zb4 h.1 (j := 2) rfl, zb4 h.1 (j := 3) rfl⟩, ⟨zb4 h.2.1 (j := 0) rfl, zb4 h.2.1 (j := 1) rfl, zb4 h.2.1 (j := 2) rfl, zb4 h.2.1 (j := 3) rfl⟩⟩
set_option maxRecDepth 100000 in
set_option maxHeartbeats 8000000 in
theorem treeCutAt_any (n : NT) (pa : Option Addr) (pc : Nat) (p : List Int) (hpos : 0 < p.length) (w : World) (hn : n.Ok w) (hb : n.er.bulk ≤ 1048576) (hp : IntsIn w 0 w.heap.size pa pc p) (hl : p.length ≤ 1048576) :
  Calls Tryz.prog 128 #[n.val, .slice pa p.length pc] w (RetCut (cutT n.er p) w) := by
 have htl : (p.take (p.length - 1)).length = p.length - 1 := by rw [List.length_take]; omega
 have hcut : Hid (cutT n.er p = match n.er.at p with | none => (T.nilT, T.nilT, 5) | some k => ((zaK n.er (p.take (p.length - 1)) (zaV (p.getD (p.length - 1) 0).toNat)).1, k, (zaK n.er (p.take (p.length - 1)) (zaV (p.getD (p.length - 1) 0).toNat)).2)) := by
  show _ = _
  unfold cutT
  rw [if_neg (fun h => by rw [h] at hpos; exact absurd hpos (by simp))]
  cases n.er.at p <;> rfl
 have GT := Lib.hid (fun w1 (hg : Grew w w1) => treeGet_any n pa pc p w1 (NT.Ok.grew hn hg) hb ((hp.grew hg (Nat.le_refl _)).mono (Nat.le_refl _) hg.size) hl)
 have LAST := Lib.hid (fun (k : T) (h : n.er.at p = some k) => T.at_last hpos h)
 have CH := Lib.hid (fun (w1 : World) (bi : Nat) (k : T) (hat : n.er.at p = some k) (hg : Grew w w1) (hi : w1.cell? ⟨bi, 0, none⟩ = some (.int .i64 (p.getD (p.length - 1) 0))) (hbi : bi < w1.heap.size) => (by
  obtain ⟨u, hu, hi0, hi1⟩ := T.at_last hpos hat
  have hii : (p.getD (p.length - 1) 0) = (((p.getD (p.length - 1) 0).toNat : Nat) : Int) := by omega
  rw [hii] at hi
  have := changed_any n pa pc (p.take (p.length - 1)) 182 #[.pointer (some ⟨bi, 0, none⟩)] (zaV (p.getD (p.length - 1) 0).toNat) w1 (NT.Ok.grew hn hg) hb (IntsIn.take ((hp.grew hg (Nat.le_refl _)).mono (Nat.le_refl _) hg.size) (by omega)) (by omega) (fun _ _ => rfl)
   (fun y l h b o w2 g2 h1 h2 h3 h4 h5 h6 h7 h8 h9 h10 h11 h12 => by
    have z2 := g2.size
    have hue : u = y.er := by rw [hu] at h7; exact Option.some.inj h7
    have hul : u.ks.length = y.ks.length := by rw [hue, NT.er_ks, List.length_map]
    exact cut1_any y (p.getD (p.length - 1) 0).toNat bi l h b o (w1.heap.size + 2) w2 ((g2.cell (p := ⟨bi, 0, none⟩) hbi).trans hi) (by omega) (by omega) h4 h5 h6 h2 h3 h1 (by
     have q1 := zas h7
     have q2 := y.lens
     omega) h8 h9 h11 h12 (by omega))
  rw [htl] at this
  exact this : Calls Tryz.prog 181 #[n.val, .slice pa (p.length - 1) pc, .func (.func 182) #[] #[.pointer (some ⟨bi, 0, none⟩)]] w1 (zac (zaK n.er (p.take (p.length - 1)) (zaV (p.getD (p.length - 1) 0).toNat)) w1)))
 generalize cutT n.er p = res at *
 generalize zaK n.er (p.take (p.length - 1)) (zaV (p.getD (p.length - 1) 0).toNat) = ch at *
 obtain ⟨pb, po, rfl, _, hpb, hpc⟩ := hp.at (j := p.length - 1) (by omega)
 have t0 : ((p.length : Int) == 0) = false := beq_eq_false_iff_ne.2 (by omega)
 have hcap := hp.1.2.1
 generalize p.getD (p.length - 1) 0 = i at *
 have HPos := Lib.hid (⟨hpos, hcap⟩ : 0 < p.length ∧ p.length ≤ pc)
 unfold NT.val at *
 clear hn hp hcap htl hpos LAST
 go_enter Tryz.func128, Tryz.ntmps128
 go_upto_region 1 with fail
 generalize hW : ((w.alloc _).alloc _).alloc _ = w1
 have hW2 := hW
 obtain ⟨g1, rN, _, _, t6, z1⟩ := zar w n.cells4 NT.nil.cells4 NT.nil.cells4 _ _ _ w1 hW
 have t5 : w1.there (w.heap.size + 1) 0 4 := by
  rw [← hW2]
  have := there_new (w := w.alloc (.cells n.cells4.toArray 26)) (cs := NT.nil.cells4.toArray) (t := 26) (Grew.alloc1 _ (.cells NT.nil.cells4.toArray 26))
  rw [World.size_alloc] at this
  exact this
 clear hW hW2
 obtain ⟨m0, m1, m2, m3⟩ := NT.cells4_at.1 rN
 rw [Nat.zero_add] at m1 m2 m3
 have G1 := Lib.hid g1
 have Z1 := Lib.hid z1
 have T5 := Lib.hid t5
 have T6 := Lib.hid t6
 have RN := Lib.hid rN
 clear rN g1 z1 t5 t6
 go_wp2_with fail
 refine (GT.out w1 G1.out).mono ?_
 rintro e w2 ⟨y, k, rfl, g2, hy, hE⟩
 have z1 := Z1.out
 have z2 := g2.size
 have t62 := zcE T6.out g2 (by omega)
 have t52 := zcE T5.out g2 (by omega)
 have rN2 := zb5 RN.out g2 (by omega)
 have HQ := Lib.hid (fun (w3 : World) (h : w2.setCells (w.heap.size + 2) 0 y.cells4 = w3) => (by
  subst h
  have k3 := zct (w.heap.size + 2) y.cells4 0 w2
  exact ⟨k3, zb7 (cs := y.cells4) t62, World.there_setCells t62 (w.heap.size + 2) 0 y.cells4, World.there_setCells t52 (w.heap.size + 2) 0 y.cells4, rangeAt_other rN2 k3 (by omega) (by omega)⟩ : Keeps (· = w.heap.size + 2) w2 w3 ∧ w3.rangeAt (w.heap.size + 2) 0 y.cells4 ∧ w3.there (w.heap.size + 2) 0 4 ∧ w3.there (w.heap.size + 1) 0 4 ∧ w3.rangeAt w.heap.size 0 n.cells4))
 have G2 := Lib.hid (G1.out.trans g2)
 clear m0 m1 m2 m3 T5 T6 RN GT t52 rN2
 unfold NT.val
 go_upto_region 4 with (refine wpList_store_mid rfl 26 (.tmp 5) (.tmp 18) rfl (w.heap.size + 2) 0 y.cells4.toArray rfl rfl t62 zbf (NT.cells4_all _) ?_; generalize hF : w2.setCells _ _ _ = w3; obtain ⟨k3, r3, t63, t53, rN3⟩ := HQ.out w3 hF; clear hF HQ)
 have z3 := k3.size
 have G3 : Hid (Grew w w3) := G2.out.keep k3 (fun j hj => by rw [hj]; omega)
 have HY : Hid (y.Own w3 w1.heap.size w2.heap.size) := hy.agree (k3.agree (Nat.le_refl _) (fun j h1 h2 => by show ¬ j = _; omega))
 clear hy t62 g2
 rcases hE.out with ⟨rfl, hat⟩ | ⟨rfl, hat, _⟩
 ·have HR : Hid (res = (ch.1, y.er, ch.2)) := by show _ = _; rw [hcut.out, hat]
  have hw1 : IntKind.i64.wrap ((p.length : Int) - 1) = (p.length : Int) - 1 := by have := HPos.out; rw [IntKind.wrap_i64]; omega
  have htn : ((p.length : Int) - 1).toNat = p.length - 1 := by omega
  have q1 : (0 : Int) ≤ (p.length : Int) - 1 := by have := HPos.out; omega
  have q2 : (p.length : Int) - 1 < p.length := by omega
  have q1b : (1 : Int) ≤ p.length := by have := HPos.out; omega
  have q3 : (p.length : Int) - 1 ≤ pc := by have := HPos.out; omega
  have KB := fun w' (g : Grew w3 w') => (g.cell (p := ⟨pb, po + (p.length - 1), none⟩) (by show pb < w3.heap.size; omega)).trans ((G3.out.cell (p := ⟨pb, po + (p.length - 1), none⟩) hpb).trans hpc)
  have g30 : Grew w3 w3.drew := (Grew.refl _).drew
  have CH1 := Lib.hid (fun (w4 : World) (bi : Nat) (hg : Grew w w4) (hi : w4.cell? ⟨bi, 0, none⟩ = some (.int .i64 i)) (hbi : bi < w4.heap.size) => CH.out w4 bi y.er hat hg hi hbi)
  have Z3 := Lib.hid (⟨z1, z2, z3⟩ : _ ∧ _ ∧ _)
  have R3 := Lib.hid r3
  have T63 := Lib.hid t63
  have T53 := Lib.hid t53
  have RN3 := Lib.hid rN3
  clear hat hcut hE CH hpb hpc z1 z2 z3 r3 t63 t53 rN3 k3
  go_upto_region 6 with fail
  go_region_held3 (fun w' => Grew w3 w') ((first | with_reducible exact g30 | with_reducible assumption | exact (Grew.alloc1 _ _).drew | exact ((Grew.alloc1 _ _).setCell (Nat.le_refl _) _).drew)) ((go_at_call 999999; skip))
  clear KB g30 q1 q2 q1b q3 hw1 htn t0
  have gB : Grew w3 (w3.alloc (.cells #[.int .i64 i] 3)).drew := (Grew.alloc1 _ _).drew
  have cB : (w3.alloc (.cells #[.int .i64 i] 3)).drew.cell? ⟨w3.heap.size, 0, none⟩ = some (.int .i64 i) := zao (Grew.refl (w3.alloc (.cells #[.int .i64 i] 3))) (j := 0) (v := .int .i64 i) rfl
  have zB : (w3.alloc (.cells #[.int .i64 i] 3)).drew.heap.size = w3.heap.size + 1 := by simp
  generalize (w3.alloc (.cells #[.int .i64 i] 3)).drew = w4 at *
  obtain ⟨z1, z2, z3⟩ := Z3.out
  have CH4 := Lib.hid (CH1.out w4 w3.heap.size (G3.out.trans gB) cB (by omega))
  obtain ⟨m0, m1, m2, m3⟩ := NT.cells4_at.1 (zb5 RN3.out gB (by omega))
  rw [Nat.zero_add] at m1 m2 m3
  have G4 := Lib.hid (G3.out.trans gB)
  have GB := Lib.hid gB
  have ZB := Lib.hid zB
  clear CH1 RN3 gB cB zB z1 z2 z3
  go_wp2_with fail
  refine CH4.out.mono ?_
  rintro e w5 ⟨x, rfl, g5, hx, hxe⟩
  obtain ⟨z1, z2, z3⟩ := Z3.out
  have zb := ZB.out
  have z5 := g5.size
  have g35 := GB.out.trans g5
  have t45 := zcE T53.out g35 (by omega)
  have t65 := zcE T63.out g35 (by omega)
  have r65 := zb5 R3.out g35 (by omega)
  have HQ := Lib.hid (fun (w6 : World) (h : w5.setCells (w.heap.size + 1) 0 x.cells4 = w6) => (by
   subst h
   have k6 := zct (w.heap.size + 1) x.cells4 0 w5
   exact ⟨k6, zb7 (cs := x.cells4) t45, rangeAt_other r65 k6 (by omega) (by omega), World.there_setCells t45 (w.heap.size + 1) 0 x.cells4, World.there_setCells t65 (w.heap.size + 1) 0 x.cells4, Keeps.refl _ _⟩ : Keeps (· = w.heap.size + 1) w5 w6 ∧ TwoBox (w.heap.size + 1) (w.heap.size + 2) x y w6 w6))
  have HB5 := Lib.hid (⟨z1, z2, z3, zb, z5⟩ : _ ∧ _ ∧ _ ∧ _ ∧ _)
  have HX := Lib.hid hx
  have HY5 : Hid (y.Own w5 w1.heap.size w2.heap.size) := HY.out.grew g35 (by omega)
  have G5 := Lib.hid (G4.out.trans g5)
  clear m0 m1 m2 m3 z1 z2 z3 zb z5 g35 r65 t65 hx g5
  unfold NT.val
  go_upto_region 8 with (refine wpList_store_mid rfl 26 (.tmp 4) (.tmp 41) rfl (w.heap.size + 1) 0 x.cells4.toArray rfl rfl t45 zbf (NT.cells4_all _) ?_; generalize hF : w5.setCells _ _ _ = w6; obtain ⟨k6, tb6⟩ := HQ.out w6 hF; clear hF HQ)
  have hne : w.heap.size + 1 ≠ w.heap.size + 2 := by omega
  have S6 : TwoBox (w.heap.size + 1) (w.heap.size + 2) x y w6 w6.drew := ⟨tb6.1, tb6.2.1, tb6.2.2.1, tb6.2.2.2.1, (Grew.refl w6).drew.keeps _⟩
  refine zcY (TwoBox (w.heap.size + 1) (w.heap.size + 2) x y w6) (fun j => j.blt 5) (by kernel_rfl) ?_
  refine zcQ (i := 0) (v := .agg #[.bool x.lf, .slice x.pa x.ps.length x.pc, .slice x.ta x.ts.length x.tc, .slice x.ka x.ks.length x.kc]) rfl (by kernel_rfl) (by kernel_rfl) (by kernel_rfl) (by kernel_rfl) (fun _ _ _ h => h) (Or.inl ⟨rfl, fun w' hS => by obtain ⟨⟨e1, e2, e3, e4⟩, ⟨e5, e6, e7, e8⟩⟩ := TwoBox.cells hS; go_simp⟩) S6 ?_
  refine zcQ (i := 1) (v := .agg #[.bool y.lf, .slice y.pa y.ps.length y.pc, .slice y.ta y.ts.length y.tc, .slice y.ka y.ks.length y.kc]) rfl (by kernel_rfl) (by kernel_rfl) (by kernel_rfl) (by kernel_rfl) (fun _ _ _ h => h) (Or.inl ⟨rfl, fun w' hS => by obtain ⟨⟨e1, e2, e3, e4⟩, ⟨e5, e6, e7, e8⟩⟩ := TwoBox.cells hS; go_simp⟩) S6 ?_
  refine zcQ (i := 2) (v := .int .i64 ch.2) rfl (by kernel_rfl) (by kernel_rfl) (by kernel_rfl) (by kernel_rfl) (fun _ _ _ h => h) (Or.inl ⟨rfl, fun w' hS => by go_simp⟩) S6 ?_
  refine zcO (i := 3) (by kernel_rfl) rfl rfl ?_
  intro K' hK'
  refine wp_store_mid 26 (.tmp 4) (.tmp 43) rfl (w.heap.size + 1) 0 x.cells4.toArray rfl rfl S6.2.2.1 zbf (NT.cells4_all _) ?_
  have S7 := S6.put1 hne
  generalize hA : w6.drew.setCells (w.heap.size + 1) 0 x.cells4.toArray.toList = wa
  have S7 : TwoBox (w.heap.size + 1) (w.heap.size + 2) x y w6 wa := hA ▸ S7
  clear hA
  refine hK' _ _ ⟨fun _ => S7, ?_⟩
  clear hK' K'
  refine zcO (i := 4) (by kernel_rfl) rfl rfl ?_
  intro K' hK'
  refine wp_store_mid 26 (.tmp 5) (.tmp 44) rfl (w.heap.size + 2) 0 y.cells4.toArray rfl rfl S7.2.2.2.1 zbf (NT.cells4_all _) ?_
  have S8 := S7.put2 hne
  generalize hA : wa.setCells (w.heap.size + 2) 0 y.cells4.toArray.toList = wb
  have S8 : TwoBox (w.heap.size + 1) (w.heap.size + 2) x y w6 wb := hA ▸ S8
  clear hA
  refine hK' _ _ ⟨fun _ => S8, ?_⟩
  clear hK' K'
  refine zcO (i := 5) (by kernel_rfl) rfl rfl ?_
  intro K' hK'
  go_wp2_with fail
  refine ⟨fun h => (by cases h), ?_⟩
  refine zcN (by kernel_rfl) ?_ _
  go_wp2_with fail
  obtain ⟨z1, z2, z3, zb, z5⟩ := HB5.out
  have k8 := S8.2.2.2.2
  have z6 := k6.size
  have z8 := k8.size
  have h68 : ∀ lo hi, w.heap.size + 3 ≤ lo → hi ≤ w5.heap.size → Agree lo hi w5 wb := fun lo hi h1 h2 => Agree.trans (k6.agree h2 (fun j j1 j2 hj => by have : j = w.heap.size + 1 := hj; omega)) (k8.agree (by omega) (fun j j1 j2 hj => by rcases hj with hj | hj <;> omega))
  refine bodyPost_ret (v := .tuple #[x.val, y.val, .int .i64 ch.2]) (zcb Tryz.results128 _ _ (w.heap.size + 1) (w.heap.size + 2) x.cells4 y.cells4 _ _ rfl rfl rfl S8.1 S8.2.1 Tryz.underlying26 rfl zbf zbf) rfl ?_
  rw [HR.out]
  refine ⟨x, y, rfl, (G5.out.keep k6 (fun j hj => by rw [hj]; omega)).keep k8 (fun j hj => by rcases hj with hj | hj <;> (rw [hj]; omega)), (HX.out.agree (h68 _ _ (by omega) (Nat.le_refl _))).mono (by omega) (by omega), (HY5.out.agree (h68 _ _ (by omega) (by omega))).mono (by omega) (by omega), hxe.out, rfl⟩
 ·have HR : Hid (res = (T.nilT, T.nilT, 5)) := by show _ = _; rw [hcut.out, hat]
  obtain ⟨r1, r2, t62, k12⟩ := put_two (by omega) t53 t63 NT.nil NT.nil
  have HH := Lib.hid (fun (wa wb : World) (ha : w3.setCells (w.heap.size + 1) 0 NT.nil.cells4 = wa) (hb : wa.setCells (w.heap.size + 2) 0 NT.nil.cells4 = wb) => (by
   subst ha hb
   exact ⟨r1, r2, k12⟩ : wb.rangeAt (w.heap.size + 1) 0 NT.nil.cells4 ∧ wb.rangeAt (w.heap.size + 2) 0 NT.nil.cells4 ∧ Keeps (fun k => k = w.heap.size + 1 ∨ k = w.heap.size + 2) w3 wb))
  have HT := Lib.hid t62
  clear hat hcut hE CH hpb hpc z1 z2 z3 r3 t63 rN3 r1 r2 t62 k12 k3 HY
  go_wp2_with (first | (refine wpList_store_mid rfl 26 (.tmp 4) (.tmp 22) rfl (w.heap.size + 1) 0 NT.nil.cells4.toArray rfl rfl t53 zbf (NT.cells4_all _) ?_; generalize hA : w3.setCells _ _ _ = wa; have ta : wa.there (w.heap.size + 2) 0 4 := hA ▸ HT.out; clear HT; have HA := Lib.hid hA; clear hA) | (refine wpList_store_mid rfl 26 (.tmp 5) (.tmp 23) rfl (w.heap.size + 2) 0 NT.nil.cells4.toArray rfl rfl ta zbf (NT.cells4_all _) ?_; generalize hB : wa.setCells _ _ _ = wb; obtain ⟨ra, rb, kb⟩ := HH.out wa wb HA.out hB; clear hB HH HA))
  refine bodyPost_ret (v := .tuple #[NT.nil.val, NT.nil.val, .int .i64 5]) (zcb Tryz.results128 _ _ (w.heap.size + 1) (w.heap.size + 2) NT.nil.cells4 NT.nil.cells4 _ _ rfl rfl rfl ra rb Tryz.underlying26 rfl zbf zbf) rfl ?_
  rw [HR.out]
  exact ⟨NT.nil, NT.nil, rfl, G3.out.keep kb (fun j hj => by rcases hj with hj | hj <;> (rw [hj]; omega)), NT.nil_in, nil_own, zbD, zbD⟩
end Go.Proofs.YtbhbekocmpmjfaaGreatDoor
/- point.Check, CheckSel: the contracts. -/
namespace Go.Proofs.YtbhbekocmpmjfaaGreatDoor
open Go Go.RowKit
def zaO (t : T) (p : PtE) : Int := match t.at p.p with
 | none => 5
 | some k => if k.lf = false then 7 else if p.o < 0 ∨ (k.ts.length : Int) < p.o then 8 else 0
def zaQ (t : T) (s : SelE) : Int := if s.is = true then (if zaO t s.a ≠ 0 then zaO t s.a else zaO t s.f) else if (zcq s.a PtE.nil && zcq s.f PtE.nil) = true then 0 else 1
theorem checkPt_of {t k : T} {p : PtE} (h : t.at p.p = some k) : zaO t p = if k.lf = false then 7 else if p.o < 0 ∨ (k.ts.length : Int) < p.o then 8 else 0 := by unfold zaO; rw [h]
theorem checkPt_no {t : T} {p : PtE} (h : t.at p.p = none) : zaO t p = 5 := by unfold zaO; rw [h]
theorem sameP_iff {a b : PtE} : zcq a b = true ↔ a = b := by
 cases a; cases b; simp [zcq]
set_option maxRecDepth 100000 in
set_option maxHeartbeats 1000000 in
theorem ptCheck_any (n : NT) (p : PtL) (w : World) (hn : n.Ok w) (hb : n.er.bulk ≤ 1048576) (hp : p.In w 0 w.heap.size) (hl : p.p.l.length ≤ 1048576) :
  Calls Tryz.prog 117 #[n.val, .agg #[.slice p.p.a p.p.l.length p.p.c, .int .i64 p.o]] w fun e w' => e = .returned (.int .i64 (zaO n.er p.er)) ∧ Grew w w' := by
 have TG := Lib.hid (fun w1 (hg : Grew w w1) => treeGet_any n p.p.a p.p.c p.p.l w1 (NT.Ok.grew hn hg) hb (hp.later hg) hl)
 have HPE : Hid (p.er = ⟨p.p.l, p.o⟩) := rfl
 generalize p.er = pe at *
 generalize p.p.l = l at *
 unfold NT.val at TG ⊢
 have gA := Grew.alloc1 w (.cells #[.bool n.lf, .slice n.pa n.ps.length n.pc, .slice n.ta n.ts.length n.tc, .slice n.ka n.ks.length n.kc] 26)
 have gB := Grew.alloc1 (w.alloc (.cells #[.bool n.lf, .slice n.pa n.ps.length n.pc, .slice n.ta n.ts.length n.tc, .slice n.ka n.ks.length n.kc] 26)) (.cells #[.slice p.p.a l.length p.p.c, .int .i64 p.o] 29)
 have HB := Lib.hid (fun (w' : World) (g : Grew ((w.alloc (.cells #[.bool n.lf, .slice n.pa n.ps.length n.pc, .slice n.ta n.ts.length n.tc, .slice n.ka n.ks.length n.kc] 26)).alloc (.cells #[.slice p.p.a l.length p.p.c, .int .i64 p.o] 29)) w') => (zao g (j := 1) (v := .int .i64 p.o) rfl))
 simp only [World.size_alloc] at HB
 go_enter Tryz.func117, Tryz.ntmps117
 go_wp2_with fail
 refine (TG.out _ (gA.trans gB)).mono ?_
 have g1 := gA.trans gB
 clear gA gB
 generalize (w.alloc (.cells #[.bool n.lf, .slice n.pa n.ps.length n.pc, .slice n.ta n.ts.length n.tc, .slice n.ka n.ks.length n.kc] 26)).alloc (.cells #[.slice p.p.a l.length p.p.c, .int .i64 p.o] 29) = w1 at *
 rintro e w2 ⟨x, k, rfl, g2, hx, hE⟩
 have G3 := Lib.hid ((g1.trans g2).trans (Grew.alloc1 w2 (.cells #[.bool x.lf, .slice x.pa x.ps.length x.pc, .slice x.ta x.ts.length x.tc, .slice x.ka x.ks.length x.kc] 26)))
 have h1 := HB.out _ (g2.trans (Grew.alloc1 w2 (.cells #[.bool x.lf, .slice x.pa x.ps.length x.pc, .slice x.ta x.ts.length x.tc, .slice x.ka x.ks.length x.kc] 26)))
 have htl : (x.ts.length : Int) ≤ 9223372036854775807 := by
  have := (NT.In_iff.1 hx.1).2.1.1.1.2
  unfold maxLen at this; omega
 clear hx
 by_cases hk0 : k = 0
 ·subst hk0
  have hat : n.er.at l = some x.er := by
   rcases hE.out with ⟨_, h⟩ | ⟨h, _⟩
   ·exact h
   ·exact absurd h (by decide)
  have HC : Hid (zaO n.er pe = if x.lf = false then 7 else if p.o < 0 ∨ (x.ts.length : Int) < p.o then 8 else 0) := by
   show _ = _
   rw [HPE.out, checkPt_of hat, NT.er_lf, NT.er_ts]
  clear hE hat
  unfold NT.val
  by_cases hlf : x.lf = false
  ·have HN : Hid (zaO n.er pe = 7) := by show _ = _; rw [HC.out, if_pos hlf]
   rw [hlf] at h1 G3 ⊢
   clear hlf
   go_wp2_with fail
   go_ret
   exact ⟨zci (by rw [HN.out]), G3.out⟩
  ·have hlf' : x.lf = true := by simpa using hlf
   rw [hlf'] at h1 G3 ⊢
   by_cases ho : p.o < 0
   ·have HN : Hid (zaO n.er pe = 8) := by show _ = _; rw [HC.out, if_neg hlf, if_pos (Or.inl ho)]
    have ht : decide (p.o < 0) = true := by simpa using ho
    clear hlf hlf' ho
    go_wp2_with fail
    go_ret
    exact ⟨zci (by rw [HN.out]), G3.out⟩
   ·have ht : decide (p.o < 0) = false := by simpa using ho
    by_cases ho2 : (x.ts.length : Int) < p.o
    ·have HN : Hid (zaO n.er pe = 8) := by show _ = _; rw [HC.out, if_neg hlf, if_pos (Or.inr ho2)]
     have ht2 : decide ((x.ts.length : Int) < p.o) = true := by simpa using ho2
     clear hlf hlf' ho
     go_wp2_with fail
     go_ret
     exact ⟨zci (by rw [HN.out]), G3.out⟩
    ·have HN : Hid (zaO n.er pe = 0) := by show _ = _; rw [HC.out, if_neg hlf, if_neg (fun h => h.elim ho ho2)]
     have ht2 : decide ((x.ts.length : Int) < p.o) = false := by simpa using ho2
     clear hlf hlf' ho ho2
     go_wp2_with fail
     go_ret
     exact ⟨zci (by rw [HN.out]), G3.out⟩
 ·obtain ⟨rfl, hat⟩ : k = 5 ∧ n.er.at l = none := by
   rcases hE.out with ⟨h, _⟩ | ⟨h, h2, _⟩
   ·exact absurd h hk0
   ·exact ⟨h, h2⟩
  have HN : Hid (zaO n.er pe = 5) := by show _ = _; rw [HPE.out]; exact checkPt_no hat
  clear hE hk0 hat
  unfold NT.val
  go_wp2_with fail
  go_ret
  exact ⟨zci (by rw [HN.out]), G3.out⟩
theorem SelL.In.later {w w' : World} {s : SelL} (h : s.In w 0 w.heap.size) (hg : Grew w w') : s.In w' 0 w'.heap.size := ⟨h.1.later hg, h.2.later hg⟩
theorem ptNil_in {w : World} {lo hi : Nat} : PtL.nil.In w lo hi := zbl
set_option maxRecDepth 100000 in
set_option maxHeartbeats 1000000 in
theorem checkSel_any (n : NT) (s : SelL) (w : World) (hn : n.Ok w) (hb : n.er.bulk ≤ 1048576) (hs : s.In w 0 w.heap.size) (hl : s.a.p.l.length ≤ 1048576) (hl2 : s.f.p.l.length ≤ 1048576) :
  Calls Tryz.prog 66 #[n.val, .agg #[.bool s.is, .slice s.a.p.a s.a.p.l.length s.a.p.c, .int .i64 s.a.o, .slice s.f.p.a s.f.p.l.length s.f.p.c, .int .i64 s.f.o]] w fun e w' => e = .returned (.int .i64 (zaQ n.er s.er)) ∧ Grew w w' := by
 have SA := Lib.hid (fun w1 (hg : Grew w w1) => zbW s.a s.f w1 (hs.1.later hg) hl (hs.2.later hg) hl2)
 have SN := Lib.hid (fun w1 (hg : Grew w w1) => zbW s.a PtL.nil w1 (hs.1.later hg) hl ptNil_in (by simp [PtL.nil, PN.nil]))
 have CA := Lib.hid (fun w1 (hg : Grew w w1) => ptCheck_any n s.a w1 (NT.Ok.grew hn hg) hb (hs.1.later hg) hl)
 have CF := Lib.hid (fun w1 (hg : Grew w w1) => ptCheck_any n s.f w1 (NT.Ok.grew hn hg) hb (hs.2.later hg) hl2)
 have HE : Hid (zaQ n.er s.er = if s.is = true then (if zaO n.er s.a.er ≠ 0 then zaO n.er s.a.er else zaO n.er s.f.er) else if (zcq s.a.er PtE.nil && zcq s.f.er PtE.nil) = true then 0 else 1) := rfl
 have HS1 : Hid (zcq s.a.er s.f.er = true → (zcq s.a.er PtE.nil = zcq s.f.er PtE.nil)) := fun h => by rw [sameP_iff.1 h]
 have HS2 : Hid (zcq s.a.er PtE.nil = true → zcq s.f.er PtE.nil = true → zcq s.a.er s.f.er = true) := fun h1 h2 => by rw [sameP_iff.1 h1, sameP_iff.1 h2]; exact sameP_iff.2 rfl
 change Hid (∀ w1, Grew w w1 → Calls Tryz.prog 110 #[.agg #[.slice s.a.p.a s.a.p.l.length s.a.p.c, .int .i64 s.a.o], .agg #[.slice none 0 0, .int .i64 0]] w1 fun e w' => e = .returned (.bool (zcq s.a.er PtE.nil)) ∧ Grew w1 w') at SN
 generalize zaQ n.er s.er = r at *
 generalize zaO n.er s.a.er = ca at *
 generalize zaO n.er s.f.er = cf at *
 generalize zcq s.a.er s.f.er = b0 at *
 generalize zcq s.a.er PtE.nil = b1 at *
 generalize zcq s.f.er PtE.nil = b2 at *
 unfold NT.val at CA CF ⊢
 clear hs hl hl2 hn hb
 have gA := Grew.alloc1 w (.cells #[.bool n.lf, .slice n.pa n.ps.length n.pc, .slice n.ta n.ts.length n.tc, .slice n.ka n.ks.length n.kc] 26)
 have gB := Grew.alloc1 (w.alloc (.cells #[.bool n.lf, .slice n.pa n.ps.length n.pc, .slice n.ta n.ts.length n.tc, .slice n.ka n.ks.length n.kc] 26)) (.cells #[.bool s.is, .slice s.a.p.a s.a.p.l.length s.a.p.c, .int .i64 s.a.o, .slice s.f.p.a s.f.p.l.length s.f.p.c, .int .i64 s.f.o] 33)
 have HB := Lib.hid (fun (w' : World) (g : Grew ((w.alloc (.cells #[.bool n.lf, .slice n.pa n.ps.length n.pc, .slice n.ta n.ts.length n.tc, .slice n.ka n.ks.length n.kc] 26)).alloc (.cells #[.bool s.is, .slice s.a.p.a s.a.p.l.length s.a.p.c, .int .i64 s.a.o, .slice s.f.p.a s.f.p.l.length s.f.p.c, .int .i64 s.f.o] 33)) w') => (⟨zao g (j := 0) (v := .bool s.is) rfl, zao g (j := 1) (v := .slice s.a.p.a s.a.p.l.length s.a.p.c) rfl, zao g (j := 2) (v := .int .i64 s.a.o) rfl, zao g (j := 3) (v := .slice s.f.p.a s.f.p.l.length s.f.p.c) rfl, zao g (j := 4) (v := .int .i64 s.f.o) rfl⟩ : _ ∧ _ ∧ _ ∧ _ ∧ _))
 have HBN := Lib.hid (fun (w' : World) (g : Grew ((w.alloc (.cells #[.bool n.lf, .slice n.pa n.ps.length n.pc, .slice n.ta n.ts.length n.tc, .slice n.ka n.ks.length n.kc] 26)).alloc (.cells #[.bool s.is, .slice s.a.p.a s.a.p.l.length s.a.p.c, .int .i64 s.a.o, .slice s.f.p.a s.f.p.l.length s.f.p.c, .int .i64 s.f.o] 33)) w') => box4 (gB.trans g))
 simp only [World.size_alloc] at HB
 go_enter Tryz.func66, Tryz.ntmps66
 cases his : s.is with
 | true =>
  have HN : Hid (r = if ca ≠ 0 then ca else cf) := by show _ = _; rw [HE.out, if_pos his]
  rw [his] at HB HBN gB
  clear his HE HS1 HS2 SA SN
  have g1 := Lib.hid (gA.trans gB)
  go_wp2_with fail
  refine (CA.out _ g1.out).mono ?_
  rintro e w2 ⟨rfl, g2⟩
  have G2 := Lib.hid (g1.out.trans g2)
  obtain ⟨c0, c1, c2, c3, c4⟩ := HB.out w2 g2
  obtain ⟨m0, m1, m2, m3, _⟩ := HBN.out w2 g2
  clear HB HBN g2
  by_cases hc : ca = 0
  ·have ht : (ca != 0) = false := by simp [hc]
   have HN2 : Hid (r = cf) := by show _ = _; rw [HN.out, if_neg (by simp [hc])]
   clear hc
   go_wp2_with fail
   refine (CF.out w2 G2.out).mono ?_
   rintro e w3 ⟨rfl, g3⟩
   go_wp2_with fail
   go_ret
   exact ⟨zci (by rw [HN2.out]), G2.out.trans g3⟩
  ·have ht : (ca != 0) = true := by simpa using hc
   have HN2 : Hid (r = ca) := by show _ = _; rw [HN.out, if_pos hc]
   clear hc
   go_wp2_with fail
   go_ret
   exact ⟨zci (by rw [HN2.out]), G2.out⟩
 | false =>
  have HN : Hid (r = if (b1 && b2) = true then 0 else 1) := by show _ = _; rw [HE.out, if_neg (by rw [his]; decide)]
  rw [his] at HB HBN gB
  clear his HE CA CF
  have g1 := Lib.hid (gA.trans gB)
  go_wp2_with fail
  refine (SA.out _ g1.out).mono ?_
  rintro e w2 ⟨rfl, g2⟩
  have G2 := Lib.hid (g1.out.trans g2)
  obtain ⟨c0, c1, c2, c3, c4⟩ := HB.out w2 g2
  clear HB HBN g2
  cases hb0 : b0 with
  | false =>
   have HN2 : Hid (r = 1) := by
    show _ = _
    rw [HN.out, if_neg]
    intro h
    rw [Bool.and_eq_true] at h
    have := HS2.out h.1 h.2
    rw [hb0] at this; cases this
   subst hb0
   go_wp2_with fail
   go_ret
   exact ⟨zci (by rw [HN2.out]), G2.out⟩
  | true =>
   have HE2 : Hid (b1 = b2) := HS1.out hb0
   subst hb0
   go_wp2_with fail
   refine (SN.out w2 G2.out).mono ?_
   rintro e w3 ⟨rfl, g3⟩
   cases hb1 : b1 with
   | false =>
    have HN2 : Hid (r = 1) := by show _ = _; rw [HN.out, hb1]; rfl
    subst hb1
    go_wp2_with fail
    go_ret
    exact ⟨zci (by rw [HN2.out]), G2.out.trans g3⟩
   | true =>
    have HN2 : Hid (r = 0) := by show _ = _; rw [HN.out, ← HE2.out, hb1]; rfl
    subst hb1
    go_wp2_with fail
    go_ret
    exact ⟨zci (by rw [HN2.out]), G2.out.trans g3⟩
end Go.Proofs.YtbhbekocmpmjfaaGreatDoor
/- prop.key, prop.val, redlineref01.Key, Val: the contracts. -/
namespace Go.Proofs.YtbhbekocmpmjfaaGreatDoor
open Go Go.RowKit
theorem str_nil {s : ByteArray} (h : s.size = 0) : s.toList.isEmpty = true := by
 rw [Lib.toList_data]
 cases h' : s.data.toList with
 | nil => rfl
 | cons _ _ => have := Lib.size_eq s; rw [h', List.length_cons] at this; omega
theorem str_some {s : ByteArray} (h : s.size ≠ 0) : s.toList.isEmpty = false := by
 rw [Lib.toList_data]
 cases h' : s.data.toList with
 | nil => have := Lib.size_eq s; rw [h', List.length_nil] at this; omega
 | cons _ _ => rfl
theorem isKey_nil {s : ByteArray} (h : s.size = 0) : isKey s = false := by simp [isKey, h]
theorem isKey_long {s : ByteArray} (h : 16 < s.size) : isKey s = false := by
 have : ¬ s.size ≤ 16 := by omega
 simp [isKey, this]
theorem isKey_all {s : ByteArray} (h : s.size ≠ 0) (h1 : s.size ≤ 16) : isKey s = s.data.toList.all lowB := by
 have : 1 ≤ s.size := by omega
 simp [isKey, this, h1]
theorem isVal_long {s : ByteArray} (h : 32 < s.size) : isVal s = false := by
 have : ¬ s.size ≤ 32 := by omega
 simp [isVal, this]
theorem isVal_all {s : ByteArray} (h1 : s.size ≤ 32) : isVal s = s.data.toList.all valB := by simp [isVal, h1]
set_option maxHeartbeats 1000000 in
theorem key_any (s : ByteArray) (w : World) (hs : s.size ≤ 1048576) :
  Calls Tryz.prog 161 #[.string s] w fun e w' => e = .returned (.bool (isKey s)) ∧ Grew w w' := by
 by_cases h0 : s.size = 0
 ·have he := str_nil h0
  have HK := Lib.hid (isKey_nil h0)
  clear h0
  go_enter Tryz.func161, Tryz.ntmps161
  go_wp2_with fail
  go_ret
  exact ⟨zch HK.out.symm, Grew.refl _⟩
 ·have he := str_some h0
  by_cases h1 : s.size ≤ 16
  ·have hcon := Any.strings_Trim_laid Tryz.lays160 (by kernel_rfl) s lows w (by omega) (by decide) (ascii_of_all (by decide))
   change Calls Tryz.prog 204 _ _ _ at hcon
   have HT := Lib.hid ((trim_key s).trans (isKey_all h0 h1).symm)
   generalize (⟨(Lib.trimS s.data.toList lows.data.toList).toArray⟩ : ByteArray) = r at hcon HT
   have C := Lib.hid hcon
   clear hcon h0
   unfold lows at C
   go_enter Tryz.func161, Tryz.ntmps161
   go_wp2_with fail
   refine C.out.mono ?_
   rintro e w' ⟨rfl, hB⟩
   go_wp2_with fail
   go_ret
   exact ⟨zch HT.out, hB⟩
  ·have HK := Lib.hid (isKey_long (s := s) (by omega))
   clear h0
   go_enter Tryz.func161, Tryz.ntmps161
   go_wp2_with fail
   go_ret
   exact ⟨zch HK.out.symm, Grew.refl _⟩
set_option maxHeartbeats 1000000 in
theorem val_any (s : ByteArray) (w : World) (hs : s.size ≤ 1048576) :
  Calls Tryz.prog 162 #[.string s] w fun e w' => e = .returned (.bool (isVal s)) ∧ Grew w w' := by
 by_cases h1 : s.size ≤ 32
 ·have hcon := Any.strings_Trim_laid Tryz.lays160 (by kernel_rfl) s valCs w (by omega) (by decide) (ascii_of_all (by decide))
  change Calls Tryz.prog 204 _ _ _ at hcon
  have HT := Lib.hid ((trim_val s).trans (isVal_all h1).symm)
  generalize (⟨(Lib.trimS s.data.toList valCs.data.toList).toArray⟩ : ByteArray) = r at hcon HT
  have C := Lib.hid hcon
  clear hcon
  unfold valCs at C
  go_enter Tryz.func162, Tryz.ntmps162
  go_wp2_with fail
  refine C.out.mono ?_
  rintro e w' ⟨rfl, hB⟩
  go_wp2_with fail
  go_ret
  exact ⟨zch HT.out, hB⟩
 ·have HK := Lib.hid (isVal_long (s := s) (by omega))
  go_enter Tryz.func162, Tryz.ntmps162
  go_wp2_with fail
  go_ret
  exact ⟨zch HK.out.symm, Grew.refl _⟩
end Go.Proofs.YtbhbekocmpmjfaaGreatDoor
/- prop.Check: the contract. -/
namespace Go.Proofs.YtbhbekocmpmjfaaGreatDoor
open Go Go.RowKit
theorem checkPs_long {ps : List zab} (h : 16 < ps.length) : zaN ps = 2 := by simp [zaN, h]
theorem checkPs_short {ps : List zab} (h : ¬ 16 < ps.length) : zaN ps = chkPs .empty (ps.drop 0) := by simp [zaN, h]
theorem chkPs_next (ls : ByteArray) (ps : List zab) (k : Nat) (h : k < ps.length) : chkPs ls (ps.drop k) = if isKey (ps.getD k default).1 && isVal (ps.getD k default).2 then (if leS (ps.getD k default).1 ls then 1 else chkPs (ps.getD k default).1 (ps.drop (k + 1))) else 3 := by
 rw [zaW ps k h]; rfl
theorem props_str {ps : List zab} (hb : zbY ps ≤ 1048576) {k : Nat} (h : k < ps.length) : (ps.getD k default).1.size ≤ 1048576 ∧ (ps.getD k default).2.size ≤ 1048576 := by
 have := propsBulk_mem (za7 ps k h)
 omega
theorem pbox {w w1 : World} {c0 c1 : Value} {t : TypeId} (g : Grew (w.alloc (.cells #[c0, c1] t)) w1) :
  w1.cell? ⟨w.heap.size, 0, none⟩ = some c0 ∧ w1.cell? ⟨w.heap.size, 1, none⟩ = some c1 ∧ w.heap.size < w1.heap.size := by
 have hz : w.heap.size < (w.alloc (.cells #[c0, c1] t)).heap.size := by simp
 refine ⟨?_, ?_, Nat.lt_of_lt_of_le hz g.size⟩
 all_goals
  rw [g.cell (by exact hz), World.cell?_alloc_new]
  rfl
set_option maxHeartbeats 1000000 in
theorem zaL (ps : List zab) (pa : Option Addr) (pc : Nat) (w : World) (lo hi : Nat) (hp : PropsIn w lo hi pa pc ps) (hh : hi ≤ w.heap.size) (hb : zbY ps ≤ 1048576) :
  Calls Tryz.prog 106 #[.slice pa ps.length pc] w fun e w' => e = .returned (.int .i64 (zaN ps)) ∧ Grew w w' := by
 have hlen := zbZ ps
 by_cases hlong : 16 < ps.length
 ·have HC := Lib.hid (checkPs_long hlong)
  go_enter Tryz.func106, Tryz.ntmps106
  go_wp2_with fail
  go_ret
  exact ⟨zci HC.out.symm, Grew.refl _⟩
 ·have HC := Lib.hid (checkPs_short hlong)
  have hl : ps.length ≤ 16 := by omega
  clear hlong hlen
  go_enter Tryz.func106, Tryz.ntmps106
  go_wp2_with fail
  go_loopw [3, 11] (fun last i wr => ∃ (k : Nat) (ls : ByteArray), k ≤ ps.length ∧ i = .int .i64 k ∧ last = .string ls ∧ Grew w wr ∧ Hid (zaN ps = chkPs ls (ps.drop k))) (fun _ i _ => ps.length - (intOf i).toNat)
  case atStart => exact ⟨0, .empty, by omega, rfl, rfl, Grew.refl _, HC⟩
  case round =>
   obtain ⟨k, ls, hk, rfl, rfl, hg, hc⟩ := hrel
   by_cases hlt : k < ps.length
   ·obtain ⟨b, o, rfl, _, hbh, c0, c1⟩ := (hp.grew hg hh).at hlt
    have hs := props_str hb hlt
    have HN := Lib.hid (hc.out.trans (chkPs_next ls ps k hlt))
    clear hc HC
    generalize ps.getD k default = p at *
    have KA := Lib.hid (fun w => key_any p.1 w hs.1)
    have VA := Lib.hid (fun w => val_any p.2 w hs.2)
    go_wp2_with fail
    refine (KA.out _).mono ?_
    rintro e w1 ⟨rfl, g1⟩
    obtain ⟨d0, d1, z1⟩ := pbox g1
    cases hk1 : isKey p.1 with
    | false =>
     have HE : Hid (zaN ps = 3) := by show _ = _; rw [HN.out, hk1]; rfl
     go_wp2_with fail
     go_ret
     exact ⟨zci HE.out.symm, hg.trans ((Grew.alloc1 _ _).trans g1)⟩
    | true =>
     go_wp2_with fail
     refine (VA.out _).mono ?_
     rintro e w2 ⟨rfl, g2⟩
     obtain ⟨d2, d3, z2⟩ := pbox (g1.trans g2)
     clear d0 d1
     cases hk2 : isVal p.2 with
     | false =>
      have HE : Hid (zaN ps = 3) := by show _ = _; rw [HN.out, hk1, hk2]; rfl
      go_wp2_with fail
      go_ret
      exact ⟨zci HE.out.symm, hg.trans ((Grew.alloc1 _ _).trans (g1.trans g2))⟩
     | true =>
      cases hk3 : leS p.1 ls with
      | true =>
       have HE : Hid (zaN ps = 1) := by show _ = _; rw [HN.out, hk1, hk2, hk3]; rfl
       have hx := (show (Op.bytesLess p.1.toList ls.toList || p.1.toList == ls.toList) = leS p.1 ls from rfl).trans hk3
       go_wp2_with fail
       go_ret
       exact ⟨zci HE.out.symm, hg.trans ((Grew.alloc1 _ _).trans (g1.trans g2))⟩
      | false =>
       have HE : Hid (zaN ps = chkPs p.1 (ps.drop (k + 1))) := by show _ = _; rw [HN.out, hk1, hk2, hk3]; rfl
       have hx := (show (Op.bytesLess p.1.toList ls.toList || p.1.toList == ls.toList) = leS p.1 ls from rfl).trans hk3
       go_wp2_with fail
       go_roundw
       case rel => exact ⟨k + 1, p.1, by omega, by go_num, rfl, hg.trans ((Grew.alloc1 _ _).trans (g1.trans g2)), HE⟩
       case measure => simp [intOf]; omega
   ·have HE : Hid (zaN ps = 0) := by
     show _ = _
     rw [hc.out, List.drop_eq_nil_of_le (by omega)]; rfl
    have hge : k = ps.length := by omega
    subst hge
    go_wp2_with fail
    go_ret
    exact ⟨zci HE.out.symm, hg⟩
end Go.Proofs.YtbhbekocmpmjfaaGreatDoor
/- slices.IndexFunc and slices.ContainsFunc on nodes: the contracts, for whatever function value is handed in. -/
namespace Go.Proofs.YtbhbekocmpmjfaaGreatDoor
open Go Go.RowKit
def KidCalls (pf : FuncId) (caps : Array Value) (ks : List NT) (ka : Option Addr) (kc lo hi : Nat) (I : Nat → (Nat → Prop) → World → Prop) (J : Nat → World → Prop) : Prop :=
 ∀ j, j < ks.length → ∀ O w, I j O w → KidsIn w lo hi ka kc ks → hi ≤ w.heap.size → (∀ k, lo ≤ k → k < hi → ¬ O k) →
  Calls Tryz.prog pf (#[(ks.getD j default).val] ++ caps) w fun e w' => ∃ O', Moves O w O' w' ∧ ((e = .returned (.bool false) ∧ I (j + 1) O' w') ∨ (e = .returned (.bool true) ∧ J j w'))
set_option maxHeartbeats 400000 in
theorem indexNodes_any (ks : List NT) (ka : Option Addr) (kc : Nat) (pf : FuncId) (caps : Array Value) (lo hi : Nat) (I : Nat → (Nat → Prop) → World → Prop) (J : Nat → World → Prop)
  (eg : ∀ args w, (callFunc pf args).run Tryz.prog w = .ok (.enter pf args) w)
  (hcall : KidCalls pf caps ks ka kc lo hi I J) (O : Nat → Prop)
  (hS : ∀ k, lo ≤ k → k < hi → ¬ O k) (hlen : ks.length ≤ 1048576) (w : World) (hk : KidsIn w lo hi ka kc ks) (hhi : hi ≤ w.heap.size) (hI : I 0 O w) :
  Calls Tryz.prog 193 #[.slice ka ks.length kc, .func (.func pf) #[] caps] w fun e w' =>
   ∃ O', Moves O w O' w' ∧ ((e = .returned (.int .i64 (-1)) ∧ I ks.length O' w') ∨ ∃ j : Nat, j < ks.length ∧ e = .returned (.int .i64 j) ∧ J j w') := by
 have HC := Lib.hid hcall
 clear hcall
 go_enter Tryz.func193, Tryz.ntmps193
 go_wp2_with fail
 go_loopw [8] (fun i wr => ∃ (k : Nat) (Ok : Nat → Prop), k ≤ ks.length ∧ i = .int .i64 k ∧ Moves O w Ok wr ∧ I k Ok wr) (fun i _ => ks.length - (intOf i).toNat)
 case atStart => exact ⟨0, O, by omega, rfl, Moves.refl _ _, hI⟩
 case round =>
  obtain ⟨k, Ok, hk1, rfl, hg, hIk⟩ := hrel
  by_cases hlt : k < ks.length
  ·have hkr := hk.agree (hg.1.agree hhi hS)
   obtain ⟨b, o, rfl, _, hbh, hc0, hc1, hc2, hc3⟩ := hkr.at hlt
   have HC1 := Lib.hid (HC.out k hlt Ok wr hIk hkr (Nat.le_trans hhi hg.1.size) (fun k' h1 h2 => hg.notin (hS k' h1 h2) (by omega)))
   generalize ks.getD k default = x at *
   go_wp2_with fail
   refine HC1.out.mono ?_
   rintro e w' ⟨O', hkp, ⟨rfl, hI2⟩ | ⟨rfl, hJ⟩⟩
   ·go_wp2_with fail
    go_roundw
    case rel => exact ⟨k + 1, O', by omega, by go_num, hg.trans hkp, hI2⟩
    case measure => simp [intOf]; omega
   ·go_wp2_with fail
    go_ret
    exact ⟨O', hg.trans hkp, Or.inr ⟨k, hlt, rfl, hJ⟩⟩
  ·obtain rfl : k = ks.length := by omega
   go_wp2_with fail
   go_ret
   exact ⟨Ok, hg, Or.inl ⟨rfl, hIk⟩⟩
set_option maxHeartbeats 400000 in
theorem containsNodes_any (ks : List NT) (ka : Option Addr) (kc : Nat) (pf : FuncId) (caps : Array Value) (lo hi : Nat) (I : Nat → (Nat → Prop) → World → Prop) (J : Nat → World → Prop)
  (eg : ∀ args w, (callFunc pf args).run Tryz.prog w = .ok (.enter pf args) w)
  (hcall : KidCalls pf caps ks ka kc lo hi I J) (O : Nat → Prop)
  (hS : ∀ k, lo ≤ k → k < hi → ¬ O k) (hlen : ks.length ≤ 1048576) (w : World) (hk : KidsIn w lo hi ka kc ks) (hhi : hi ≤ w.heap.size) (hI : I 0 O w) :
  Calls Tryz.prog 135 #[.slice ka ks.length kc, .func (.func pf) #[] caps] w fun e w' =>
   ∃ O', Moves O w O' w' ∧ ((e = .returned (.bool false) ∧ I ks.length O' w') ∨ ∃ j : Nat, j < ks.length ∧ e = .returned (.bool true) ∧ J j w') := by
 have C := Lib.hid (indexNodes_any ks ka kc pf caps lo hi I J eg hcall O hS hlen w hk hhi hI)
 clear hcall eg
 go_enter Tryz.func135, Tryz.ntmps135
 go_wp2_with fail
 refine C.out.mono ?_
 rintro e w' ⟨O', hkp, ⟨rfl, hI2⟩ | ⟨j, hj, rfl, hJ⟩⟩
 ·go_wp2_with fail
  go_ret
  exact ⟨O', hkp, Or.inl ⟨rfl, hI2⟩⟩
 ·go_wp2_with fail
  go_ret
  exact ⟨O', hkp, Or.inr ⟨j, hj, zch (by simp), hJ⟩⟩
end Go.Proofs.YtbhbekocmpmjfaaGreatDoor
