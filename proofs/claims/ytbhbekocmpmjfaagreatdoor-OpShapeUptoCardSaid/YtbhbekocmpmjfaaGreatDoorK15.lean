/- op.own: the contract. -/
import Derived.Test.YtbhbekocmpmjfaaGreatDoorK14
namespace Go.Proofs.YtbhbekocmpmjfaaGreatDoor
open Go Go.RowKit
def SelL.cells (s : SelL) : List Value := [.bool s.is, .slice s.a.p.a s.a.p.l.length s.a.p.c, .int .i64 s.a.o, .slice s.f.p.a s.f.p.l.length s.f.p.c, .int .i64 s.f.o]
theorem SelL.cells_len (s : SelL) : s.cells.length = 5 := rfl
theorem SelL.cells_one (s : SelL) : ∀ u ∈ s.cells, u.oneCell' = true := by
 intro u hu
 simp only [SelL.cells, List.mem_cons, List.not_mem_nil, or_false] at hu
 rcases hu with rfl | rfl | rfl | rfl | rfl
 all_goals rfl
theorem zbi : (Tryz.prog.info? 33).map (·.size) = some 5 := by kernel_rfl
def RetSel (r : SelE) (w : World) (e : Ending) (w' : World) : Prop := ∃ x : SelL, e = .returned x.val ∧ Grew w w' ∧ x.In w' w.heap.size w'.heap.size ∧ Hid (x.er = r)
set_option maxRecDepth 100000 in
set_option maxHeartbeats 4000000 in
theorem opOwn_any (s : SelL) (w : World) (hs : s.In w 0 w.heap.size) (h1 : s.a.p.l.length ≤ 1048576) (h2 : s.f.p.l.length ≤ 1048576) : Calls Tryz.prog 68 #[s.val] w (RetSel s.er w) := by
 have C1 := Lib.hid (fun w1 (g : Grew w w1) => zaR s.a.p.a s.a.p.c s.a.p.l w1 (hs.1.later g) h1)
 have C2 := Lib.hid (fun w1 (g : Grew w w1) => zaR s.f.p.a s.f.p.c s.f.p.l w1 (hs.2.later g) h2)
 clear hs h1 h2
 unfold SelL.val
 go_enter Tryz.func68, Tryz.ntmps68
 go_upto_region 1 with fail
 generalize hW : (w.alloc _).alloc _ = w1
 obtain ⟨g1, rS, tS, _, tR, z1⟩ := zaq w s.cells SelL.nil.cells _ _ w1 hW
 clear hW
 have HR := Lib.hid rS
 have HT := Lib.hid tS
 have HTR := Lib.hid tR
 have G01 := Lib.hid g1
 have HZ := Lib.hid z1
 have KB := Lib.hid (fun (w' : World) (g : Grew w1 w') => (have h := zb5 rS g (by omega); ⟨zb4 h (j := 1) rfl, zb4 h (j := 3) rfl⟩ : w'.cell? ⟨w.heap.size, 1, none⟩ = some (.slice s.a.p.a s.a.p.l.length s.a.p.c) ∧ w'.cell? ⟨w.heap.size, 3, none⟩ = some (.slice s.f.p.a s.f.p.l.length s.f.p.c)))
 clear rS tS tR g1 z1
 have hS : Grew w1 w1.drew := (Grew.refl _).drew
 refine zcY (Grew w1) (fun j => j.blt 10) (by kernel_rfl) ?_
 refine zcQ (i := 0) (v := .pointer (some ⟨w.heap.size, 1, none⟩)) rfl (by kernel_rfl) (by kernel_rfl) (by kernel_rfl) (by kernel_rfl) (fun _ _ _ h => h) (Or.inl ⟨rfl, fun w' hS => by go_simp⟩) hS ?_
 refine zcQ (i := 1) (v := .pointer (some ⟨w.heap.size, 1, none⟩)) rfl (by kernel_rfl) (by kernel_rfl) (by kernel_rfl) (by kernel_rfl) (fun _ _ _ h => h) (Or.inl ⟨rfl, fun w' hS => by go_simp⟩) hS ?_
 refine zcQ (i := 2) (v := .pointer (some ⟨w.heap.size, 1, none⟩)) rfl (by kernel_rfl) (by kernel_rfl) (by kernel_rfl) (by kernel_rfl) (fun _ _ _ h => h) (Or.inl ⟨rfl, fun w' hS => by go_simp⟩) hS ?_
 refine zcQ (i := 5) (v := .pointer (some ⟨w.heap.size, 1, none⟩)) rfl (by kernel_rfl) (by kernel_rfl) (by kernel_rfl) (by kernel_rfl) (fun _ _ _ h => h) (Or.inl ⟨rfl, fun w' hS => by go_simp⟩) hS ?_
 refine zcQ (i := 6) (v := .pointer (some ⟨w.heap.size, 3, none⟩)) rfl (by kernel_rfl) (by kernel_rfl) (by kernel_rfl) (by kernel_rfl) (fun _ _ _ h => h) (Or.inl ⟨rfl, fun w' hS => by go_simp⟩) hS ?_
 refine zcQ (i := 7) (v := .pointer (some ⟨w.heap.size, 3, none⟩)) rfl (by kernel_rfl) (by kernel_rfl) (by kernel_rfl) (by kernel_rfl) (fun _ _ _ h => h) (Or.inl ⟨rfl, fun w' hS => by go_simp⟩) hS ?_
 refine zcQ (i := 3) (v := .slice s.a.p.a s.a.p.l.length s.a.p.c) rfl (by kernel_rfl) (by kernel_rfl) (by kernel_rfl) (by kernel_rfl) (fun _ _ _ h => h) (Or.inl ⟨rfl, fun w' hS => by obtain ⟨k1, k3⟩ := KB.out w' hS; go_simp⟩) hS ?_
 refine zcQ (i := 8) (v := .slice s.f.p.a s.f.p.l.length s.f.p.c) rfl (by kernel_rfl) (by kernel_rfl) (by kernel_rfl) (by kernel_rfl) (fun _ _ _ h => h) (Or.inl ⟨rfl, fun w' hS => by obtain ⟨k1, k3⟩ := KB.out w' hS; go_simp⟩) hS ?_
 refine zcO (i := 4) (by kernel_rfl) rfl rfl ?_
 intro K' hK'
 go_wp2_with fail
 refine (C1.out w1.drew (G01.out.trans hS)).mono ?_
 rintro e w2 ⟨q1, rfl, g2, hq1, he1⟩
 have hS2 := hS.trans g2
 refine hK' _ _ ⟨fun _ => hS2, ?_⟩
 clear hK' K'
 refine zcP (i := 10) (v := .pointer (some ⟨w.heap.size, 1, none⟩)) rfl (by kernel_rfl) (by kernel_rfl) (by kernel_rfl) (by kernel_rfl) (fun _ _ _ h => h) (Or.inl ⟨rfl, fun w' hS => by go_simp⟩) ?_
 refine zcP (i := 11) (v := .pointer (some ⟨w.heap.size, 1, none⟩)) rfl (by kernel_rfl) (by kernel_rfl) (by kernel_rfl) (by kernel_rfl) (fun _ _ _ h => h) (Or.inl ⟨rfl, fun w' hS => by go_simp⟩) ?_
 refine zcP (i := 12) (v := .pointer (some ⟨w.heap.size, 1, none⟩)) rfl (by kernel_rfl) (by kernel_rfl) (by kernel_rfl) (by kernel_rfl) (fun _ _ _ h => h) (Or.inl ⟨rfl, fun w' hS => by go_simp⟩) ?_
 refine zcO (i := 9) (by kernel_rfl) rfl rfl ?_
 intro K' hK'
 go_wp2_with fail
 refine (C2.out w2 (G01.out.trans hS2)).mono ?_
 rintro e w3 ⟨q2, rfl, g3, hq2, he2⟩
 have hS3 := hS2.trans g3
 refine hK' _ _ ⟨fun _ => hS3, ?_⟩
 clear hK' K'
 have k1 := (KB.out w3 hS3).1
 have k3 := (KB.out w3 hS3).2
 have f1 : w3.frozen? ⟨w.heap.size, 1, none⟩ = false := by have := (zcE HT.out hS3 (by have := HZ.out; omega) 1 (by rw [SelL.cells_len]; decide)).2; simpa using this
 have f3 : w3.frozen? ⟨w.heap.size, 3, none⟩ = false := by have := (zcE HT.out hS3 (by have := HZ.out; omega) 3 (by rw [SelL.cells_len]; decide)).2; simpa using this
 refine zcO (i := 13) (by kernel_rfl) rfl rfl ?_
 intro K' hK'
 go_wp2_with fail
 refine ⟨fun h => (by cases h), ?_⟩
 refine zcO (i := 14) (by kernel_rfl) rfl rfl ?_
 intro K' hK'
 go_wp2_with fail
 refine ⟨fun h => (by cases h), ?_⟩
 refine zcO (i := 15) (by kernel_rfl) rfl rfl ?_
 intro K' hK'
 go_wp2_with fail
 refine ⟨fun h => (by cases h), ?_⟩
 refine zcO (i := 16) (by kernel_rfl) rfl rfl ?_
 intro K' hK'
 go_wp2_with fail
 refine ⟨fun h => (by cases h), ?_⟩
 refine zcO (i := 17) (by kernel_rfl) rfl rfl ?_
 intro K' hK'
 go_wp2_with fail
 refine ⟨fun h => (by cases h), ?_⟩
 refine zcN (by kernel_rfl) ?_ _
 have G03 := Lib.hid (G01.out.trans hS3)
 have z12 := hS.size
 have z2 := g2.size
 have z3 := g3.size
 have hz := HZ.out
 have hw1 : (w1.drew).heap.size = w1.heap.size := rfl
 have rX : ((w3.setCell ⟨w.heap.size, 1, none⟩ (.slice q1.a q1.l.length q1.c)).setCell ⟨w.heap.size, 3, none⟩ (.slice q2.a q2.l.length q2.c)).rangeAt w.heap.size 0 (⟨s.is, ⟨q1, s.a.o⟩, ⟨q2, s.f.o⟩⟩ : SelL).cells := zb8 (zb8 (zb5 HR.out hS3 (by omega)) (j := 1) (by rw [SelL.cells_len]; decide) _) (j := 3) (by rw [List.length_set, SelL.cells_len]; decide) _
 have tX : ((w3.setCell ⟨w.heap.size, 1, none⟩ (.slice q1.a q1.l.length q1.c)).setCell ⟨w.heap.size, 3, none⟩ (.slice q2.a q2.l.length q2.c)).there (w.heap.size + 1) 0 5 := zcF (zcF (zcE HTR.out hS3 (by omega)) _ _) _ _
 have GX : Hid (Grew w ((w3.setCell ⟨w.heap.size, 1, none⟩ (.slice q1.a q1.l.length q1.c)).setCell ⟨w.heap.size, 3, none⟩ (.slice q2.a q2.l.length q2.c))) := (G03.out.setCell (Nat.le_refl _) _).setCell (Nat.le_refl _) _
 have HX : Hid ((⟨s.is, ⟨q1, s.a.o⟩, ⟨q2, s.f.o⟩⟩ : SelL).In ((w3.setCell ⟨w.heap.size, 1, none⟩ (.slice q1.a q1.l.length q1.c)).setCell ⟨w.heap.size, 3, none⟩ (.slice q2.a q2.l.length q2.c)) (w.heap.size + 2) w3.heap.size) := by
  have ha : Agree (w.heap.size + 2) w3.heap.size w3 ((w3.setCell ⟨w.heap.size, 1, none⟩ (.slice q1.a q1.l.length q1.c)).setCell ⟨w.heap.size, 3, none⟩ (.slice q2.a q2.l.length q2.c)) := own_agree.trans own_agree
  exact ⟨IntsIn.agree ((IntsIn.agree hq1 (g3.agree (Nat.le_refl _))).mono (by omega) z3) ha, IntsIn.agree (hq2.mono (by omega) (Nat.le_refl _)) ha⟩
 have HE : Hid ((⟨s.is, ⟨q1, s.a.o⟩, ⟨q2, s.f.o⟩⟩ : SelL).er = s.er) := by show _ = _; simp only [SelL.er, PtL.er, he1.out, he2.out]
 have HS3 : Hid (w.heap.size + 2 ≤ w3.heap.size ∧ w3.heap.size ≤ ((w3.setCell ⟨w.heap.size, 1, none⟩ (.slice q1.a q1.l.length q1.c)).setCell ⟨w.heap.size, 3, none⟩ (.slice q2.a q2.l.length q2.c)).heap.size) := ⟨by omega, by simp⟩
 clear k1 k3 f1 f3 hq1 hq2 he1 he2 g2 g3 hS hS2 hS3 z12 z2 z3 hz hw1 KB C1 C2 G03 HR HT
 generalize (w3.setCell ⟨w.heap.size, 1, none⟩ (.slice q1.a q1.l.length q1.c)).setCell ⟨w.heap.size, 3, none⟩ (.slice q2.a q2.l.length q2.c) = w4 at *
 generalize (⟨s.is, ⟨q1, s.a.o⟩, ⟨q2, s.f.o⟩⟩ : SelL) = x at *
 have HO := Lib.hid (zb7 (cs := x.cells) tX)
 have HK := Lib.hid (zct (w.heap.size + 1) x.cells 0 w4)
 go_wp2_with (first | (refine wpList_load_mid rfl 33 (.tmp 1) rfl w.heap.size 0 rfl x.cells _ rX Tryz.underlying33 rfl zbi ?_) | (refine wpList_store_mid rfl 33 (.tmp 2) (.tmp 19) rfl (w.heap.size + 1) 0 x.cells.toArray rfl rfl tX zbi (all_oneCell_toArray x.cells_one) ?_; generalize w4.setCells (w.heap.size + 1) 0 x.cells.toArray.toList = W at *))
 have kW := HK.out
 have zW := kW.size
 have hGW : Grew w W := GX.out.keep kW (fun j hj => by show _ ≤ j; rw [hj]; omega)
 have hag : Agree (w.heap.size + 2) w3.heap.size w4 W := kW.agree HS3.out.2 (fun j h1 h2 => by show ¬ j = _; omega)
 have hxW : x.In W w.heap.size W.heap.size := ⟨(IntsIn.agree HX.out.1 hag).mono (by omega) (by have := HS3.out; omega), (IntsIn.agree HX.out.2 hag).mono (by omega) (by have := HS3.out; omega)⟩
 exact bodyPost_ret (v := x.val) (results_cell_mid Tryz.results68 _ W (w.heap.size + 1) 0 x.cells _ rfl HO.out Tryz.underlying33 rfl zbi) rfl ⟨x, rfl, hGW, hxW, HE⟩
end Go.Proofs.YtbhbekocmpmjfaaGreatDoor
