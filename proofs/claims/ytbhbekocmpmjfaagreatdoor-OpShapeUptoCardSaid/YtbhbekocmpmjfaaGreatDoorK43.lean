/- (*redlineref12.Ghost).Do: InsertText. -/
import Derived.Test.YtbhbekocmpmjfaaGreatDoorK42
import Derived.Test.YtbhbekocmpmjfaaGreatDoorK41
import Derived.Test.YtbhbekocmpmjfaaGreatDoorK39
namespace Go.Proofs.YtbhbekocmpmjfaaGreatDoor
open Go Go.RowKit
theorem rep_snoc (l : List Int) (k : Nat) (z : Int) : l ++ List.replicate k z ++ [z] = l ++ List.replicate (k + 1) z := by
 rw [List.append_assoc, List.replicate_succ']
set_option maxRecDepth 100000 in
set_option maxHeartbeats 4000000 in
theorem do7_any (x u : NT) (o : OpL) {t : T} (q : Nat) (w : World) (hx : x.GOk w) (ho : o.In w 0 w.heap.size) (hk : o.kind = 7) (hat : x.er.at o.path.l = some t) (hu : x.sub o.path.l = u) (hpos : o.pos = q) (hq : q ≤ u.ts.tail.length) (hl : o.path.l.length ≤ 1048576) (hrl : u.ts.tail.length ≤ 1048576) (htl : o.text.length ≤ 1048576) :
  Calls Tryz.prog 19 #[.pointer (some ⟨x.pc, 0, none⟩), o.val] w (DoPost x (T.setAt (.mk false [] (u.ts.headD 0 :: (u.ts.tail.take q ++ List.replicate o.text.length (-2) ++ u.ts.tail.drop q)) (u.ks.map NT.er)) x.er o.path.l) w) := by
 have FD := Lib.hid (fun w1 (g : Grew w w1) => za1 x o.path.a o.path.c o.path.l w1 (hx.grew g).g ((ho.grew g (Nat.le_refl _)).mono (Nat.le_refl _) g.size).1.1 hat hl)
 rw [hu] at FD
 have KU := Lib.hid (fun w1 (g : Grew w w1) => (hx.grew g).g.sub hat)
 rw [hu] at KU
 have HPP := Lib.hid (fun w1 (g1 : Grew w w1) w2 v2 (L : List Int) (hL : L = u.ts.tail.take q ++ List.replicate o.text.length (-2) ++ u.ts.tail.drop q) (g : Grew w1 w2) (hB : NumsB (fun _ => False) w1.heap.size w2 v2 L) => (by
  have := (runes_post (hx.grew g1) hat hu g hB).from g1
  rw [hL] at this
  exact this : DoPost x (T.setAt (.mk false [] (u.ts.headD 0 :: (u.ts.tail.take q ++ List.replicate o.text.length (-2) ++ u.ts.tail.drop q)) (u.ks.map NT.er)) x.er o.path.l) w (.returned (.tuple #[])) (w2.setCell ⟨u.pc, 1, none⟩ v2)))
 generalize T.setAt (.mk false [] (u.ts.headD 0 :: (u.ts.tail.take q ++ List.replicate o.text.length (-2) ++ u.ts.tail.drop q)) (u.ks.map NT.er)) x.er o.path.l = R at HPP ⊢
 have huG := hx.g.sub hat
 rw [hu] at huG
 have hints := huG.own.ints
 have hcap : u.ts.tail.length ≤ u.tc ∧ u.tc ≤ maxLen := ⟨hints.1.2.1, hints.1.2.2⟩
 unfold maxLen at hcap
 have HKI := Lib.hid hk
 have HPO := Lib.hid hpos
 have hrow := huG.own.rune_row
 clear hx ho hat hu hk hpos huG
 generalize hLL : u.ts.tail = rl at *
 have HTL := Lib.hid hLL
 clear hLL
 rcases hrow with ⟨hta, htc, htl0⟩ | ⟨rb, hta⟩
 ·have HT0 := Lib.hid htl0
  have HTA := Lib.hid (show u.ta = none ∧ u.tc = 0 from ⟨hta, htc⟩)
  have hlz := congrArg List.length htl0
  rw [List.length_nil] at hlz
  have hq0 : q = 0 := by omega
  subst hq0
  clear hints hcap hta htc htl0 hq hlz hrl
  unfold OpL.val
  go_enter Tryz.func19, Tryz.ntmps19
  go_upto_region 1 with fail
  generalize hW : w.alloc _ = w1
  obtain ⟨g1, rO, _, z1⟩ := zap w o.cells _ w1 hW
  clear hW
  obtain ⟨ov, hov⟩ : ∃ v, o.val = v := ⟨_, rfl⟩
  unfold OpL.val at hov
  rw [hov]
  clear hov
  have k0 := zb4 rO (j := 0) rfl
  have k1 := zb4 rO (j := 1) rfl
  rw [HKI.out] at k0
  have KO := Lib.hid (fun (w' : World) (g : Grew w1 w') => (have h := zb5 rO g (by omega); ⟨HPO.out ▸ zb4 h (j := 3) rfl, zb4 h (j := 10) rfl⟩ : w'.cell? ⟨w.heap.size, 3, none⟩ = some (.int .i64 (((0 : Nat) : Int))) ∧ w'.cell? ⟨w.heap.size, 10, none⟩ = some (.slice o.xa o.text.length o.xc)))
  have CF := FD.out w1 g1
  have G1 := Lib.hid g1
  clear rO z1 g1 FD
  go_wp2_with fail
  refine CF.mono ?_
  rintro e w2 ⟨rfl, e2⟩
  rw [e2]
  clear CF k0 k1 e2
  have KB := fun (w' : World) (g : Grew w1 w') => (⟨by have := (KU.out w' (G1.out.trans g)).own.at.2.1; rw [HTA.out.1, HTA.out.2, HTL.out, HT0.out] at this; exact this, (KO.out w' g).1, (KO.out w' g).2⟩ : w'.cell? ⟨u.pc, 1, none⟩ = some (.slice none 0 0) ∧ w'.cell? ⟨w.heap.size, 3, none⟩ = some (.int .i64 ((0 : Nat) : Int)) ∧ w'.cell? ⟨w.heap.size, 10, none⟩ = some (.slice o.xa o.text.length o.xc))
  go_upto_region 32 with fail
  have g10 : Grew w1 w1.drew := (Grew.refl _).drew
  go_region_held3 (fun w' => Grew w1 w') ((first | assumption | exact Grew.trans (by assumption) (by assumption)))
   ((go_loud (refine zcW (S := fun _ => False) (B := w1.heap.size) rfl (.tmp 192) (.tmp 199) rfl (some 200) rfl (.slice none 0 0) [] [] rfl Built.nil none 0 0 0 rfl zck (by simp) (Grew.size (by assumption)) ?_; intro v3 w3 hB3 hk3; have g13 := Grew.own (by assumption) hk3 (fun j hj => absurd hj zbK))))
  rw [List.nil_append] at hB3
  obtain ⟨n3, a3, cc3, rfl⟩ := zcu hB3.1
  have HB3 := Lib.hid hB3
  have G13 := Lib.hid g13
  clear hB3 hk3 g10 g13
  obtain ⟨_, _, eA⟩ := KB w3 G13.out
  go_wp2_with fail
  clear eA
  go_loopw [14, 204] (fun v i wr => ∃ (k n : Nat) (a : Option Addr) (c : Nat), k ≤ o.text.length ∧ v = .slice a n c ∧ i = .int .i64 k ∧ Hid (Grew w1 wr) ∧ Hid (NumsB (fun _ => False) w1.heap.size wr (.slice a n c) ([] ++ List.replicate k (-2)))) (fun _ i _ => o.text.length - (intOf i).toNat)
  case atStart => exact ⟨0, _, _, _, by omega, rfl, rfl, G13, Lib.hid (by rw [List.replicate_zero, List.append_nil]; exact HB3.out)⟩
  clear HB3 G13
  obtain ⟨k, n, a, c, hk1, rfl, rfl, hG, hB⟩ := hrel
  by_cases hlt : k < o.text.length
  ·go_wp2_with (at_builtin; go_loud (refine zcS (S := fun _ => False) (B := w1.heap.size) rfl (.tmp 206) (.tmp 207) rfl (some 208) rfl (.slice a n c) ([] ++ List.replicate k (-2)) [-2] rfl (hB.out.grew (Grew.alloc1 _ _)) (some ⟨wr.heap.size, 0, none⟩) 1 wr.heap.size (wr.heap.size + 1) rfl (num_row1 _) (by rw [List.length_append, List.length_replicate, List.length_singleton]; first | (rw [HLT.out]; omega) | (simp only [List.length_nil]; omega)) (Nat.le_trans hG.out.size (Grew.alloc1 _ _).size) ?_); intro v4 w4 hB4 hk4; have g4 : Grew w1 w4 := (hG.out.trans (Grew.alloc1 _ _)).keep hk4.1 (fun j hj => (hB.out.lt j hj).1); rw [rep_snoc] at hB4; obtain ⟨n4, a4, c4, rfl⟩ := zcu hB4.1; have HB4 := Lib.hid hB4; have G4 := Lib.hid g4; clear hB4 hk4 g4)
   go_roundw
   case rel => exact ⟨k + 1, n4, a4, c4, by omega, rfl, by go_num, G4, HB4⟩
   case measure => simp [intOf]; omega
  obtain rfl : k = o.text.length := by omega
  have g14 := hG.out.drew
  go_upto_region 37 with fail
  have HB4 := Lib.hid (hB.out.grew (Grew.refl wr).drew)
  have G14 := Lib.hid g14
  have KF := Lib.hid (fun (w' : World) (g : Grew w1 w') => (KU.out w' (G1.out.trans g)).own.there 1 (by decide))
  clear g14 hB hG
  refine zcY (Grew w1) (fun j => j.blt 10) (by kernel_rfl) ?_
  generalize wr.drew = w4 at *
  refine zcQ (i := 0) (v := .pointer (some ⟨u.pc, 0, none⟩)) rfl (by kernel_rfl) (by kernel_rfl) (by kernel_rfl) (by kernel_rfl) (fun _ _ _ h => h) (Or.inl ⟨rfl, fun w' hS => by obtain ⟨e1, e3, eA⟩ := KB w' hS; go_simp⟩) G14.out ?_
  refine zcQ (i := 1) (v := .slice a n c) rfl (by kernel_rfl) (by kernel_rfl) (by kernel_rfl) (by kernel_rfl) (fun _ _ _ h => h) (Or.inl ⟨rfl, fun w' hS => by obtain ⟨e1, e3, eA⟩ := KB w' hS; go_simp⟩) G14.out ?_
  refine zcQ (i := 2) (v := .pointer (some ⟨u.pc, 0, none⟩)) rfl (by kernel_rfl) (by kernel_rfl) (by kernel_rfl) (by kernel_rfl) (fun _ _ _ h => h) (Or.inl ⟨rfl, fun w' hS => by obtain ⟨e1, e3, eA⟩ := KB w' hS; go_simp⟩) G14.out ?_
  refine zcQ (i := 3) (v := .pointer (some ⟨u.pc, 0, none⟩)) rfl (by kernel_rfl) (by kernel_rfl) (by kernel_rfl) (by kernel_rfl) (fun _ _ _ h => h) (Or.inl ⟨rfl, fun w' hS => by obtain ⟨e1, e3, eA⟩ := KB w' hS; go_simp⟩) G14.out ?_
  refine zcQ (i := 4) (v := .pointer (some ⟨u.pc, 1, none⟩)) rfl (by kernel_rfl) (by kernel_rfl) (by kernel_rfl) (by kernel_rfl) (fun _ _ _ h => h) (Or.inl ⟨rfl, fun w' hS => by obtain ⟨e1, e3, eA⟩ := KB w' hS; go_simp⟩) G14.out ?_
  refine zcQ (i := 5) (v := .slice none 0 0) rfl (by kernel_rfl) (by kernel_rfl) (by kernel_rfl) (by kernel_rfl) (fun _ _ _ h => h) (Or.inl ⟨rfl, fun w' hS => by obtain ⟨e1, e3, eA⟩ := KB w' hS; go_simp⟩) G14.out ?_
  refine zcQ (i := 6) (v := .pointer (some ⟨w.heap.size, 3, none⟩)) rfl (by kernel_rfl) (by kernel_rfl) (by kernel_rfl) (by kernel_rfl) (fun _ _ _ h => h) (Or.inl ⟨rfl, fun w' hS => by obtain ⟨e1, e3, eA⟩ := KB w' hS; go_simp⟩) G14.out ?_
  refine zcQ (i := 7) (v := .int .i64 ((0 : Nat) : Int)) rfl (by kernel_rfl) (by kernel_rfl) (by kernel_rfl) (by kernel_rfl) (fun _ _ _ h => h) (Or.inl ⟨rfl, fun w' hS => by obtain ⟨e1, e3, eA⟩ := KB w' hS; go_simp⟩) G14.out ?_
  refine zcO (i := 8) (by kernel_rfl) rfl rfl ?_
  intro K' hK'
  go_wp2_with fail
  first | refine ⟨fun _ => G14.out, ?_⟩ | refine ⟨G14.out, ?_⟩ | skip
  refine zcO (i := 9) (by kernel_rfl) rfl rfl ?_
  intro K' hK'
  refine zcW (S := fun _ => False) (B := w1.heap.size) rfl (.tmp 211) (.tmp 218) rfl (some 219) rfl (.slice a n c) ([] ++ List.replicate o.text.length (-2)) [] rfl HB4.out none 0 0 0 rfl zck (by rw [List.length_append, List.length_replicate, List.length_nil]; omega) G14.out.size ?_
  intro v5 w5 hB5 hm5
  have g5 : Grew w1 w5 := G14.out.keep hm5.1 (fun j hj => (HB4.out.lt j hj).1)
  obtain ⟨n5, a5, c5, rfl⟩ := zcu hB5.1
  obtain ⟨f1, f2⟩ := KF.out w5 g5
  simp only [Nat.zero_add] at f1 f2
  obtain ⟨old, f3⟩ := Option.isSome_iff_exists.1 f1
  have HF := Lib.hid (HPP.out w1 G1.out w5 _ _ (by rw [HT0.out]; rfl) g5 hB5)
  refine hK' _ _ ⟨fun _ => g5, ?_⟩
  clear hK' K'
  refine zcO (i := 10) (by kernel_rfl) rfl rfl ?_
  intro K' hK'
  go_wp2_with fail
  first | refine ⟨fun (h : false = true) => (by cases h), ?_⟩ | skip
  refine zcO (i := 11) (by kernel_rfl) rfl rfl ?_
  intro K' hK'
  go_wp2_with fail
  first | refine ⟨fun (h : false = true) => (by cases h), ?_⟩ | skip
  refine zcO (i := 12) (by kernel_rfl) rfl rfl ?_
  intro K' hK'
  go_wp2_with fail
  first | refine ⟨fun (h : false = true) => (by cases h), ?_⟩ | skip
  refine zcN (by kernel_rfl) ?_ _
  go_end0
  exact HF.out
 ·rw [hta] at hints
  have HI := Lib.hid hints
  have HTA := Lib.hid hta
  clear hta hints
  unfold OpL.val
  go_enter Tryz.func19, Tryz.ntmps19
  go_upto_region 1 with fail
  generalize hW : w.alloc _ = w1
  obtain ⟨g1, rO, _, z1⟩ := zap w o.cells _ w1 hW
  clear hW
  obtain ⟨ov, hov⟩ : ∃ v, o.val = v := ⟨_, rfl⟩
  unfold OpL.val at hov
  rw [hov]
  clear hov
  have k0 := zb4 rO (j := 0) rfl
  have k1 := zb4 rO (j := 1) rfl
  rw [HKI.out] at k0
  have KO := Lib.hid (fun (w' : World) (g : Grew w1 w') => (have h := zb5 rO g (by omega); ⟨HPO.out ▸ zb4 h (j := 3) rfl, zb4 h (j := 10) rfl⟩ : w'.cell? ⟨w.heap.size, 3, none⟩ = some (.int .i64 ((q : Int))) ∧ w'.cell? ⟨w.heap.size, 10, none⟩ = some (.slice o.xa o.text.length o.xc)))
  have CF := FD.out w1 g1
  have G1 := Lib.hid g1
  clear rO z1 g1 FD
  go_wp2_with fail
  refine CF.mono ?_
  rintro e w2 ⟨rfl, e2⟩
  rw [e2]
  clear CF k0 k1 e2
  have KB := fun (w' : World) (g : Grew w1 w') => (⟨by have := (KU.out w' (G1.out.trans g)).own.at.2.1; rw [HTA.out, HTL.out] at this; exact this, (KO.out w' g).1, (KO.out w' g).2⟩ : w'.cell? ⟨u.pc, 1, none⟩ = some (.slice (some ⟨rb, 0, none⟩) rl.length u.tc) ∧ w'.cell? ⟨w.heap.size, 3, none⟩ = some (.int .i64 (q : Int)) ∧ w'.cell? ⟨w.heap.size, 10, none⟩ = some (.slice o.xa o.text.length o.xc))
  have HLT : Hid ((rl.take q).length = q) := by show _ = _; rw [List.length_take]; omega
  have KR := Lib.hid (fun (w' : World) (g : Grew w1 w') => numRow (IntsIn.take (HI.out.grew (G1.out.trans g) (Nat.le_refl _)) (k := q) (by omega)))
  rw [HLT.out] at KR
  have q1 : (q : Int) ≤ u.tc := by omega
  have hw : IntKind.i64.wrap ((q : Int) + (o.text.length : Int)) = (q : Int) + o.text.length := by rw [IntKind.wrap_i64]; omega
  have q2 : (q : Int) ≤ rl.length := by omega
  go_upto_region 32 with fail
  have g10 : Grew w1 w1.drew := (Grew.refl _).drew
  go_region_held3 (fun w' => Grew w1 w') ((first | assumption | exact Grew.trans (by assumption) (by assumption)))
   ((go_loud (refine zcW (S := fun _ => False) (B := w1.heap.size) rfl (.tmp 192) (.tmp 199) rfl (some 200) rfl (.slice none 0 0) [] (rl.take q) rfl Built.nil (some ⟨rb, 0, none⟩) u.tc 0 w.heap.size (congrArg (fun n : Nat => Value.slice (some ⟨rb, 0, none⟩) n u.tc) HLT.out.symm) (by rw [HLT.out]; exact KR.out _ (by assumption)) (by rw [HLT.out, List.length_nil]; omega) (Grew.size (by assumption)) ?_; intro v3 w3 hB3 hk3; have g13 := Grew.own (by assumption) hk3 (fun j hj => absurd hj zbK))))
  rw [List.nil_append] at hB3
  obtain ⟨n3, a3, cc3, rfl⟩ := zcu hB3.1
  have HB3 := Lib.hid hB3
  have G13 := Lib.hid g13
  clear hB3 hk3 g10 g13
  obtain ⟨_, _, eA⟩ := KB w3 G13.out
  go_wp2_with fail
  clear eA
  go_loopw [14, 204] (fun v i wr => ∃ (k n : Nat) (a : Option Addr) (c : Nat), k ≤ o.text.length ∧ v = .slice a n c ∧ i = .int .i64 k ∧ Hid (Grew w1 wr) ∧ Hid (NumsB (fun _ => False) w1.heap.size wr (.slice a n c) ((rl.take q) ++ List.replicate k (-2)))) (fun _ i _ => o.text.length - (intOf i).toNat)
  case atStart => exact ⟨0, _, _, _, by omega, rfl, rfl, G13, Lib.hid (by rw [List.replicate_zero, List.append_nil]; exact HB3.out)⟩
  clear HB3 G13
  obtain ⟨k, n, a, c, hk1, rfl, rfl, hG, hB⟩ := hrel
  by_cases hlt : k < o.text.length
  ·go_wp2_with (at_builtin; go_loud (refine zcS (S := fun _ => False) (B := w1.heap.size) rfl (.tmp 206) (.tmp 207) rfl (some 208) rfl (.slice a n c) ((rl.take q) ++ List.replicate k (-2)) [-2] rfl (hB.out.grew (Grew.alloc1 _ _)) (some ⟨wr.heap.size, 0, none⟩) 1 wr.heap.size (wr.heap.size + 1) rfl (num_row1 _) (by rw [List.length_append, List.length_replicate, List.length_singleton]; first | (rw [HLT.out]; omega) | (simp only [List.length_nil]; omega)) (Nat.le_trans hG.out.size (Grew.alloc1 _ _).size) ?_); intro v4 w4 hB4 hk4; have g4 : Grew w1 w4 := (hG.out.trans (Grew.alloc1 _ _)).keep hk4.1 (fun j hj => (hB.out.lt j hj).1); rw [rep_snoc] at hB4; obtain ⟨n4, a4, c4, rfl⟩ := zcu hB4.1; have HB4 := Lib.hid hB4; have G4 := Lib.hid g4; clear hB4 hk4 g4)
   go_roundw
   case rel => exact ⟨k + 1, n4, a4, c4, by omega, rfl, by go_num, G4, HB4⟩
   case measure => simp [intOf]; omega
  obtain rfl : k = o.text.length := by omega
  have g14 := hG.out.drew
  go_upto_region 37 with fail
  have HB4 := Lib.hid (hB.out.grew (Grew.refl wr).drew)
  have G14 := Lib.hid g14
  have KF := Lib.hid (fun (w' : World) (g : Grew w1 w') => (KU.out w' (G1.out.trans g)).own.there 1 (by decide))
  clear g14 hB hG
  refine zcY (Grew w1) (fun j => j.blt 10) (by kernel_rfl) ?_
  generalize wr.drew = w4 at *
  refine zcQ (i := 0) (v := .pointer (some ⟨u.pc, 0, none⟩)) rfl (by kernel_rfl) (by kernel_rfl) (by kernel_rfl) (by kernel_rfl) (fun _ _ _ h => h) (Or.inl ⟨rfl, fun w' hS => by obtain ⟨e1, e3, eA⟩ := KB w' hS; go_simp⟩) G14.out ?_
  refine zcQ (i := 1) (v := .slice a n c) rfl (by kernel_rfl) (by kernel_rfl) (by kernel_rfl) (by kernel_rfl) (fun _ _ _ h => h) (Or.inl ⟨rfl, fun w' hS => by obtain ⟨e1, e3, eA⟩ := KB w' hS; go_simp⟩) G14.out ?_
  refine zcQ (i := 2) (v := .pointer (some ⟨u.pc, 0, none⟩)) rfl (by kernel_rfl) (by kernel_rfl) (by kernel_rfl) (by kernel_rfl) (fun _ _ _ h => h) (Or.inl ⟨rfl, fun w' hS => by obtain ⟨e1, e3, eA⟩ := KB w' hS; go_simp⟩) G14.out ?_
  refine zcQ (i := 3) (v := .pointer (some ⟨u.pc, 0, none⟩)) rfl (by kernel_rfl) (by kernel_rfl) (by kernel_rfl) (by kernel_rfl) (fun _ _ _ h => h) (Or.inl ⟨rfl, fun w' hS => by obtain ⟨e1, e3, eA⟩ := KB w' hS; go_simp⟩) G14.out ?_
  refine zcQ (i := 4) (v := .pointer (some ⟨u.pc, 1, none⟩)) rfl (by kernel_rfl) (by kernel_rfl) (by kernel_rfl) (by kernel_rfl) (fun _ _ _ h => h) (Or.inl ⟨rfl, fun w' hS => by obtain ⟨e1, e3, eA⟩ := KB w' hS; go_simp⟩) G14.out ?_
  refine zcQ (i := 5) (v := .slice (some ⟨rb, 0, none⟩) rl.length u.tc) rfl (by kernel_rfl) (by kernel_rfl) (by kernel_rfl) (by kernel_rfl) (fun _ _ _ h => h) (Or.inl ⟨rfl, fun w' hS => by obtain ⟨e1, e3, eA⟩ := KB w' hS; go_simp⟩) G14.out ?_
  refine zcQ (i := 6) (v := .pointer (some ⟨w.heap.size, 3, none⟩)) rfl (by kernel_rfl) (by kernel_rfl) (by kernel_rfl) (by kernel_rfl) (fun _ _ _ h => h) (Or.inl ⟨rfl, fun w' hS => by obtain ⟨e1, e3, eA⟩ := KB w' hS; go_simp⟩) G14.out ?_
  refine zcQ (i := 7) (v := .int .i64 (q : Int)) rfl (by kernel_rfl) (by kernel_rfl) (by kernel_rfl) (by kernel_rfl) (fun _ _ _ h => h) (Or.inl ⟨rfl, fun w' hS => by obtain ⟨e1, e3, eA⟩ := KB w' hS; go_simp⟩) G14.out ?_
  have HR4 := Lib.hid (HI.out.grew (G1.out.trans G14.out) (Nat.le_refl _))
  have HLD : Hid ((rl.drop q).length = rl.length - q) := List.length_drop
  by_cases hend : q = u.tc
  ·have HD : Hid (rl.drop q = []) := by
     show _ = _
     rw [List.drop_eq_nil_iff]; omega
   have q4 : ¬ (q : Int) < u.tc := by omega
   have q6 : (rl.length : Int) - (q : Int) = 0 := by omega
   refine zcO (i := 8) (by kernel_rfl) rfl rfl ?_
   intro K' hK'
   go_wp2_with fail
   first | refine ⟨fun _ => G14.out, ?_⟩ | refine ⟨G14.out, ?_⟩ | skip
   refine zcO (i := 9) (by kernel_rfl) rfl rfl ?_
   intro K' hK'
   refine zcW (S := fun _ => False) (B := w1.heap.size) rfl (.tmp 211) (.tmp 218) rfl (some 219) rfl (.slice a n c) ((rl.take q) ++ List.replicate o.text.length (-2)) [] rfl HB4.out (some ⟨rb, 0, none⟩) 0 0 0 (by go_simp) ⟨⟨fun e => (by cases e), Nat.le_refl _, Nat.zero_le _⟩, fun h => absurd h (Nat.lt_irrefl _)⟩ (by rw [List.length_append, List.length_replicate, HLT.out, List.length_nil]; omega) G14.out.size ?_
   intro v5 w5 hB5 hm5
   have g5 : Grew w1 w5 := G14.out.keep hm5.1 (fun j hj => (HB4.out.lt j hj).1)
   obtain ⟨n5, a5, c5, rfl⟩ := zcu hB5.1
   obtain ⟨f1, f2⟩ := KF.out w5 g5
   simp only [Nat.zero_add] at f1 f2
   obtain ⟨old, f3⟩ := Option.isSome_iff_exists.1 f1
   have HF := Lib.hid (HPP.out w1 G1.out w5 _ _ (by rw [HD.out]) g5 hB5)
   refine hK' _ _ ⟨fun _ => g5, ?_⟩
   clear hK' K'
   refine zcO (i := 10) (by kernel_rfl) rfl rfl ?_
   intro K' hK'
   go_wp2_with fail
   first | refine ⟨fun (h : false = true) => (by cases h), ?_⟩ | skip
   refine zcO (i := 11) (by kernel_rfl) rfl rfl ?_
   intro K' hK'
   go_wp2_with fail
   first | refine ⟨fun (h : false = true) => (by cases h), ?_⟩ | skip
   refine zcO (i := 12) (by kernel_rfl) rfl rfl ?_
   intro K' hK'
   go_wp2_with fail
   first | refine ⟨fun (h : false = true) => (by cases h), ?_⟩ | skip
   refine zcN (by kernel_rfl) ?_ _
   go_end0
   exact HF.out
  ·have q4 : (q : Int) < u.tc := by omega
   have HSL : Hid (Value.slice (some ⟨rb, q, none⟩) (rl.length - q) (u.tc - q) = Value.slice (some ⟨rb, 0 + q, none⟩) (rl.drop q).length (u.tc - q)) := by show _ = _; rw [HLD.out, Nat.zero_add]
   have HRD := Lib.hid (numRow (IntsIn.drop HR4.out q (by omega)))
   refine zcO (i := 8) (by kernel_rfl) rfl rfl ?_
   intro K' hK'
   go_wp2_with fail
   first | refine ⟨fun _ => G14.out, ?_⟩ | refine ⟨G14.out, ?_⟩ | skip
   refine zcO (i := 9) (by kernel_rfl) rfl rfl ?_
   intro K' hK'
   refine zcW (S := fun _ => False) (B := w1.heap.size) rfl (.tmp 211) (.tmp 218) rfl (some 219) rfl (.slice a n c) ((rl.take q) ++ List.replicate o.text.length (-2)) (rl.drop q) rfl HB4.out (some ⟨rb, 0 + q, none⟩) (u.tc - q) 0 w.heap.size (by go_simp) HRD.out (by rw [List.length_append, List.length_replicate, HLT.out, HLD.out]; omega) G14.out.size ?_
   intro v5 w5 hB5 hm5
   have g5 : Grew w1 w5 := G14.out.keep hm5.1 (fun j hj => (HB4.out.lt j hj).1)
   obtain ⟨n5, a5, c5, rfl⟩ := zcu hB5.1
   obtain ⟨f1, f2⟩ := KF.out w5 g5
   simp only [Nat.zero_add] at f1 f2
   obtain ⟨old, f3⟩ := Option.isSome_iff_exists.1 f1
   have HF := Lib.hid (HPP.out w1 G1.out w5 _ _ rfl g5 hB5)
   refine hK' _ _ ⟨fun _ => g5, ?_⟩
   clear hK' K'
   refine zcO (i := 10) (by kernel_rfl) rfl rfl ?_
   intro K' hK'
   go_wp2_with fail
   first | refine ⟨fun (h : false = true) => (by cases h), ?_⟩ | skip
   refine zcO (i := 11) (by kernel_rfl) rfl rfl ?_
   intro K' hK'
   go_wp2_with fail
   first | refine ⟨fun (h : false = true) => (by cases h), ?_⟩ | skip
   refine zcO (i := 12) (by kernel_rfl) rfl rfl ?_
   intro K' hK'
   go_wp2_with fail
   first | refine ⟨fun (h : false = true) => (by cases h), ?_⟩ | skip
   refine zcN (by kernel_rfl) ?_ _
   go_end0
   exact HF.out
end Go.Proofs.YtbhbekocmpmjfaaGreatDoor
/- A GHOST TAKES ANOTHER ONE'S RUNES, and its Kids. -/
namespace Go.Proofs.YtbhbekocmpmjfaaGreatDoor
open Go Go.RowKit
theorem NT.GOk.sub_ok {w : World} {x : NT} {t : T} {p : List Int} (hx : x.GOk w) (hat : x.er.at p = some t) : (x.sub p).GOk w ∧ ∀ b ∈ (x.sub p).gb, b ∈ x.gb := by
 obtain ⟨rest, hp1, _⟩ := NT.gb_split hat
 have hux : ∀ b ∈ (x.sub p).gb, b ∈ x.gb := fun b hb => hp1.mem_iff.2 (List.mem_append_left _ hb)
 obtain ⟨hn1, _, _⟩ := List.nodup_append.1 (hp1.nodup_iff.1 hx.nd)
 exact ⟨⟨hx.g.sub hat, hn1, fun b hb => hx.lt b (hux b hb)⟩, hux⟩
theorem sub_setAt {y : NT} {t : T} : ∀ {p : List Int} {x : NT}, x.er.at p = some t → (NT.setAt y x p).sub p = y := by
 intro p
 induction p with
 | nil => intro x _; rfl
 | cons i r ih =>
  intro x h
  obtain ⟨h0, h1, h2⟩ := T.at_of h
  rw [NT.er_ks, List.length_map] at h1
  rw [NT.er_ks, ← zaY] at h2
  have hi : i.toNat < x.ks.length := by omega
  rw [NT.setAt_cons, NT.sub]
  have : (NT.mk x.lf x.pa x.pc x.ps x.ta x.tc x.ts x.ka x.kc (x.ks.set i.toNat (NT.setAt y (x.ks.getD i.toNat default) r))).ks.getD i.toNat default = NT.setAt y (x.ks.getD i.toNat default) r := by
   rw [NT.ks_mk]
   simp [List.getD, hi]
  rw [this]
  exact ih h2
theorem NT.GOk.joinRunes {x b k : NT} {t : T} {p : List Int} {w w3 : World} {a : Option Addr} {c : Nat} {L : List Int} (hx : x.GOk w) (hat : x.er.at p = some t) (hb : x.sub p = b) (hk : k.GOk w) (hd : ∀ j ∈ k.gb, j ∉ x.gb)
  (hB : NumsB (fun _ => False) 0 w3 (.slice a L.length c) L) (hm : Moves (zbJ b.runesV) w (zbJ (.slice a L.length c)) w3) :
  ∃ x2 : NT, x2.GOk (w3.setCell ⟨b.pc, 1, none⟩ (.slice a L.length c)) ∧ k.GOk (w3.setCell ⟨b.pc, 1, none⟩ (.slice a L.length c)) ∧ (∀ j ∈ k.gb, j ∉ x2.gb) ∧ x2.pc = x.pc ∧ x2.er = T.setAt (b.toRunes a c L).er x.er p ∧ Keeps (· ∈ x.gb) w (w3.setCell ⟨b.pc, 1, none⟩ (.slice a L.length c)) ∧ (∀ j ∈ x2.gb, j ∈ x.gb ∨ w.heap.size ≤ j) ∧ x2.sub p = b.toRunes a c L ∧ x2.er.at p = some (b.toRunes a c L).er := by
 obtain ⟨hbO, hbx⟩ := hx.sub_ok hat
 obtain ⟨rest, hp1, hp2⟩ := NT.gb_split hat
 rw [hb] at hbO hbx hp1 hp2
 obtain ⟨q1, q2, q3⟩ := hbO.newRunes hB hm
 obtain ⟨p1, p2⟩ := hp2 (b.toRunes a c L) rfl
 have hput := NT.GOk.put q2 (F := []) hx hat (by rw [hb]; exact fun j hj => .inl hj) (by rw [hb]; rfl) q1 (by rw [hb]; exact fun j hj => (q3 j hj).imp id (fun h => .inl h)) (fun j hj => by cases hj)
 have hsub : ∀ j ∈ (NT.setAt (b.toRunes a c L) x p).gb, j ∈ x.gb ∨ w.heap.size ≤ j := fun j hj => by
  rcases List.mem_append.1 (p1.mem_iff.1 hj) with h | h
  ·exact (q3 j h).imp (hbx j) id
  ·exact .inl (hp1.mem_iff.2 (List.mem_append_right _ h))
 refine ⟨_, hput, hk.keeps q2 (fun j hj hjb => hd j hj (hbx j hjb)), fun j hj hjx => ?_, p2, NT.setAt_er .., q2.wider (fun j _ h => hbx j h), hsub, sub_setAt hat, ?_⟩
 ·rcases hsub j hjx with h | h
  ·exact hd j hj h
  ·have := hk.lt j hj; omega
 ·rw [NT.setAt_er]
  exact T.at_setAt hat
theorem NT.GOk.joinKids {x b k : NT} {t : T} {p : List Int} {w w3 : World} {a : Option Addr} {c : Nat} (hx : x.GOk w) (hat : x.er.at p = some t) (hb : x.sub p = b) (hk : k.GOk w) (hd : ∀ j ∈ k.gb, j ∉ x.gb)
  (hB : PtrsB (fun _ => False) 0 w3 (.slice a (b.ks ++ k.ks).length c) (b.ks ++ k.ks)) (hm : Moves (zbJ b.kidsV) w (zbJ (.slice a (b.ks ++ k.ks).length c)) w3) :
  ∃ x2 : NT, x2.GOk (w3.setCell ⟨b.pc, 2, none⟩ (.slice a (b.ks ++ k.ks).length c)) ∧ x2.pc = x.pc ∧ x2.er = T.setAt (.mk false [] b.ts (b.ks.map NT.er ++ k.ks.map NT.er)) x.er p ∧ Keeps (· ∈ x.gb) w (w3.setCell ⟨b.pc, 2, none⟩ (.slice a (b.ks ++ k.ks).length c)) := by
 obtain ⟨hbO, hbx⟩ := hx.sub_ok hat
 obtain ⟨rest, hp1, hp2⟩ := NT.gb_split hat
 rw [hb] at hbO hbx hp1 hp2
 have hbn := hbO.nd
 rw [NT.gb_eq] at hbn
 obtain ⟨_, hb2, hb3⟩ := List.nodup_append.1 hbn
 have hkn := hk.nd
 rw [NT.gb_eq] at hkn
 obtain ⟨_, hk2, _⟩ := List.nodup_append.1 hkn
 have hkg : ∀ j ∈ NT.gbs k.ks, j ∈ k.gb := fun j hj => by rw [NT.gb_eq]; exact List.mem_append_right _ hj
 have hbg : ∀ j ∈ NT.gbs b.ks, j ∈ b.gb := fun j hj => by rw [NT.gb_eq]; exact List.mem_append_right _ hj
 have hbo : ∀ j ∈ b.ob, j ∈ b.gb := fun j hj => by rw [NT.gb_eq]; exact List.mem_append_left _ hj
 obtain ⟨q1, q2, q3⟩ := hbO.newKids (L := b.ks ++ k.ks) (fun q hq => by
   rcases List.mem_append.1 hq with h | h
   ·exact hbO.kid h
   ·exact hk.kid h)
  (by rw [NT.gbs_app]; exact List.nodup_append.2 ⟨hb2, hk2, fun i hi j hj e => hd j (hkg j hj) (hbx j (hbg j (e ▸ hi)))⟩)
  (fun j hj hjo => by
   rw [NT.gbs_app] at hj
   rcases List.mem_append.1 hj with h | h
   ·exact hb3 j hjo j h rfl
   ·exact hd j (hkg j h) (hbx j (hbo j hjo))) hB hm
 obtain ⟨p1, p2⟩ := hp2 (b.toKids a c (b.ks ++ k.ks)) rfl
 have hput := NT.GOk.put q2 (F := NT.gbs k.ks) hx hat (by rw [hb]; exact fun j hj => .inl hj) (by rw [hb]; rfl) q1 (by
  rw [hb]
  intro j hj
  rcases q3 j hj with h | h | h
  ·exact .inl h
  ·rw [NT.gbs_app] at h
   rcases List.mem_append.1 h with h | h
   ·exact .inl (hbg j h)
   ·exact .inr (.inr h)
  ·exact .inr (.inl h)) (fun j hj hjx => hd j (hkg j hj) hjx)
 refine ⟨_, hput, p2, ?_, q2.wider (fun j _ h => hbx j h)⟩
 rw [NT.setAt_er, NT.er_eq (b.toKids a c (b.ks ++ k.ks))]
 show T.setAt (.mk b.lf b.ps b.ts ((b.ks ++ k.ks).map NT.er)) _ _ = _
 rw [hbO.g.own.lf, hbO.g.own.ps, List.map_append]
end Go.Proofs.YtbhbekocmpmjfaaGreatDoor
