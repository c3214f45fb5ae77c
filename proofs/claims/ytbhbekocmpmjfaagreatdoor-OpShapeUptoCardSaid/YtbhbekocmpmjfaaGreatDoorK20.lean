/- tree.Add, tree.Cut: the contracts. -/
import Derived.Test.YtbhbekocmpmjfaaGreatDoorK19
import Derived.Test.YtbhbekocmpmjfaaGreatDoorK03
namespace Go.Proofs.YtbhbekocmpmjfaaGreatDoor
open Go Go.RowKit
def zae (i : Int) (m : T) : How := fun y => if y.lf = true then .inr 7 else if i < 0 ∨ (y.ks.length : Int) < i then .inr 8 else .inl (.mk y.lf y.ps y.ts (y.ks.take i.toNat ++ m :: y.ks.drop i.toNat))
def NT.withKids (y : NT) (ka : Option Addr) (kc : Nat) (ks : List NT) : NT := .mk y.lf y.pa y.pc y.ps y.ta y.tc y.ts ka kc ks
theorem NT.withKids_er (y : NT) (ka : Option Addr) (kc : Nat) (ks : List NT) : (y.withKids ka kc ks).er = .mk y.lf y.ps y.ts (ks.map NT.er) := by
 rw [NT.withKids, NT.er_eq]; rfl
theorem nodeAt_kids {w : World} {b o : Nat} {y : NT} {ka : Option Addr} {kc : Nat} {ks : List NT} (h : NodeAt w b o y) : NodeAt (w.setCell ⟨b, o + 3, none⟩ (.slice ka ks.length kc)) b o (y.withKids ka kc ks) ∧ (∀ q, (q < o ∨ o + 4 ≤ q) → (w.setCell ⟨b, o + 3, none⟩ (.slice ka ks.length kc)).cell? ⟨b, q, none⟩ = w.cell? ⟨b, q, none⟩) := by
 obtain ⟨h0, h1, h2, h3⟩ := h
 refine ⟨⟨?_, ?_, ?_, ?_⟩, fun q hq => zat (by omega)⟩
 ·rw [zat (by omega)]; exact h0
 ·rw [zat (by omega)]; exact h1
 ·rw [zat (by omega)]; exact h2
 ·exact zav h3
theorem how_kids {y : NT} {l h b o B : Nat} {how : How} {w w3 w4 : World} {ka : Option Addr} {kc : Nat} {ks : List NT} (hs : y.Sep l h) (hin : y.In w l h) (hlh : l ≤ h) (hh : h ≤ w.heap.size) (hB : B ≤ l) (hbs : b < w.heap.size) (hnb : ¬(l ≤ b ∧ b < h)) (g : Grew w w3) (hk : Keeps (zbn y.ka y.ks.length) w3 w4)
  (hrow : RowIn w4 l h ka ks.length kc 4 (fun i' j => (ks.getD i' default).cell j) ∨ RowIn w4 w.heap.size w4.heap.size ka ks.length kc 4 (fun i' j => (ks.getD i' default).cell j)) (hn : NodeAt w b o y) (hks : (∀ k ∈ y.ks, k.In w4 l h) → ∀ k ∈ ks, k.In w4 l h ∨ k.In w4 w.heap.size w4.heap.size) (hhow : Hid (how y.er = .inl (y.withKids ka kc ks).er)) :
  HowEnds how B y l h b o w (.returned (.int .i64 0)) (w4.setCell ⟨b, o + 3, none⟩ (.slice ka ks.length kc)) := by
 have z3 := g.size
 have z4 := hk.size
 have hblk := zbo hin
 have hin3 := NT.In.grew hin g hh
 obtain ⟨hp, ht, hkk⟩ := sep_parts hs hin3 (by omega) hk
 have hnk : ¬ zbn y.ka y.ks.length b := fun hb => hnb (hblk b hb)
 have hc4 : ∀ q, w4.cell? ⟨b, q, none⟩ = w.cell? ⟨b, q, none⟩ := fun q => (hk.cell (p := ⟨b, q, none⟩) (by show b < _; omega) hnk).trans (g.cell (p := ⟨b, q, none⟩) hbs)
 have hn4 : NodeAt w4 b o y := by
  unfold NodeAt at hn ⊢
  simp only [hc4]
  exact hn
 obtain ⟨q1, q2⟩ := nodeAt_kids (ka := ka) (kc := kc) (ks := ks) hn4
 have k5 : Keeps (· = b) w4 (w4.setCell ⟨b, o + 3, none⟩ (.slice ka ks.length kc)) := (Keeps.refl _ _).own _ _
 refine ⟨?_, .inl ⟨y.withKids ka kc ks, rfl, q1, ?_, fun q hq => (q2 q hq).trans (hc4 q), hhow⟩⟩
 ·refine Keeps.trans (g.keeps _) (Keeps.trans (hk.wider fun k _ hkb => Or.inr (hblk k hkb)) (k5.wider fun k _ hkb => Or.inl hkb))
 ·have hag : ∀ lo hi, hi ≤ w4.heap.size → (∀ k, lo ≤ k → k < hi → k ≠ b) → Agree lo hi w4 (w4.setCell ⟨b, o + 3, none⟩ (.slice ka ks.length kc)) := fun lo hi h1 h2 => k5.agree h1 (fun k k1 k2 hkb => h2 k k1 k2 hkb)
  have z5 := k5.size
  have hagA := hag l h (by omega) (fun k k1 k2 => by omega)
  have hagB := hag w.heap.size w4.heap.size (Nat.le_refl _) (fun k k1 k2 => by omega)
  refine NT.In_iff.2 ⟨?_, ?_, ?_, fun k hk' => ?_⟩
  ·exact (hp.agree hagA).mono hB (by omega)
  ·exact (ht.agree hagA).mono hB (by omega)
  ·rcases hrow with hr | hr
   ·exact (RowIn.agree hr hagA).mono hB (by omega)
   ·exact (RowIn.agree hr hagB).mono (by omega) (by omega)
  ·rcases hks hkk k hk' with hr | hr
   ·exact (hr.agree hagA).mono hB (by omega)
   ·exact (hr.agree hagB).mono (by omega) (by omega)
set_option maxRecDepth 100000 in
set_option maxHeartbeats 4000000 in
theorem add1_any (m y : NT) (i : Int) (bi bm l h b o B : Nat) (w : World) (hi : w.cell? ⟨bi, 0, none⟩ = some (.int .i64 i)) (hbi : bi < w.heap.size) (hm : NodeAt w bm 0 m) (hbm : bm < w.heap.size) (hok : m.Ok w) (hb : m.er.bulk ≤ 1048576)
  (hs : y.Sep l h) (ho : y.Own w l h) (hr : y.Room w) (hlh : l ≤ h) (hh : h ≤ w.heap.size) (hB : B ≤ l) (hlen : y.ks.length ≤ 1048576) (hn : NodeAt w b o y) (hf : ∀ j, w.frozen? ⟨b, j, none⟩ = false) (hbs : b < w.heap.size) (hnb : ¬(l ≤ b ∧ b < h)) (hbil : bi < l) (hbml : bm < l) :
  Calls Tryz.prog 184 #[.pointer (some ⟨b, o, none⟩), .pointer (some ⟨bi, 0, none⟩), .pointer (some ⟨bm, 0, none⟩)] w (HowEnds (zae i m.er) B y l h b o w) := by
 have HH : Hid (zae i m.er y.er = if y.lf = true then .inr 7 else if i < 0 ∨ (y.ks.length : Int) < i then .inr 8 else .inl (.mk y.lf y.ps y.ts (y.er.ks.take i.toNat ++ m.er :: y.er.ks.drop i.toNat))) := by
  show _ = _
  unfold zae
  simp only [NT.er_lf, NT.er_ps, NT.er_ts]
  rw [show y.er.ks.length = y.ks.length by rw [NT.er_ks, List.length_map]]
 have HN := Lib.hid hn
 obtain ⟨n0, n1, n2, n3⟩ := hn
 by_cases hlf : y.lf = true
 ·have HF : Hid (zae i m.er y.er = .inr 7) := by show _ = _; rw [HH.out, if_pos hlf]
  rw [hlf] at n0
  clear HH n1 n2 n3 hm hs ho hr hi
  go_enter Tryz.func184, Tryz.ntmps184
  go_wp2_with fail
  go_ret
  exact ⟨Keeps.refl _ _, .inr ⟨7, by omega, rfl, HF⟩⟩
 ·have hlf' : y.lf = false := by simpa using hlf
  rw [hlf'] at n0
  by_cases hbad : i < 0 ∨ (y.ks.length : Int) < i
  ·have HF : Hid (zae i m.er y.er = .inr 8) := by show _ = _; rw [HH.out, if_neg hlf, if_pos hbad]
   have HB2 := Lib.hid hbad
   clear HH n1 n2 hm hs ho hr
   go_enter Tryz.func184, Tryz.ntmps184
   by_cases hneg : i < 0
   ·have t1 : decide (i < 0) = true := by simpa using hneg
    clear hbad hneg
    go_wp2_with fail
    go_quiet (fail)
    go_wp2_with fail
    go_ret
    exact ⟨((Grew.refl w).drewN _).keeps _, .inr ⟨8, by omega, rfl, HF⟩⟩
   ·have t1 : decide (i < 0) = false := by simpa using hneg
    have t2 : decide ((y.ks.length : Int) < i) = true := by
     have := HB2.out
     simp; omega
    clear hbad hneg
    go_wp2_with fail
    go_quiet (fail)
    go_wp2_with fail
    go_ret
    exact ⟨((Grew.refl w).drewN _).keeps _, .inr ⟨8, by omega, rfl, HF⟩⟩
  ·have HF : Hid (zae i m.er y.er = .inl (.mk y.lf y.ps y.ts (y.er.ks.take i.toNat ++ m.er :: y.er.ks.drop i.toNat))) := by show _ = _; rw [HH.out, if_neg hlf, if_neg hbad]
   obtain ⟨k, rfl⟩ : ∃ k : Nat, i = k := ⟨i.toNat, by omega⟩
   have hk : k ≤ y.ks.length := by omega
   have t1 : decide ((k : Int) < 0) = false := by simp
   have t2 : decide ((y.ks.length : Int) < k) = false := by simp; omega
   clear HH hbad
   go_enter Tryz.func184, Tryz.ntmps184
   go_wp2_with fail
   go_quiet (fail)
   go_upto_region 5 with fail
   generalize hW5 : w.drewN _ = w5 at *
   have g5 : Grew w w5 := by rw [← hW5]; exact (Grew.refl w).drewN _
   clear hW5
   have z5 := g5.size
   have CP := Lib.hid (copy_any m w5.drew (NT.Ok.grew hok (g5.drew)) hb)
   have INS := Lib.hid (fun (w6 : World) (x : NT) (g6 : Grew w w6) => insertKid_any y x k l h w6.heap.size (w6.alloc (.cells x.cells4.toArray 26)) (ho.grew (g6.alloc _) hh) (hr.agree ((g6.alloc _).agree hh) ho.1) hlh (by have := (g6.alloc (.cells x.cells4.toArray 26)).size; omega) hk hlen (heap_alloc_new w6 _) (by have := g6.size; omega))
   have G5 := Lib.hid g5
   have hc5 : ∀ x q, x < w.heap.size → w5.cell? ⟨x, q, none⟩ = w.cell? ⟨x, q, none⟩ := fun x q hx => g5.cell (p := ⟨x, q, none⟩) hx
   have KB := fun w' (g : Keeps (fun k => l ≤ k ∧ k < h) w5 w') => (⟨((g.cell (p := ⟨b, o + 3, none⟩) (by show b < _; omega) hnb).trans (hc5 b _ hbs)).trans n3, ((g.cell (p := ⟨bi, 0, none⟩) (by show bi < _; omega) (by show ¬(l ≤ bi ∧ bi < h); omega)).trans (hc5 bi _ hbi)).trans hi, ((g.cell (p := ⟨bm, 0, none⟩) (by show bm < _; omega) (by show ¬(l ≤ bm ∧ bm < h); omega)).trans (hc5 bm _ hbm)).trans hm.1, ((g.cell (p := ⟨bm, 1, none⟩) (by show bm < _; omega) (by show ¬(l ≤ bm ∧ bm < h); omega)).trans (hc5 bm _ hbm)).trans (by have := hm.2.1; rwa [Nat.zero_add] at this), ((g.cell (p := ⟨bm, 2, none⟩) (by show bm < _; omega) (by show ¬(l ≤ bm ∧ bm < h); omega)).trans (hc5 bm _ hbm)).trans (by have := hm.2.2.1; rwa [Nat.zero_add] at this), ((g.cell (p := ⟨bm, 3, none⟩) (by show bm < _; omega) (by show ¬(l ≤ bm ∧ bm < h); omega)).trans (hc5 bm _ hbm)).trans (by have := hm.2.2.2; rwa [Nat.zero_add] at this)⟩ : w'.cell? ⟨b, o + 3, none⟩ = some (.slice y.ka y.ks.length y.kc) ∧ w'.cell? ⟨bi, 0, none⟩ = some (.int .i64 k) ∧ w'.cell? ⟨bm, 0, none⟩ = some (.bool m.lf) ∧ w'.cell? ⟨bm, 1, none⟩ = some (.slice m.pa m.ps.length m.pc) ∧ w'.cell? ⟨bm, 2, none⟩ = some (.slice m.ta m.ts.length m.tc) ∧ w'.cell? ⟨bm, 3, none⟩ = some (.slice m.ka m.ks.length m.kc))
   have g50 : Grew w5 w5.drew := (Grew.refl _).drew
   have HKB := Lib.hid (fun (q : Nat) (hq : zbn y.ka y.ks.length q) => zbo ho.1 q hq)
   have HST := Lib.hid (fun (w6 w7 : World) (x : NT) (g6 : Grew w w6) (hkp : Keeps (zbn y.ka y.ks.length) (w6.alloc (.cells x.cells4.toArray 26)) w7) => (⟨(hkp.cell (p := ⟨b, o + 3, none⟩) (by have := g6.size; simp; omega) (fun hq => hnb (zbo ho.1 _ hq))).trans (((g6.alloc _).cell (p := ⟨b, o + 3, none⟩) hbs).trans n3), (hkp.frozen (p := ⟨b, o + 3, none⟩) (by have := g6.size; simp; omega) (fun hq => hnb (zbo ho.1 _ hq))).trans (((g6.alloc _).frozen (p := ⟨b, o + 3, none⟩) hbs).trans (hf _))⟩ : w7.cell? ⟨b, o + 3, none⟩ = some (.slice y.ka y.ks.length y.kc) ∧ w7.frozen? ⟨b, o + 3, none⟩ = false))
   have FIN := Lib.hid (fun (w6 w7 : World) (x : NT) (ka : Option Addr) (kc : Nat) (g6 : Grew w w6) (hx : x.In w6 w.heap.size w6.heap.size) (hxe : Hid (x.er = m.er)) (hkp : Keeps (zbn y.ka y.ks.length) (w6.alloc (.cells x.cells4.toArray 26)) w7) (hrow : RowIn w7 l h ka (y.ks.length + 1) kc 4 (fun i' j => ((y.ks.take k ++ x :: y.ks.drop k).getD i' default).cell j) ∨ RowIn w7 (w6.alloc (.cells x.cells4.toArray 26)).heap.size w7.heap.size ka (y.ks.length + 1) kc 4 (fun i' j => ((y.ks.take k ++ x :: y.ks.drop k).getD i' default).cell j)) => (by
    have hl : (y.ks.take k ++ x :: y.ks.drop k).length = y.ks.length + 1 := by simp; omega
    have g6a := g6.alloc (.cells x.cells4.toArray 26)
    have z6 := g6a.size
    rw [← hl] at hrow ⊢
    refine how_kids (how := zae (k : Int) m.er) (B := B) hs ho.1 hlh hh hB hbs hnb g6a hkp (hrow.imp_right fun hh => hh.mono z6 (Nat.le_refl _)) HN.out (fun hold q hq => ?_) ?_
    ·rcases List.mem_append.1 hq with hq | hq
     ·exact .inl (hold q (List.mem_of_mem_take hq))
     ·rcases List.mem_cons.1 hq with rfl | hq
      ·right
       have hx2 := NT.In.grew hx (Grew.alloc1 w6 (.cells q.cells4.toArray 26)) (Nat.le_refl _)
       have hz := g6.size
       exact (hx2.agree (hkp.agree (by simp) (fun j h1 h2 hq2 => by have := zbo ho.1 j hq2; omega))).mono (Nat.le_refl _) (by have := hkp.size; simp at this; omega)
      ·exact .inl (hold q (List.mem_of_mem_drop hq))
    ·show _ = _
     rw [HF.out, NT.withKids_er, NT.er_ks, List.map_append, List.map_cons, List.map_take, List.map_drop, hxe.out, Int.toNat_natCast]
     : HowEnds (zae (k : Int) m.er) B y l h b o w (.returned (.int .i64 0)) (w7.setCell ⟨b, o + 3, none⟩ (.slice ka (y.ks.length + 1) kc))))
   have HWD := Lib.hid (fun (wa wb : World) (hkp : Keeps (zbn y.ka y.ks.length) wa wb) => (hkp.wider (fun k _ hq => zbo ho.1 k hq) : Keeps (fun k => l ≤ k ∧ k < h) wa wb))
   have k50 : Keeps (fun k => l ≤ k ∧ k < h) w5 w5.drew := g50.keeps _
   clear hc5 hi hm hok hs ho hr hf hnb g5 n0 n1 n2 n3 z5
   refine zcY (Keeps (fun k => l ≤ k ∧ k < h) w5) (fun j => j.blt 12) (by kernel_rfl) ?_
   refine zcQ (i := 0) (v := .pointer (some ⟨b, o, none⟩)) rfl (by kernel_rfl) (by kernel_rfl) (by kernel_rfl) (by kernel_rfl) (fun _ _ _ h => h) (Or.inl ⟨rfl, fun w' hS => by go_simp⟩) k50 ?_
   refine zcQ (i := 1) (v := .pointer (some ⟨b, o, none⟩)) rfl (by kernel_rfl) (by kernel_rfl) (by kernel_rfl) (by kernel_rfl) (fun _ _ _ h => h) (Or.inl ⟨rfl, fun w' hS => by go_simp⟩) k50 ?_
   refine zcQ (i := 2) (v := .pointer (some ⟨b, o, none⟩)) rfl (by kernel_rfl) (by kernel_rfl) (by kernel_rfl) (by kernel_rfl) (fun _ _ _ h => h) (Or.inl ⟨rfl, fun w' hS => by go_simp⟩) k50 ?_
   refine zcQ (i := 3) (v := .pointer (some ⟨b, o + 3, none⟩)) rfl (by kernel_rfl) (by kernel_rfl) (by kernel_rfl) (by kernel_rfl) (fun _ _ _ h => h) (Or.inl ⟨rfl, fun w' hS => by go_simp⟩) k50 ?_
   refine zcQ (i := 4) (v := .slice y.ka y.ks.length y.kc) rfl (by kernel_rfl) (by kernel_rfl) (by kernel_rfl) (by kernel_rfl) (fun _ _ _ h => h) (Or.inl ⟨rfl, fun w' hS => by obtain ⟨e1, e2, e3, e4, e5, e6⟩ := KB w' hS; go_simp⟩) k50 ?_
   refine zcQ (i := 5) (v := .int .i64 (k : Int)) rfl (by kernel_rfl) (by kernel_rfl) (by kernel_rfl) (by kernel_rfl) (fun _ _ _ h => h) (Or.inl ⟨rfl, fun w' hS => by obtain ⟨e1, e2, e3, e4, e5, e6⟩ := KB w' hS; go_simp⟩) k50 ?_
   refine zcQ (i := 6) (v := .agg #[.bool m.lf, .slice m.pa m.ps.length m.pc, .slice m.ta m.ts.length m.tc, .slice m.ka m.ks.length m.kc]) rfl (by kernel_rfl) (by kernel_rfl) (by kernel_rfl) (by kernel_rfl) (fun _ _ _ h => h) (Or.inl ⟨rfl, fun w' hS => by obtain ⟨e1, e2, e3, e4, e5, e6⟩ := KB w' hS; go_simp⟩) k50 ?_
   refine zcO (i := 7) (by kernel_rfl) rfl rfl ?_
   intro K' hK'
   go_wp2_with fail
   refine CP.out.mono ?_
   rintro e w6 ⟨x, rfl, g6, hx, hxe⟩
   unfold NT.val
   have g56 : Grew w5 w6 := g50.trans g6
   have hxI : x.In w6 w.heap.size w6.heap.size := hx.1.mono G5.out.size (Nat.le_refl _)
   have k56 : Keeps (fun k => l ≤ k ∧ k < h) w5 w6 := g56.keeps _
   refine hK' _ _ ⟨fun _ => k56, ?_⟩
   clear hK' K'
   refine zcO (i := 8) (by kernel_rfl) rfl rfl ?_
   intro K' hK'
   go_wp2_with fail
   refine ⟨fun _ => k56.trans ((Grew.alloc1 _ _).keeps _), ?_⟩
   refine zcO (i := 9) (by kernel_rfl) rfl rfl ?_
   intro K' hK'
   go_wp2_with fail
   refine (INS.out w6 x (G5.out.trans g56)).mono ?_
   rintro e w7 ⟨ka, kc, rfl, hkp, hrow⟩
   obtain ⟨c3, f3⟩ := HST.out w6 w7 x (G5.out.trans g56) hkp
   have k57 : Keeps (fun k => l ≤ k ∧ k < h) w5 w7 := (k56.trans ((Grew.alloc1 _ _).keeps _)).trans (HWD.out _ _ hkp)
   refine hK' _ _ ⟨fun _ => k57, ?_⟩
   clear hK' K'
   refine zcO (i := 10) (by kernel_rfl) rfl rfl ?_
   intro K' hK'
   go_wp2_with fail
   refine ⟨fun _ => k57, ?_⟩
   refine zcO (i := 11) (by kernel_rfl) rfl rfl ?_
   intro K' hK'
   go_wp2_with fail
   refine ⟨fun _ => k57, ?_⟩
   refine zcO (i := 12) (by kernel_rfl) rfl rfl ?_
   intro K' hK'
   go_wp2_with fail
   refine ⟨fun h => (by cases h), ?_⟩
   refine zcN (by kernel_rfl) ?_ _
   have HFIN := Lib.hid (FIN.out w6 w7 x ka kc (G5.out.trans g56) hxI hxe hkp hrow)
   clear hkp hrow hxI hxe hx c3 f3
   go_wp2_with fail
   go_ret
   exact HFIN.out
end Go.Proofs.YtbhbekocmpmjfaaGreatDoor
/- tree.Add: the contract. -/
namespace Go.Proofs.YtbhbekocmpmjfaaGreatDoor
open Go Go.RowKit
def addT (t : T) (p : List Int) (m : T) : T × Int := if p = [] then (T.mk false [] [] [], 6) else zaK t (p.take (p.length - 1)) (zae (p.getD (p.length - 1) 0) m)
set_option maxRecDepth 100000 in
set_option maxHeartbeats 4000000 in
theorem zcH (n m : NT) (pa : Option Addr) (pc : Nat) (p : List Int) (w : World) (hn : n.Ok w) (hb : n.er.bulk ≤ 1048576) (hm : m.Ok w) (hmb : m.er.bulk ≤ 1048576) (hp : IntsIn w 0 w.heap.size pa pc p) (hl : p.length ≤ 1048576) :
  Calls Tryz.prog 129 #[n.val, .slice pa p.length pc, m.val] w (zac (addT n.er p m.er) w) := by
 by_cases h0 : p = []
 ·subst h0
  rw [show addT n.er [] m.er = (T.mk false [] [] [], 6) from rfl]
  unfold NT.val
  clear hn hm hp hb hmb
  go_enter Tryz.func129, Tryz.ntmps129
  go_upto_region 1 with fail
  generalize hW : ((w.alloc _).alloc _).alloc _ = w1
  obtain ⟨g1, rN, rM, _, t6, z1⟩ := zar w n.cells4 m.cells4 NT.nil.cells4 _ _ _ w1 hW
  clear hW rN rM
  have HP := Lib.hid (zb7 (cs := NT.nil.cells4) t6)
  have HK := Lib.hid (zct (w.heap.size + 2) NT.nil.cells4 0 w1)
  have G1 := Lib.hid g1
  clear g1 z1
  go_wp2_with (refine wpList_store_mid rfl 26 (.tmp 6) (.tmp 13) rfl (w.heap.size + 2) 0 NT.nil.cells4.toArray rfl rfl t6 zbf (NT.cells4_all _) ?_; generalize hF : w1.setCells _ _ _ = w3; have r3 : w3.rangeAt (w.heap.size + 2) 0 NT.nil.cells4 := hF ▸ HP.out; have k3 : Keeps (· = w.heap.size + 2) w1 w3 := hF ▸ HK.out; clear hF HP HK)
  exact bodyPost_ret (v := .tuple #[NT.nil.val, .int .i64 6]) (zca Tryz.results129 _ w3 (w.heap.size + 2) 0 NT.nil.cells4 _ _ rfl rfl r3 Tryz.underlying26 rfl zbf) rfl ⟨NT.nil, rfl, G1.out.keep k3 (fun j hj => by rw [hj]; omega), NT.nil_in, by show _ = _; rw [NT.er_eq]; rfl⟩
 ·have hpos : 0 < p.length := by
   cases p with
   | nil => exact absurd rfl h0
   | cons => simp
  have htl : (p.take (p.length - 1)).length = p.length - 1 := by rw [List.length_take]; omega
  have CH := Lib.hid (fun (w1 : World) (bi : Nat) (hg : Grew w w1) (hbx : NodeAt w1 (w.heap.size + 1) 0 m) (hz : w.heap.size + 1 < w1.heap.size) (hi : w1.cell? ⟨bi, 0, none⟩ = some (.int .i64 (p.getD (p.length - 1) 0))) (hbi : bi < w1.heap.size) => (by
   have := changed_any n pa pc (p.take (p.length - 1)) 184 #[.pointer (some ⟨bi, 0, none⟩), .pointer (some ⟨w.heap.size + 1, 0, none⟩)] (zae (p.getD (p.length - 1) 0) m.er) w1 (NT.Ok.grew hn hg) hb (IntsIn.take ((hp.grew hg (Nat.le_refl _)).mono (Nat.le_refl _) hg.size) (by omega)) (by omega) (fun _ _ => rfl)
    (fun y l h b o w2 g2 h1 h2 h3 h4 h5 h6 h7 h8 h9 h10 h11 h12 => by
     have z2 := g2.size
     exact add1_any m y (p.getD (p.length - 1) 0) bi (w.heap.size + 1) l h b o (w1.heap.size + 2) w2 ((g2.cell (p := ⟨bi, 0, none⟩) hbi).trans hi) (by omega) (NodeAt.grew hbx g2 hz) (by omega) (NT.Ok.grew hm (hg.trans g2)) hmb h4 h5 h6 h2 h3 h1 (by
      have q1 := zas h7
      have q2 := y.lens
      omega) h8 h9 h11 h12 (by omega) (by omega))
   rw [htl] at this
   exact this))
  rw [show addT n.er p m.er = zaK n.er (p.take (p.length - 1)) (zae (p.getD (p.length - 1) 0) m.er) from if_neg h0]
  generalize zaK n.er (p.take (p.length - 1)) (zae (p.getD (p.length - 1) 0) m.er) = res at *
  obtain ⟨pb, po, rfl, _, hpb, hpc⟩ := hp.at (j := p.length - 1) (by omega)
  have t0 : ((p.length : Int) == 0) = false := beq_eq_false_iff_ne.2 (by omega)
  have hw1 : IntKind.i64.wrap ((p.length : Int) - 1) = (p.length : Int) - 1 := by rw [IntKind.wrap_i64]; omega
  have htn : ((p.length : Int) - 1).toNat = p.length - 1 := by omega
  have q1 : (0 : Int) ≤ (p.length : Int) - 1 := by omega
  have q2 : (p.length : Int) - 1 < p.length := by omega
  have q1b : (1 : Int) ≤ p.length := by omega
  have hcap := hp.1.2.1
  have q3 : (p.length : Int) - 1 ≤ pc := by omega
  generalize p.getD (p.length - 1) 0 = i at *
  unfold NT.val at *
  clear hn hm hp hcap htl h0
  go_enter Tryz.func129, Tryz.ntmps129
  go_upto_region 1 with fail
  generalize hW : ((w.alloc _).alloc _).alloc _ = w1
  obtain ⟨g1, rN, rM, _, t6, z1⟩ := zar w n.cells4 m.cells4 NT.nil.cells4 _ _ _ w1 hW
  clear hW
  have hpc1 : w1.cell? ⟨pb, po + (p.length - 1), none⟩ = some (.int .i64 i) := (g1.cell (p := ⟨pb, po + (p.length - 1), none⟩) hpb).trans hpc
  have G1 := Lib.hid g1
  have Z1 := Lib.hid z1
  have T6 := Lib.hid t6
  have RN := Lib.hid rN
  have RM := Lib.hid rM
  have zp : pb < w1.heap.size := by have := g1.size; omega
  clear rN rM g1 z1 t6 hpc hpb
  go_upto_region 3 with fail
  have KB := fun w' (g : Grew w1 w') => (g.cell (p := ⟨pb, po + (p.length - 1), none⟩) zp).trans hpc1
  have g10 : Grew w1 w1.drew := (Grew.refl _).drew
  clear hpc1
  go_region_held3 (fun w' => Grew w1 w') ((first | with_reducible exact g10 | with_reducible assumption | exact (Grew.alloc1 _ _).drew | exact ((Grew.alloc1 _ _).setCell (Nat.le_refl _) _).drew)) ((go_at_call 999999; skip))
  clear KB g10 q1 q2 q1b q3 hw1 htn t0
  have gB : Grew w1 (w1.alloc (.cells #[.int .i64 i] 3)).drew := (Grew.alloc1 _ _).drew
  have cB : (w1.alloc (.cells #[.int .i64 i] 3)).drew.cell? ⟨w1.heap.size, 0, none⟩ = some (.int .i64 i) := zao (Grew.refl (w1.alloc (.cells #[.int .i64 i] 3))) (j := 0) (v := .int .i64 i) rfl
  have zB : (w1.alloc (.cells #[.int .i64 i] 3)).drew.heap.size = w1.heap.size + 1 := by simp
  generalize (w1.alloc (.cells #[.int .i64 i] 3)).drew = w2 at *
  have z1 := Z1.out
  have CH2 := Lib.hid (CH.out w2 w1.heap.size (G1.out.trans gB) (NT.cells4_at.1 (zb5 RM.out gB (by omega))) (by omega) cB (by omega))
  obtain ⟨m0, m1, m2, m3⟩ := NT.cells4_at.1 (zb5 RN.out gB (by omega))
  rw [Nat.zero_add] at m1 m2 m3
  have t2 := zcE T6.out gB (by omega)
  have T2 := Lib.hid t2
  have G2 := Lib.hid (G1.out.trans gB)
  have Z2 := Lib.hid zB
  clear CH RM RN gB cB zB z1 zp t2
  go_wp2_with fail
  refine CH2.out.mono ?_
  rintro e w3 ⟨x, rfl, g3, hx, hxe⟩
  have z1 := Z1.out
  have z2 := Z2.out
  have z3 := g3.size
  have t3 : w3.there (w.heap.size + 2) 0 4 := zcE T2.out g3 (by omega)
  have HP := Lib.hid (zb7 (cs := x.cells4) t3)
  have HK := Lib.hid (zct (w.heap.size + 2) x.cells4 0 w3)
  have FIN := Lib.hid (fun w4 (k4 : Keeps (· = w.heap.size + 2) w3 w4) => zce (r := res) (bx := w.heap.size + 2) (by omega) (by omega) G2.out g3 hx hxe k4)
  clear m0 m1 m2 m3 hx hxe g3 z1 z2 z3
  go_wp2_with (refine wpList_store_mid rfl 26 (.tmp 6) (.tmp 29) rfl (w.heap.size + 2) 0 x.cells4.toArray rfl rfl t3 zbf (NT.cells4_all _) ?_; generalize hF : w3.setCells _ _ _ = w4; have r4 : w4.rangeAt (w.heap.size + 2) 0 x.cells4 := hF ▸ HP.out; have k4 : Keeps (· = w.heap.size + 2) w3 w4 := hF ▸ HK.out; clear hF HP HK)
  exact bodyPost_ret (v := .tuple #[x.val, .int .i64 res.2]) (zca Tryz.results129 _ w4 (w.heap.size + 2) 0 x.cells4 _ _ rfl rfl r4 Tryz.underlying26 rfl zbf) rfl (FIN.out w4 k4)
end Go.Proofs.YtbhbekocmpmjfaaGreatDoor
/- tree.Cut: the contract. -/
namespace Go.Proofs.YtbhbekocmpmjfaaGreatDoor
open Go Go.RowKit
def zaV (i : Nat) : How := fun y => .inl (.mk y.lf y.ps y.ts (y.ks.eraseIdx i))
theorem map_eraseIdx {α β : Type} (f : α → β) (L : List α) (i : Nat) : (L.eraseIdx i).map f = (L.map f).eraseIdx i := by
 rw [List.eraseIdx_eq_take_drop_succ, List.eraseIdx_eq_take_drop_succ]; simp
set_option maxRecDepth 100000 in
set_option maxHeartbeats 4000000 in
theorem cut1_any (y : NT) (k bi l h b o B : Nat) (w : World) (hi : w.cell? ⟨bi, 0, none⟩ = some (.int .i64 k)) (hbi : bi < w.heap.size) (hk : k < y.ks.length)
  (hs : y.Sep l h) (ho : y.Own w l h) (hr : y.Room w) (hlh : l ≤ h) (hh : h ≤ w.heap.size) (hB : B ≤ l) (hlen : y.ks.length ≤ 1048576) (hn : NodeAt w b o y) (hf : ∀ j, w.frozen? ⟨b, j, none⟩ = false) (hbs : b < w.heap.size) (hnb : ¬(l ≤ b ∧ b < h)) (hbil : bi < l) :
  Calls Tryz.prog 182 #[.pointer (some ⟨b, o, none⟩), .pointer (some ⟨bi, 0, none⟩)] w (HowEnds (zaV k) B y l h b o w) := by
 have HN := Lib.hid hn
 obtain ⟨n0, n1, n2, n3⟩ := hn
 have hw1 : IntKind.i64.wrap ((k : Int) + 1) = (k : Int) + 1 := by rw [IntKind.wrap_i64]; omega
 have gd : Grew w w.drew := (Grew.refl _).drew
 have DEL := Lib.hid (deleteKid_any y k l h w.drew (ho.grew gd hh) (hr.agree (gd.agree hh) ho.1) hh hk hlen)
 have KB := fun w' (g : Keeps (fun k => l ≤ k ∧ k < h) w w') => (⟨(g.cell (p := ⟨b, o + 3, none⟩) hbs hnb).trans n3, (g.cell (p := ⟨bi, 0, none⟩) hbi (by show ¬(l ≤ bi ∧ bi < h); omega)).trans hi⟩ : w'.cell? ⟨b, o + 3, none⟩ = some (.slice y.ka y.ks.length y.kc) ∧ w'.cell? ⟨bi, 0, none⟩ = some (.int .i64 k))
 have HST := Lib.hid (fun (w7 : World) (hkp : Keeps (zbn y.ka y.ks.length) w.drew w7) => (⟨(hkp.cell (p := ⟨b, o + 3, none⟩) hbs (fun hq => hnb (zbo ho.1 _ hq))).trans n3, (hkp.frozen (p := ⟨b, o + 3, none⟩) hbs (fun hq => hnb (zbo ho.1 _ hq))).trans (hf _)⟩ : w7.cell? ⟨b, o + 3, none⟩ = some (.slice y.ka y.ks.length y.kc) ∧ w7.frozen? ⟨b, o + 3, none⟩ = false))
 have HWD := Lib.hid (fun (wb : World) (hkp : Keeps (zbn y.ka y.ks.length) w.drew wb) => (hkp.wider (fun k _ hq => zbo ho.1 k hq) : Keeps (fun k => l ≤ k ∧ k < h) w.drew wb))
 have FIN := Lib.hid (fun (w7 : World) (ka : Option Addr) (kc : Nat) (hkp : Keeps (zbn y.ka y.ks.length) w.drew w7) (hrow : RowIn w7 l h ka (y.ks.length - 1) kc 4 (fun i' j => ((y.ks.eraseIdx k).getD i' default).cell j)) => (by
  have hl : (y.ks.eraseIdx k).length = y.ks.length - 1 := List.length_eraseIdx_of_lt hk
  rw [← hl] at hrow ⊢
  refine how_kids (how := zaV k) (B := B) hs ho.1 hlh hh hB hbs hnb gd hkp (.inl hrow) HN.out (fun hold q hq => .inl (hold q (List.mem_of_mem_eraseIdx hq))) ?_
  show _ = _
  rw [NT.withKids_er, map_eraseIdx]
  unfold zaV
  rw [NT.er_lf, NT.er_ps, NT.er_ts, NT.er_ks]
  : HowEnds (zaV k) B y l h b o w (.returned (.int .i64 0)) (w7.setCell ⟨b, o + 3, none⟩ (.slice ka (y.ks.length - 1) kc))))
 have k50 : Keeps (fun k => l ≤ k ∧ k < h) w w.drew := gd.keeps _
 clear hi hs ho hr hf hnb n0 n1 n2 n3 gd hbi hk hlh hh hB hlen hbs hbil
 go_enter Tryz.func182, Tryz.ntmps182
 go_upto_region 1 with fail
 refine zcY (Keeps (fun k => l ≤ k ∧ k < h) w) (fun j => j.blt 11) (by kernel_rfl) ?_
 refine zcQ (i := 0) (v := .pointer (some ⟨b, o, none⟩)) rfl (by kernel_rfl) (by kernel_rfl) (by kernel_rfl) (by kernel_rfl) (fun _ _ _ h => h) (Or.inl ⟨rfl, fun w' hS => by go_simp⟩) k50 ?_
 refine zcQ (i := 1) (v := .pointer (some ⟨b, o, none⟩)) rfl (by kernel_rfl) (by kernel_rfl) (by kernel_rfl) (by kernel_rfl) (fun _ _ _ h => h) (Or.inl ⟨rfl, fun w' hS => by go_simp⟩) k50 ?_
 refine zcQ (i := 2) (v := .pointer (some ⟨b, o, none⟩)) rfl (by kernel_rfl) (by kernel_rfl) (by kernel_rfl) (by kernel_rfl) (fun _ _ _ h => h) (Or.inl ⟨rfl, fun w' hS => by go_simp⟩) k50 ?_
 refine zcQ (i := 3) (v := .pointer (some ⟨b, o + 3, none⟩)) rfl (by kernel_rfl) (by kernel_rfl) (by kernel_rfl) (by kernel_rfl) (fun _ _ _ h => h) (Or.inl ⟨rfl, fun w' hS => by go_simp⟩) k50 ?_
 refine zcQ (i := 4) (v := .slice y.ka y.ks.length y.kc) rfl (by kernel_rfl) (by kernel_rfl) (by kernel_rfl) (by kernel_rfl) (fun _ _ _ h => h) (Or.inl ⟨rfl, fun w' hS => by obtain ⟨e1, e2⟩ := KB w' hS; go_simp⟩) k50 ?_
 refine zcQ (i := 5) (v := .int .i64 (k : Int)) rfl (by kernel_rfl) (by kernel_rfl) (by kernel_rfl) (by kernel_rfl) (fun _ _ _ h => h) (Or.inl ⟨rfl, fun w' hS => by obtain ⟨e1, e2⟩ := KB w' hS; go_simp⟩) k50 ?_
 refine zcQ (i := 6) (v := .int .i64 (k : Int)) rfl (by kernel_rfl) (by kernel_rfl) (by kernel_rfl) (by kernel_rfl) (fun _ _ _ h => h) (Or.inl ⟨rfl, fun w' hS => by obtain ⟨e1, e2⟩ := KB w' hS; go_simp⟩) k50 ?_
 refine zcQ (i := 7) (v := .int .i64 ((k : Int) + 1)) rfl (by kernel_rfl) (by kernel_rfl) (by kernel_rfl) (by kernel_rfl) (fun _ _ _ h => h) (Or.inl ⟨rfl, fun w' hS => by go_simp⟩) k50 ?_
 refine zcO (i := 8) (by kernel_rfl) rfl rfl ?_
 intro K' hK'
 go_wp2_with fail
 refine DEL.out.mono ?_
 rintro e w7 ⟨ka, kc, rfl, hkp, hrow⟩
 obtain ⟨c3, f3⟩ := HST.out w7 hkp
 have k57 : Keeps (fun k => l ≤ k ∧ k < h) w w7 := k50.trans (HWD.out _ hkp)
 refine hK' _ _ ⟨fun _ => k57, ?_⟩
 clear hK' K'
 refine zcO (i := 9) (by kernel_rfl) rfl rfl ?_
 intro K' hK'
 go_wp2_with fail
 refine ⟨fun _ => k57, ?_⟩
 refine zcO (i := 10) (by kernel_rfl) rfl rfl ?_
 intro K' hK'
 go_wp2_with fail
 refine ⟨fun _ => k57, ?_⟩
 refine zcO (i := 11) (by kernel_rfl) rfl rfl ?_
 intro K' hK'
 go_wp2_with fail
 refine ⟨fun h => (by cases h), ?_⟩
 refine zcN (by kernel_rfl) ?_ _
 have HFIN := Lib.hid (FIN.out w7 ka kc hkp hrow)
 clear hkp hrow c3 f3
 go_wp2_with fail
 go_ret
 exact HFIN.out
end Go.Proofs.YtbhbekocmpmjfaaGreatDoor
/- tree.Cut: the contract. -/
namespace Go.Proofs.YtbhbekocmpmjfaaGreatDoor
open Go Go.RowKit
theorem T.at_both (p q : List Int) : ∀ (t : T), t.at (p ++ q) = (t.at p).bind (·.at q) := by
 induction p with
 | nil => intro t; rfl
 | cons i r ih =>
  intro t
  rw [List.cons_append, T.at, T.at]
  split
  ·rfl
  ·exact ih _
theorem T.at_last {t x : T} {p : List Int} (hp : 0 < p.length) (h : t.at p = some x) : ∃ u, t.at (p.take (p.length - 1)) = some u ∧ 0 ≤ p.getD (p.length - 1) 0 ∧ p.getD (p.length - 1) 0 < u.ks.length := by
 have e : p = p.take (p.length - 1) ++ [p.getD (p.length - 1) 0] := by
  have h1 := List.take_append_drop (p.length - 1) p
  have h2 : p.drop (p.length - 1) = [p.getD (p.length - 1) 0] := by
   rw [List.drop_eq_getElem_cons (by omega), List.drop_of_length_le (by omega)]
   simp [List.getD, List.getElem?_eq_getElem (show p.length - 1 < p.length by omega)]
  rw [h2] at h1
  exact h1.symm
 generalize p.getD (p.length - 1) 0 = i at *
 generalize p.take (p.length - 1) = up at *
 rw [e, T.at_both] at h
 obtain ⟨u, hu, h⟩ := Option.bind_eq_some_iff.1 h
 refine ⟨u, hu, ?_⟩
 rw [T.at] at h
 split at h
 ·cases h
 ·rename_i hn
  omega
def T.nilT : T := .mk false [] [] []
def cutT (t : T) (p : List Int) : T × T × Int := if p = [] then (T.nilT, T.nilT, 6) else match t.at p with
 | none => (T.nilT, T.nilT, 5)
 | some k => ((zaK t (p.take (p.length - 1)) (zaV (p.getD (p.length - 1) 0).toNat)).1, k, (zaK t (p.take (p.length - 1)) (zaV (p.getD (p.length - 1) 0).toNat)).2)
def RetCut (r : T × T × Int) (w : World) (e : Ending) (w' : World) : Prop := ∃ x y : NT, e = .returned (.tuple #[x.val, y.val, .int .i64 r.2.2]) ∧ Grew w w' ∧ x.In w' w.heap.size w'.heap.size ∧ y.Own w' w.heap.size w'.heap.size ∧ Hid (x.er = r.1 ∧ y.er = r.2.1)
theorem zcb {P : Program} {fn : Func} {p q s : Tmp} {ty : TypeId} (h : fn.results = #[.cell p ty, .cell q ty, .tmp s]) (tmps : Array Value) (w : World) (b b2 : Nat) (cs ds : List Value) (d : TypeDesc) (v : Value)
  (hp : tmps.getD p undef = .pointer (some ⟨b, 0, none⟩)) (hq : tmps.getD q undef = .pointer (some ⟨b2, 0, none⟩)) (hs : tmps.getD s undef = v) (hc : w.rangeAt b 0 cs) (hd2 : w.rangeAt b2 0 ds) (hu : P.underlying ty = some d) (hd : d.isRow = true) (hi : (P.info? ty).map (·.size) = some cs.length) (hi2 : (P.info? ty).map (·.size) = some ds.length) : (results fn tmps).run P w = .ok (.tuple #[.agg cs.toArray, .agg ds.toArray, v]) w := by
 have hp' : tmps[p]?.getD undef = .pointer (some ⟨b, 0, none⟩) := by simpa using hp
 have hq' : tmps[q]?.getD undef = .pointer (some ⟨b2, 0, none⟩) := by simpa using hq
 have hs' : tmps[s]?.getD undef = v := by simpa using hs
 simp [results, h, hp', hq', hs', asAddr, run_loadVar_mid w b 0 ty cs d hc hu hd hi, run_loadVar_mid w b2 0 ty ds d hd2 hu hd hi2]
theorem zbD : NT.nil.er = T.nilT := by rw [NT.er_eq]; rfl
theorem put_two {w : World} {b1 b2 : Nat} (hne : b1 ≠ b2) (t1 : w.there b1 0 4) (t2 : w.there b2 0 4) (x y : NT) : ((w.setCells b1 0 x.cells4).setCells b2 0 y.cells4).rangeAt b1 0 x.cells4 ∧ ((w.setCells b1 0 x.cells4).setCells b2 0 y.cells4).rangeAt b2 0 y.cells4 ∧ (w.setCells b1 0 x.cells4).there b2 0 4 ∧ Keeps (fun k => k = b1 ∨ k = b2) w ((w.setCells b1 0 x.cells4).setCells b2 0 y.cells4) := by
 have h1 := zb7 (cs := x.cells4) t1
 have h2 : (w.setCells b1 0 x.cells4).there b2 0 4 := World.there_setCells t2 b1 0 x.cells4
 refine ⟨fun j v hj => ?_, zb7 (cs := y.cells4) h2, h2, ((zct b1 x.cells4 0 w).wider (fun k _ hk => Or.inl hk)).trans ((zct b2 y.cells4 0 _).wider (fun k _ hk => Or.inr hk))⟩
 rw [World.cell?_setCells_out b2 y.cells4 0 _ ⟨b1, 0 + j, none⟩ (fun h _ => absurd (show b1 = b2 from h) hne)]
 exact h1 j v hj
set_option maxRecDepth 100000 in
set_option maxHeartbeats 4000000 in
theorem treeCutNil_any (n : NT) (pa : Option Addr) (pc : Nat) (w : World) :
  Calls Tryz.prog 128 #[n.val, .slice pa 0 pc] w (RetCut (T.nilT, T.nilT, 6) w) := by
 unfold NT.val
 go_enter Tryz.func128, Tryz.ntmps128
 go_upto_region 1 with fail
 generalize hW : ((w.alloc _).alloc _).alloc _ = w1
 have hW2 := hW
 obtain ⟨g1, rN, rM, _, t6, z1⟩ := zar w n.cells4 NT.nil.cells4 NT.nil.cells4 _ _ _ w1 hW
 have t5 : w1.there (w.heap.size + 1) 0 4 := by
  rw [← hW2]
  have := there_new (w := w.alloc (.cells n.cells4.toArray 26)) (cs := NT.nil.cells4.toArray) (t := 26) (Grew.alloc1 _ (.cells NT.nil.cells4.toArray 26))
  rw [World.size_alloc] at this
  exact this
 clear hW hW2 rN rM
 obtain ⟨r1, r2, t62, k12⟩ := put_two (by omega) t5 t6 NT.nil NT.nil
 have G1 := Lib.hid g1
 have HH := Lib.hid (fun (wa wb : World) (ha : w1.setCells (w.heap.size + 1) 0 NT.nil.cells4 = wa) (hb : wa.setCells (w.heap.size + 2) 0 NT.nil.cells4 = wb) => (by
  subst ha hb
  exact ⟨r1, r2, k12⟩ : wb.rangeAt (w.heap.size + 1) 0 NT.nil.cells4 ∧ wb.rangeAt (w.heap.size + 2) 0 NT.nil.cells4 ∧ Keeps (fun k => k = w.heap.size + 1 ∨ k = w.heap.size + 2) w1 wb))
 have HT := Lib.hid t62
 clear g1 z1 r1 r2 k12 t62
 go_wp2_with (first | (refine wpList_store_mid rfl 26 (.tmp 4) (.tmp 12) rfl (w.heap.size + 1) 0 NT.nil.cells4.toArray rfl rfl t5 zbf (NT.cells4_all _) ?_; generalize hA : w1.setCells _ _ _ = wa; have ta : wa.there (w.heap.size + 2) 0 4 := hA ▸ HT.out; clear HT; have HA := Lib.hid hA; clear hA) | (refine wpList_store_mid rfl 26 (.tmp 5) (.tmp 13) rfl (w.heap.size + 2) 0 NT.nil.cells4.toArray rfl rfl ta zbf (NT.cells4_all _) ?_; generalize hB : wa.setCells _ _ _ = wb; obtain ⟨ra, rb, kb⟩ := HH.out wa wb HA.out hB; clear hB HH HA))
 exact bodyPost_ret (v := .tuple #[NT.nil.val, NT.nil.val, .int .i64 6]) (zcb Tryz.results128 _ _ (w.heap.size + 1) (w.heap.size + 2) NT.nil.cells4 NT.nil.cells4 _ _ rfl rfl rfl ra rb Tryz.underlying26 rfl zbf zbf) rfl ⟨NT.nil, NT.nil, rfl, G1.out.keep kb (fun j hj => by rcases hj with hj | hj <;> (rw [hj]; omega)), NT.nil_in, nil_own, zbD, zbD⟩
end Go.Proofs.YtbhbekocmpmjfaaGreatDoor
