/- tree.Add, tree.Cut: the contracts. -/
import Derived.Test.YtbhbekocmpmjfaaGreatDoorK08
import Derived.Test.YtbhbekocmpmjfaaGreatDoorK03
import Derived.Test.YtbhbekocmpmjfaaGreatDoorK02
import Derived.Deep.QuietTactic
import Derived.BigQuiet
import Derived.Deep.RegionWith
namespace Go.Proofs.YtbhbekocmpmjfaaGreatDoor
open Go Go.RowKit

def addHow (i : Int) (m : T) : How := fun y => if y.lf = true then .inr 7 else if i < 0 ∨ (y.ks.length : Int) < i then .inr 8 else .inl (.mk y.lf y.ps y.ts (y.ks.take i.toNat ++ m :: y.ks.drop i.toNat))
def NT.withKids (y : NT) (ka : Option Addr) (kc : Nat) (ks : List NT) : NT := .mk y.lf y.pa y.pc y.ps y.ta y.tc y.ts ka kc ks
theorem NT.withKids_er (y : NT) (ka : Option Addr) (kc : Nat) (ks : List NT) : (y.withKids ka kc ks).er = .mk y.lf y.ps y.ts (ks.map NT.er) := by
  rw [NT.withKids, NT.er_eq]; rfl
/-- the Kids' field is written -/
theorem nodeAt_kids {w : World} {b o : Nat} {y : NT} {ka : Option Addr} {kc : Nat} {ks : List NT} (h : NodeAt w b o y) : NodeAt (w.setCell ⟨b, o + 3, none⟩ (.slice ka ks.length kc)) b o (y.withKids ka kc ks) ∧ (∀ q, (q < o ∨ o + 4 ≤ q) → (w.setCell ⟨b, o + 3, none⟩ (.slice ka ks.length kc)).cell? ⟨b, q, none⟩ = w.cell? ⟨b, q, none⟩) := by
  obtain ⟨h0, h1, h2, h3⟩ := h
  refine ⟨⟨?_, ?_, ?_, ?_⟩, fun q hq => cell_ne (by omega)⟩
  · rw [cell_ne (by omega)]; exact h0
  · rw [cell_ne (by omega)]; exact h1
  · rw [cell_ne (by omega)]; exact h2
  · exact cell_same h3
/-- what a change of the Kids comes to -/
theorem how_kids {y : NT} {l h b o B : Nat} {how : How} {w w3 w4 : World} {ka : Option Addr} {kc : Nat} {ks : List NT} (hs : y.Sep l h) (hin : y.In w l h) (hlh : l ≤ h) (hh : h ≤ w.heap.size) (hB : B ≤ l) (hbs : b < w.heap.size) (hnb : ¬(l ≤ b ∧ b < h)) (g : Grew w w3) (hk : Keeps (kidsBlk y.ka y.ks.length) w3 w4)
    (hrow : RowIn w4 l h ka ks.length kc 4 (fun i' j => (ks.getD i' default).cell j) ∨ RowIn w4 w.heap.size w4.heap.size ka ks.length kc 4 (fun i' j => (ks.getD i' default).cell j)) (hn : NodeAt w b o y) (hks : (∀ k ∈ y.ks, k.In w4 l h) → ∀ k ∈ ks, k.In w4 l h ∨ k.In w4 w.heap.size w4.heap.size) (hhow : Hid (how y.er = .inl (y.withKids ka kc ks).er)) :
    HowEnds how B y l h b o w (.returned (.int .i64 0)) (w4.setCell ⟨b, o + 3, none⟩ (.slice ka ks.length kc)) := by
  have z3 := g.size
  have z4 := hk.size
  have hblk := kidsBlk_in hin
  have hin3 := NT.In.grew hin g hh
  obtain ⟨hp, ht, hkk⟩ := sep_parts hs hin3 (by omega) hk
  have hnk : ¬ kidsBlk y.ka y.ks.length b := fun hb => hnb (hblk b hb)
  have hc4 : ∀ q, w4.cell? ⟨b, q, none⟩ = w.cell? ⟨b, q, none⟩ := fun q => (hk.cell (p := ⟨b, q, none⟩) (by show b < _; omega) hnk).trans (g.cell (p := ⟨b, q, none⟩) hbs)
  have hn4 : NodeAt w4 b o y := by
    unfold NodeAt at hn ⊢
    simp only [hc4]
    exact hn
  obtain ⟨q1, q2⟩ := nodeAt_kids (ka := ka) (kc := kc) (ks := ks) hn4
  have k5 : Keeps (· = b) w4 (w4.setCell ⟨b, o + 3, none⟩ (.slice ka ks.length kc)) := (Keeps.refl _ _).own _ _
  refine ⟨?_, .inl ⟨y.withKids ka kc ks, rfl, q1, ?_, fun q hq => (q2 q hq).trans (hc4 q), hhow⟩⟩
  · refine Keeps.trans (g.keeps _) (Keeps.trans (hk.wider fun k _ hkb => Or.inr (hblk k hkb)) (k5.wider fun k _ hkb => Or.inl hkb))
  · have hag : ∀ lo hi, hi ≤ w4.heap.size → (∀ k, lo ≤ k → k < hi → k ≠ b) → Agree lo hi w4 (w4.setCell ⟨b, o + 3, none⟩ (.slice ka ks.length kc)) := fun lo hi h1 h2 => k5.agree h1 (fun k k1 k2 hkb => h2 k k1 k2 hkb)
    have z5 := k5.size
    have hagA := hag l h (by omega) (fun k k1 k2 => by omega)
    have hagB := hag w.heap.size w4.heap.size (Nat.le_refl _) (fun k k1 k2 => by omega)
    refine NT.In_iff.2 ⟨?_, ?_, ?_, fun k hk' => ?_⟩
    · exact (hp.agree hagA).mono hB (by omega)
    · exact (ht.agree hagA).mono hB (by omega)
    · rcases hrow with hr | hr
      · exact (RowIn.agree hr hagA).mono hB (by omega)
      · exact (RowIn.agree hr hagB).mono (by omega) (by omega)
    · rcases hks hkk k hk' with hr | hr
      · exact (hr.agree hagA).mono hB (by omega)
      · exact (hr.agree hagB).mono (by omega) (by omega)
set_option maxRecDepth 100000 in
set_option maxHeartbeats 4000000 in
theorem add1_any (m y : NT) (i : Int) (bi bm l h b o B : Nat) (w : World) (hi : w.cell? ⟨bi, 0, none⟩ = some (.int .i64 i)) (hbi : bi < w.heap.size) (hm : NodeAt w bm 0 m) (hbm : bm < w.heap.size) (hok : m.Ok w) (hb : m.er.bulk ≤ 1048576)
    (hs : y.Sep l h) (ho : y.Own w l h) (hr : y.Room w) (hlh : l ≤ h) (hh : h ≤ w.heap.size) (hB : B ≤ l) (hlen : y.ks.length ≤ 1048576) (hn : NodeAt w b o y) (hf : ∀ j, w.frozen? ⟨b, j, none⟩ = false) (hbs : b < w.heap.size) (hnb : ¬(l ≤ b ∧ b < h)) (hbil : bi < l) (hbml : bm < l) :
    Calls Tryz.prog 184 #[.pointer (some ⟨b, o, none⟩), .pointer (some ⟨bi, 0, none⟩), .pointer (some ⟨bm, 0, none⟩)] w (HowEnds (addHow i m.er) B y l h b o w) := by
  have HH : Hid (addHow i m.er y.er = if y.lf = true then .inr 7 else if i < 0 ∨ (y.ks.length : Int) < i then .inr 8 else .inl (.mk y.lf y.ps y.ts (y.er.ks.take i.toNat ++ m.er :: y.er.ks.drop i.toNat))) := by
    show _ = _
    unfold addHow
    simp only [NT.er_lf, NT.er_ps, NT.er_ts]
    rw [show y.er.ks.length = y.ks.length by rw [NT.er_ks, List.length_map]]
  have HN := Lib.hid hn
  obtain ⟨n0, n1, n2, n3⟩ := hn
  by_cases hlf : y.lf = true
  · have HF : Hid (addHow i m.er y.er = .inr 7) := by show _ = _; rw [HH.out, if_pos hlf]
    rw [hlf] at n0
    clear HH n1 n2 n3 hm hs ho hr hi
    go_enter Tryz.func184, Tryz.ntmps184
    go_wp2_with fail
    go_ret
    exact ⟨Keeps.refl _ _, .inr ⟨7, by omega, rfl, HF⟩⟩
  · have hlf' : y.lf = false := by simpa using hlf
    rw [hlf'] at n0
    by_cases hbad : i < 0 ∨ (y.ks.length : Int) < i
    · have HF : Hid (addHow i m.er y.er = .inr 8) := by show _ = _; rw [HH.out, if_neg hlf, if_pos hbad]
      have HB2 := Lib.hid hbad
      clear HH n1 n2 hm hs ho hr
      go_enter Tryz.func184, Tryz.ntmps184
      by_cases hneg : i < 0
      · have t1 : decide (i < 0) = true := by simpa using hneg
        clear hbad hneg
        go_wp2_with fail
        go_quiet (fail)
        go_wp2_with fail
        go_ret
        exact ⟨((Grew.refl w).drewN _).keeps _, .inr ⟨8, by omega, rfl, HF⟩⟩
      · have t1 : decide (i < 0) = false := by simpa using hneg
        have t2 : decide ((y.ks.length : Int) < i) = true := by
          have := HB2.out
          simp; omega
        clear hbad hneg
        go_wp2_with fail
        go_quiet (fail)
        go_wp2_with fail
        go_ret
        exact ⟨((Grew.refl w).drewN _).keeps _, .inr ⟨8, by omega, rfl, HF⟩⟩
    · have HF : Hid (addHow i m.er y.er = .inl (.mk y.lf y.ps y.ts (y.er.ks.take i.toNat ++ m.er :: y.er.ks.drop i.toNat))) := by show _ = _; rw [HH.out, if_neg hlf, if_neg hbad]
      obtain ⟨k, rfl⟩ : ∃ k : Nat, i = k := ⟨i.toNat, by omega⟩
      have hk : k ≤ y.ks.length := by omega
      have t1 : decide ((k : Int) < 0) = false := by simp
      have t2 : decide ((y.ks.length : Int) < k) = false := by simp; omega
      clear HH hbad
      go_enter Tryz.func184, Tryz.ntmps184
      go_wp2_with fail
      go_quiet (fail)
      go_upto_region 5 with fail
      generalize hW5 : w.drewN _ = w5 at *
      have g5 : Grew w w5 := by rw [← hW5]; exact (Grew.refl w).drewN _
      clear hW5
      have z5 := g5.size
      have CP := Lib.hid (copy_any m w5.drew (NT.Ok.grew hok (g5.drew)) hb)
      have INS := Lib.hid (fun (w6 : World) (x : NT) (g6 : Grew w w6) => insertKid_any y x k l h w6.heap.size (w6.alloc (.cells x.cells4.toArray 26)) (ho.grew (g6.alloc _) hh) (hr.agree ((g6.alloc _).agree hh) ho.1) hlh (by have := (g6.alloc (.cells x.cells4.toArray 26)).size; omega) hk hlen (heap_alloc_new w6 _) (by have := g6.size; omega))
      have G5 := Lib.hid g5
      have hc5 : ∀ x q, x < w.heap.size → w5.cell? ⟨x, q, none⟩ = w.cell? ⟨x, q, none⟩ := fun x q hx => g5.cell (p := ⟨x, q, none⟩) hx
      have KB := fun w' (g : Keeps (fun k => l ≤ k ∧ k < h) w5 w') => (⟨((g.cell (p := ⟨b, o + 3, none⟩) (by show b < _; omega) hnb).trans (hc5 b _ hbs)).trans n3, ((g.cell (p := ⟨bi, 0, none⟩) (by show bi < _; omega) (by show ¬(l ≤ bi ∧ bi < h); omega)).trans (hc5 bi _ hbi)).trans hi, ((g.cell (p := ⟨bm, 0, none⟩) (by show bm < _; omega) (by show ¬(l ≤ bm ∧ bm < h); omega)).trans (hc5 bm _ hbm)).trans hm.1, ((g.cell (p := ⟨bm, 1, none⟩) (by show bm < _; omega) (by show ¬(l ≤ bm ∧ bm < h); omega)).trans (hc5 bm _ hbm)).trans (by have := hm.2.1; rwa [Nat.zero_add] at this), ((g.cell (p := ⟨bm, 2, none⟩) (by show bm < _; omega) (by show ¬(l ≤ bm ∧ bm < h); omega)).trans (hc5 bm _ hbm)).trans (by have := hm.2.2.1; rwa [Nat.zero_add] at this), ((g.cell (p := ⟨bm, 3, none⟩) (by show bm < _; omega) (by show ¬(l ≤ bm ∧ bm < h); omega)).trans (hc5 bm _ hbm)).trans (by have := hm.2.2.2; rwa [Nat.zero_add] at this)⟩ : w'.cell? ⟨b, o + 3, none⟩ = some (.slice y.ka y.ks.length y.kc) ∧ w'.cell? ⟨bi, 0, none⟩ = some (.int .i64 k) ∧ w'.cell? ⟨bm, 0, none⟩ = some (.bool m.lf) ∧ w'.cell? ⟨bm, 1, none⟩ = some (.slice m.pa m.ps.length m.pc) ∧ w'.cell? ⟨bm, 2, none⟩ = some (.slice m.ta m.ts.length m.tc) ∧ w'.cell? ⟨bm, 3, none⟩ = some (.slice m.ka m.ks.length m.kc))
      have g50 : Grew w5 w5.drew := (Grew.refl _).drew
      have HKB := Lib.hid (fun (q : Nat) (hq : kidsBlk y.ka y.ks.length q) => kidsBlk_in ho.1 q hq)
      have HST := Lib.hid (fun (w6 w7 : World) (x : NT) (g6 : Grew w w6) (hkp : Keeps (kidsBlk y.ka y.ks.length) (w6.alloc (.cells x.cells4.toArray 26)) w7) => (⟨(hkp.cell (p := ⟨b, o + 3, none⟩) (by have := g6.size; simp; omega) (fun hq => hnb (kidsBlk_in ho.1 _ hq))).trans (((g6.alloc _).cell (p := ⟨b, o + 3, none⟩) hbs).trans n3), (hkp.frozen (p := ⟨b, o + 3, none⟩) (by have := g6.size; simp; omega) (fun hq => hnb (kidsBlk_in ho.1 _ hq))).trans (((g6.alloc _).frozen (p := ⟨b, o + 3, none⟩) hbs).trans (hf _))⟩ : w7.cell? ⟨b, o + 3, none⟩ = some (.slice y.ka y.ks.length y.kc) ∧ w7.frozen? ⟨b, o + 3, none⟩ = false))
      have FIN := Lib.hid (fun (w6 w7 : World) (x : NT) (ka : Option Addr) (kc : Nat) (g6 : Grew w w6) (hx : x.In w6 w.heap.size w6.heap.size) (hxe : Hid (x.er = m.er)) (hkp : Keeps (kidsBlk y.ka y.ks.length) (w6.alloc (.cells x.cells4.toArray 26)) w7) (hrow : RowIn w7 l h ka (y.ks.length + 1) kc 4 (fun i' j => ((y.ks.take k ++ x :: y.ks.drop k).getD i' default).cell j) ∨ RowIn w7 (w6.alloc (.cells x.cells4.toArray 26)).heap.size w7.heap.size ka (y.ks.length + 1) kc 4 (fun i' j => ((y.ks.take k ++ x :: y.ks.drop k).getD i' default).cell j)) => (by
        have hl : (y.ks.take k ++ x :: y.ks.drop k).length = y.ks.length + 1 := by simp; omega
        have g6a := g6.alloc (.cells x.cells4.toArray 26)
        have z6 := g6a.size
        rw [← hl] at hrow ⊢
        refine how_kids (how := addHow (k : Int) m.er) (B := B) hs ho.1 hlh hh hB hbs hnb g6a hkp (hrow.imp_right fun hh => hh.mono z6 (Nat.le_refl _)) HN.out (fun hold q hq => ?_) ?_
        · rcases List.mem_append.1 hq with hq | hq
          · exact .inl (hold q (List.mem_of_mem_take hq))
          · rcases List.mem_cons.1 hq with rfl | hq
            · right
              have hx2 := NT.In.grew hx (Grew.alloc1 w6 (.cells q.cells4.toArray 26)) (Nat.le_refl _)
              have hz := g6.size
              exact (hx2.agree (hkp.agree (by simp) (fun j h1 h2 hq2 => by have := kidsBlk_in ho.1 j hq2; omega))).mono (Nat.le_refl _) (by have := hkp.size; simp at this; omega)
            · exact .inl (hold q (List.mem_of_mem_drop hq))
        · show _ = _
          rw [HF.out, NT.withKids_er, NT.er_ks, List.map_append, List.map_cons, List.map_take, List.map_drop, hxe.out, Int.toNat_natCast]
          : HowEnds (addHow (k : Int) m.er) B y l h b o w (.returned (.int .i64 0)) (w7.setCell ⟨b, o + 3, none⟩ (.slice ka (y.ks.length + 1) kc))))
      have HWD := Lib.hid (fun (wa wb : World) (hkp : Keeps (kidsBlk y.ka y.ks.length) wa wb) => (hkp.wider (fun k _ hq => kidsBlk_in ho.1 k hq) : Keeps (fun k => l ≤ k ∧ k < h) wa wb))
      have k50 : Keeps (fun k => l ≤ k ∧ k < h) w5 w5.drew := g50.keeps _
      clear hc5 hi hm hok hs ho hr hf hnb g5 n0 n1 n2 n3 z5
      refine wp_region_need (Keeps (fun k => l ≤ k ∧ k < h) w5) (fun j => j.blt 12) (by kernel_rfl) ?_
      refine wpAnyN_take (i := 0) (v := .pointer (some ⟨b, o, none⟩)) rfl (by kernel_rfl) (by kernel_rfl) (by kernel_rfl) (by kernel_rfl) (fun _ _ _ h => h) (Or.inl ⟨rfl, fun w' hS => by go_simp⟩) k50 ?_
      refine wpAnyN_take (i := 1) (v := .pointer (some ⟨b, o, none⟩)) rfl (by kernel_rfl) (by kernel_rfl) (by kernel_rfl) (by kernel_rfl) (fun _ _ _ h => h) (Or.inl ⟨rfl, fun w' hS => by go_simp⟩) k50 ?_
      refine wpAnyN_take (i := 2) (v := .pointer (some ⟨b, o, none⟩)) rfl (by kernel_rfl) (by kernel_rfl) (by kernel_rfl) (by kernel_rfl) (fun _ _ _ h => h) (Or.inl ⟨rfl, fun w' hS => by go_simp⟩) k50 ?_
      refine wpAnyN_take (i := 3) (v := .pointer (some ⟨b, o + 3, none⟩)) rfl (by kernel_rfl) (by kernel_rfl) (by kernel_rfl) (by kernel_rfl) (fun _ _ _ h => h) (Or.inl ⟨rfl, fun w' hS => by go_simp⟩) k50 ?_
      refine wpAnyN_take (i := 4) (v := .slice y.ka y.ks.length y.kc) rfl (by kernel_rfl) (by kernel_rfl) (by kernel_rfl) (by kernel_rfl) (fun _ _ _ h => h) (Or.inl ⟨rfl, fun w' hS => by obtain ⟨e1, e2, e3, e4, e5, e6⟩ := KB w' hS; go_simp⟩) k50 ?_
      refine wpAnyN_take (i := 5) (v := .int .i64 (k : Int)) rfl (by kernel_rfl) (by kernel_rfl) (by kernel_rfl) (by kernel_rfl) (fun _ _ _ h => h) (Or.inl ⟨rfl, fun w' hS => by obtain ⟨e1, e2, e3, e4, e5, e6⟩ := KB w' hS; go_simp⟩) k50 ?_
      refine wpAnyN_take (i := 6) (v := .agg #[.bool m.lf, .slice m.pa m.ps.length m.pc, .slice m.ta m.ts.length m.tc, .slice m.ka m.ks.length m.kc]) rfl (by kernel_rfl) (by kernel_rfl) (by kernel_rfl) (by kernel_rfl) (fun _ _ _ h => h) (Or.inl ⟨rfl, fun w' hS => by obtain ⟨e1, e2, e3, e4, e5, e6⟩ := KB w' hS; go_simp⟩) k50 ?_
      refine wpAnyN_one (i := 7) (by kernel_rfl) rfl rfl ?_
      intro K' hK'
      go_wp2_with fail
      refine CP.out.mono ?_
      rintro e w6 ⟨x, rfl, g6, hx, hxe⟩
      unfold NT.val
      have g56 : Grew w5 w6 := g50.trans g6
      have hxI : x.In w6 w.heap.size w6.heap.size := hx.1.mono G5.out.size (Nat.le_refl _)
      have k56 : Keeps (fun k => l ≤ k ∧ k < h) w5 w6 := g56.keeps _
      refine hK' _ _ ⟨fun _ => k56, ?_⟩
      clear hK' K'
      refine wpAnyN_one (i := 8) (by kernel_rfl) rfl rfl ?_
      intro K' hK'
      go_wp2_with fail
      refine ⟨fun _ => k56.trans ((Grew.alloc1 _ _).keeps _), ?_⟩
      refine wpAnyN_one (i := 9) (by kernel_rfl) rfl rfl ?_
      intro K' hK'
      go_wp2_with fail
      refine (INS.out w6 x (G5.out.trans g56)).mono ?_
      rintro e w7 ⟨ka, kc, rfl, hkp, hrow⟩
      obtain ⟨c3, f3⟩ := HST.out w6 w7 x (G5.out.trans g56) hkp
      have k57 : Keeps (fun k => l ≤ k ∧ k < h) w5 w7 := (k56.trans ((Grew.alloc1 _ _).keeps _)).trans (HWD.out _ _ hkp)
      refine hK' _ _ ⟨fun _ => k57, ?_⟩
      clear hK' K'
      refine wpAnyN_one (i := 10) (by kernel_rfl) rfl rfl ?_
      intro K' hK'
      go_wp2_with fail
      refine ⟨fun _ => k57, ?_⟩
      refine wpAnyN_one (i := 11) (by kernel_rfl) rfl rfl ?_
      intro K' hK'
      go_wp2_with fail
      refine ⟨fun _ => k57, ?_⟩
      refine wpAnyN_one (i := 12) (by kernel_rfl) rfl rfl ?_
      intro K' hK'
      go_wp2_with fail
      refine ⟨fun h => (by cases h), ?_⟩
      refine wpAnyN_done (by kernel_rfl) ?_ _
      have HFIN := Lib.hid (FIN.out w6 w7 x ka kc (G5.out.trans g56) hxI hxe hkp hrow)
      clear hkp hrow hxI hxe hx c3 f3
      go_wp2_with fail
      go_ret
      exact HFIN.out
end Go.Proofs.YtbhbekocmpmjfaaGreatDoor
/- redlineref02.Copy, With, Same, Parent, Next: the contracts. -/
namespace Go.Proofs.YtbhbekocmpmjfaaGreatDoor
open Go Go.RowKit

set_option maxHeartbeats 400000 in
theorem same02_any (a b : Option Addr) (c d : Nat) (xs ys : List Int) (w : World) (lo hi lo' hi' : Nat) (hx : IntsIn w lo hi a c xs) (hy : IntsIn w lo' hi' b d ys) (hl : xs.length ≤ 1048576) (hl2 : ys.length ≤ 1048576) (hh : hi ≤ w.heap.size) (hh' : hi' ≤ w.heap.size) :
    Calls Tryz.prog 96 #[.slice a xs.length c, .slice b ys.length d] w fun e w' => e = .returned (.bool (decide (xs = ys))) ∧ Grew w w' := by
  by_cases hne : xs.length = ys.length
  · have heq : ((xs.length : Int) != ys.length) = false := by simp [hne]
    have HL := Lib.hid hne
    have hle : xs.length ≤ ys.length := by omega
    clear hne
    go_enter Tryz.func96, Tryz.ntmps96
    go_wp2_with fail
    go_loopw [13] (fun i wr => ∃ (k : Nat), k ≤ xs.length ∧ i = .int .i64 k ∧ Grew w wr ∧ xs.take k = ys.take k) (fun i _ => xs.length - (intOf i).toNat)
    case atStart => exact ⟨0, by omega, rfl, Grew.refl _, by simp⟩
    case round =>
      obtain ⟨k, hk1, rfl, hg, he⟩ := hrel
      have HE := Lib.hid he
      clear he
      by_cases hlt : k < xs.length
      · obtain ⟨b1, o1, rfl, _, _, hc1⟩ := (hx.grew hg hh).at hlt
        obtain ⟨b2, o2, rfl, _, _, hc2⟩ := (hy.grew hg hh').at (j := k) (by omega)
        have hy1 : (k : Int) < (ys.length : Int) := by omega
        by_cases hxy : xs.getD k 0 = ys.getD k 0
        · have ht : (xs.getD k 0 != ys.getD k 0) = false := by rw [hxy]; simp
          have HX : Hid (xs.take (k + 1) = ys.take (k + 1)) := by
            show _ = _
            rw [take_next0 xs k hlt, take_next0 ys k (by omega), HE.out, hxy]
          clear hxy
          generalize xs.getD k 0 = p at *
          generalize ys.getD k 0 = q at *
          go_wp2_with fail
          go_quiet (fail)
          go_wp2_with fail
          go_roundw
          case rel => exact ⟨k + 1, by omega, by go_num, hg.drewN _, HX.out⟩
          case measure => simp [intOf]; omega
        · have ht : (xs.getD k 0 != ys.getD k 0) = true := by simpa using hxy
          have hne := ne_of_getD hxy
          have HN : Hid (decide (xs = ys) = false) := by show _ = _; simp [hne]
          clear hxy hne
          generalize xs.getD k 0 = p at *
          generalize ys.getD k 0 = q at *
          go_wp2_with fail
          go_quiet (fail)
          go_wp2_with fail
          go_ret
          exact ⟨ret_bool (by rw [HN.out]), hg.drewN _⟩
      · have HN : Hid (decide (xs = ys) = true) := by
          show _ = _
          have := HE.out
          rw [List.take_of_length_le (by omega), List.take_of_length_le (by have := HL.out; omega)] at this
          simp [this]
        go_wp2_with fail
        go_ret
        exact ⟨ret_bool (by rw [HN.out]), hg⟩
  · have heq : ((xs.length : Int) != ys.length) = true := by simp; omega
    have HN : Hid (decide (xs = ys) = false) := by
      show _ = _
      simp only [decide_eq_false_iff_not]
      intro e; exact hne (by rw [e])
    clear hne
    go_enter Tryz.func96, Tryz.ntmps96
    go_wp2_with fail
    go_ret
    exact ⟨ret_bool (by rw [HN.out]), Grew.refl _⟩

/-- a path in new memory -/
def RetPath (l : List Int) (w : World) (e : Ending) (w' : World) : Prop := ∃ q : PN, e = .returned (.slice q.a q.l.length q.c) ∧ Grew w w' ∧ IntsIn w' w.heap.size w'.heap.size q.a q.c q.l ∧ Hid (q.l = l)
theorem retPath_own {l : List Int} {w w' : World} {e : Ending} {v : Value} (he : e = .returned v) (hg : Grew w w') (h : w'.ownsRow w.heap.size 3 1 v l.length (l.map (Value.int .i64))) : RetPath l w e w' := by
  obtain ⟨a, c, rfl, hi⟩ := intsIn_owned h
  exact ⟨⟨a, c, l⟩, he, hg, hi, rfl⟩
theorem clonePath_any (a : Option Addr) (c : Nat) (l : List Int) (w : World) (hr : IntsIn w 0 w.heap.size a c l) (hl : l.length ≤ 1048576) : Calls Tryz.prog 89 #[.slice a l.length c] w (RetPath l w) :=
  (cloneInts_any a c l w _ _ hr (Nat.le_refl _) hl).mono fun _ _ ⟨_, he, hg, ho⟩ => retPath_own he hg ho

theorem IntsIn.set {w : World} {lo hi b o c : Nat} {ts : List Int} (h : IntsIn w lo hi (some ⟨b, o, none⟩) c ts) {j : Nat} (hj : j < ts.length) (v : Int) : IntsIn (w.setCell ⟨b, o + j, none⟩ (.int .i64 v)) lo hi (some ⟨b, o, none⟩) c (ts.set j v) := by
  refine ⟨by simpa using h.1, fun hn => ?_⟩
  obtain ⟨b', o', hab, h1, h2, hc⟩ := h.2 (by omega)
  obtain ⟨rfl, rfl⟩ : b = b' ∧ o = o' := by injection hab with e; injection e with e1 e2; exact ⟨e1, e2⟩
  refine ⟨b, o, rfl, h1, h2, fun i hi j' hj' => ?_⟩
  obtain rfl : j' = 0 := by omega
  have hi2 : i < ts.length := by simpa using hi
  have h0 := hc i hi2 0 (by omega)
  rw [show o + i * 1 + 0 = o + i by omega] at h0 ⊢
  by_cases e : i = j
  · subst e
    rw [World.cell?_setCell_same _ _ _ h0]
    simp [List.getD, hi2]
  · rw [cell_ne (by omega), h0]
    simp [List.getD, Ne.symm e]
theorem IntsIn.cut {w : World} {lo hi : Nat} {a : Option Addr} {c : Nat} {ts us : List Int} (h : IntsIn w lo hi a c (ts ++ us)) (hn : 0 < (ts ++ us).length) : IntsIn w lo hi a c ts := by
  obtain ⟨b, o, rfl, h1, h2, hc⟩ := h.2 hn
  have hl := h.1
  simp only [List.length_append] at hl
  refine ⟨⟨by simp, by omega, hl.2.2⟩, fun _ => ⟨b, o, rfl, h1, h2, fun i hi j hj => ?_⟩⟩
  have := hc i (by rw [List.length_append]; omega) j hj
  simpa [List.getD, List.getElem?_append_left hi] using this
/-- the last number of a path, so much further, as Go adds -/
def lastUp (p : List Int) (d : Int) : List Int := p.set (p.length - 1) (wrap64 (p.getD (p.length - 1) 0 + d))
theorem lastUp_len (p : List Int) (d : Int) : (lastUp p d).length = p.length := by simp [lastUp]
theorem lastUp_snoc (p : List Int) (i d : Int) : lastUp (p ++ [i]) d = p ++ [wrap64 (i + d)] := by
  unfold lastUp
  rw [List.length_append, List.length_singleton, Nat.add_sub_cancel, List.set_append_right _ _ (Nat.le_refl _)]
  simp [List.getD]
theorem snoc_of {p : List Int} (h : 0 < p.length) : ∃ q i, p = q ++ [i] := ⟨p.dropLast, p.getLast (by intro e; rw [e] at h; cases h), (List.dropLast_concat_getLast _).symm⟩
end Go.Proofs.YtbhbekocmpmjfaaGreatDoor
/- trail.Compare, Same, Above, redlineref02.Compare, Above, cmp.Compare[int]: the contracts; how paths are compared. -/
namespace Go.Proofs.YtbhbekocmpmjfaaGreatDoor
open Go Go.RowKit

def cmpI (x y : Int) : Int := if x < y then -1 else if y < x then 1 else 0
/-- how two paths are compared -/
def cmpP : List Int → List Int → Int
  | [], [] => 0
  | [], _ :: _ => -1
  | _ :: _, [] => 1
  | a :: x, b :: y => if a < b then -1 else if b < a then 1 else cmpP x y
theorem cmpI_zero {x y : Int} : cmpI x y = 0 ↔ x = y := by
  unfold cmpI
  split
  · constructor
    · intro h; cases h
    · intro h; omega
  · split
    · constructor
      · intro h; cases h
      · intro h; omega
    · constructor
      · intro _; omega
      · intro _; rfl
theorem cmpP_zero {x y : List Int} : cmpP x y = 0 ↔ x = y := by
  induction x generalizing y with
  | nil => cases y <;> simp [cmpP]
  | cons a x ih =>
    cases y with
    | nil => simp [cmpP]
    | cons b y =>
      unfold cmpP
      split
      · simp; omega
      · split
        · simp; omega
        · rw [ih, List.cons.injEq]
          exact ⟨fun h => ⟨by omega, h⟩, fun h => h.2⟩
theorem cmpP_drop {xs ys : List Int} {k : Nat} (h1 : k < xs.length) (h2 : k < ys.length) : cmpP (xs.drop k) (ys.drop k) = if xs.getD k 0 < ys.getD k 0 then -1 else if ys.getD k 0 < xs.getD k 0 then 1 else cmpP (xs.drop (k + 1)) (ys.drop (k + 1)) := by
  rw [List.drop_eq_getElem_cons h1, List.drop_eq_getElem_cons h2, cmpP]
  simp [List.getD, h1, h2]
theorem cmpP_end {xs ys : List Int} {k : Nat} (h1 : xs.length ≤ k) : cmpP (xs.drop k) (ys.drop k) = if k < ys.length then -1 else 0 := by
  rw [List.drop_of_length_le h1]
  split
  · rename_i h
    rw [List.drop_eq_getElem_cons h]; rfl
  · rw [List.drop_of_length_le (by omega)]; rfl
theorem cmpP_more {xs ys : List Int} {k : Nat} (h1 : k < xs.length) (h2 : ys.length ≤ k) : cmpP (xs.drop k) (ys.drop k) = 1 := by
  rw [List.drop_eq_getElem_cons h1, List.drop_of_length_le h2]; rfl

theorem isNaN_any (x : Int) (w : World) : Calls Tryz.prog 212 #[.int .i64 x] w fun e w' => e = .returned (.bool false) ∧ w = w' := by
  go_enter Tryz.func212, Tryz.ntmps212
  go_wp2_with fail
  go_ret
  exact ⟨by simp, rfl⟩
theorem cmpInt_any (x y : Int) (w : World) : Calls Tryz.prog 177 #[.int .i64 x, .int .i64 y] w fun e w' => e = .returned (.int .i64 (cmpI x y)) ∧ w = w' := by
  have HC : Hid (cmpI x y = if x < y then -1 else if y < x then 1 else 0) := rfl
  generalize cmpI x y = c at *
  go_enter Tryz.func177, Tryz.ntmps177
  go_wp2_with fail
  refine (isNaN_any x w).mono ?_
  rintro e w' ⟨rfl, rfl⟩
  go_wp2_with fail
  refine (isNaN_any y w).mono ?_
  rintro e w' ⟨rfl, rfl⟩
  by_cases h1 : x < y
  · have HX : Hid (c = -1) := by show _ = _; rw [HC.out, if_pos h1]
    go_wp2_with fail
    go_ret
    exact ⟨ret_int (by rw [HX.out]), rfl⟩
  · by_cases h2 : y < x
    · have HX : Hid (c = 1) := by show _ = _; rw [HC.out, if_neg h1, if_pos h2]
      go_wp2_with fail
      go_ret
      exact ⟨ret_int (by rw [HX.out]), rfl⟩
    · have HX : Hid (c = 0) := by show _ = _; rw [HC.out, if_neg h1, if_neg h2]
      go_wp2_with fail
      go_ret
      exact ⟨ret_int (by rw [HX.out]), rfl⟩

set_option maxRecDepth 100000 in
set_option maxHeartbeats 1000000 in
theorem cmpInts_any (a b : Option Addr) (c d : Nat) (xs ys : List Int) (w : World) (lo hi lo' hi' : Nat) (hx : IntsIn w lo hi a c xs) (hy : IntsIn w lo' hi' b d ys) (hl : xs.length ≤ 1048576) (hl2 : ys.length ≤ 1048576) :
    Calls Tryz.prog 211 #[.slice a xs.length c, .slice b ys.length d] w fun e w' => e = .returned (.int .i64 (cmpP xs ys)) ∧ w = w' := by
  go_enter Tryz.func211, Tryz.ntmps211
  go_wp2_with fail
  go_loop [11] (fun i => ∃ (k : Nat), k ≤ xs.length ∧ k ≤ ys.length ∧ i = .int .i64 k ∧ cmpP xs ys = cmpP (xs.drop k) (ys.drop k)) (fun i => xs.length - (intOf i).toNat)
  case atStart => exact ⟨0, by omega, by omega, rfl, by simp⟩
  case round =>
    obtain ⟨k, hk, hk2, rfl, he⟩ := hrel
    have HE := Lib.hid he
    clear he
    by_cases hlt : k < xs.length
    · obtain ⟨b1, o1, rfl, _, _, hc1⟩ := hx.at hlt
      by_cases hlt2 : k < ys.length
      · obtain ⟨b2, o2, rfl, _, _, hc2⟩ := hy.at hlt2
        have ht : decide ((ys.length : Int) ≤ (k : Int)) = false := by simp; omega
        have HS := Lib.hid (cmpP_drop hlt hlt2)
        have HI : Hid (cmpI (xs.getD k 0) (ys.getD k 0) = if xs.getD k 0 < ys.getD k 0 then -1 else if ys.getD k 0 < xs.getD k 0 then 1 else 0) := rfl
        generalize xs.getD k 0 = p at *
        generalize ys.getD k 0 = q at *
        go_wp2_with fail
        refine (cmpInt_any p q w).mono ?_
        rintro e w' ⟨rfl, rfl⟩
        by_cases h1 : p < q
        · have HX : Hid (cmpP xs ys = -1) := by show _ = _; rw [HE.out, HS.out, if_pos h1]
          rw [HI.out, if_pos h1]
          go_wp2_with fail
          go_ret
          exact ⟨ret_int (by rw [HX.out]), rfl⟩
        · by_cases h2 : q < p
          · have HX : Hid (cmpP xs ys = 1) := by show _ = _; rw [HE.out, HS.out, if_neg h1, if_pos h2]
            rw [HI.out, if_neg h1, if_pos h2]
            go_wp2_with fail
            go_ret
            exact ⟨ret_int (by rw [HX.out]), rfl⟩
          · have HX : Hid (cmpP xs ys = cmpP (xs.drop (k + 1)) (ys.drop (k + 1))) := by show _ = _; rw [HE.out, HS.out, if_neg h1, if_neg h2]
            rw [HI.out, if_neg h1, if_neg h2]
            go_wp2_with fail
            go_round
            case rel => exact ⟨k + 1, by omega, by omega, by go_num, HX.out⟩
            case measure => simp [intOf]; omega
      · have ht : decide ((ys.length : Int) ≤ (k : Int)) = true := by simp; omega
        have HX : Hid (cmpP xs ys = 1) := by show _ = _; rw [HE.out, cmpP_more hlt (by omega)]
        go_wp2_with fail
        go_ret
        exact ⟨ret_int (by rw [HX.out]), rfl⟩
    · by_cases hlt2 : xs.length < ys.length
      · have HX : Hid (cmpP xs ys = -1) := by show _ = _; rw [HE.out, cmpP_end (by omega), if_pos (by omega)]
        go_wp2_with fail
        go_ret
        exact ⟨ret_int (by rw [HX.out]), rfl⟩
      · have HX : Hid (cmpP xs ys = 0) := by show _ = _; rw [HE.out, cmpP_end (by omega), if_neg (by omega)]
        go_wp2_with fail
        go_ret
        exact ⟨ret_int (by rw [HX.out]), rfl⟩
theorem trailCmp_any (a b : Option Addr) (c d : Nat) (xs ys : List Int) (w : World) (lo hi lo' hi' : Nat) (hx : IntsIn w lo hi a c xs) (hy : IntsIn w lo' hi' b d ys) (hl : xs.length ≤ 1048576) (hl2 : ys.length ≤ 1048576) :
    Calls Tryz.prog 176 #[.slice a xs.length c, .slice b ys.length d] w fun e w' => e = .returned (.int .i64 (cmpP xs ys)) ∧ w = w' := by
  have C := Lib.hid (cmpInts_any a b c d xs ys w lo hi lo' hi' hx hy hl hl2)
  go_enter Tryz.func176, Tryz.ntmps176
  go_wp2_with fail
  refine C.out.mono ?_
  rintro e w' ⟨rfl, rfl⟩
  go_wp2_with fail
  go_ret
  exact ⟨rfl, rfl⟩
set_option maxRecDepth 100000 in
set_option maxHeartbeats 1000000 in
theorem eqInts_any (a b : Option Addr) (c d : Nat) (xs ys : List Int) (w : World) (lo hi lo' hi' : Nat) (hx : IntsIn w lo hi a c xs) (hy : IntsIn w lo' hi' b d ys) (hl : xs.length ≤ 1048576) (hl2 : ys.length ≤ 1048576) (hh : hi ≤ w.heap.size) (hh' : hi' ≤ w.heap.size) :
    Calls Tryz.prog 93 #[.slice a xs.length c, .slice b ys.length d] w fun e w' => e = .returned (.bool (decide (xs = ys))) ∧ Grew w w' := by
  by_cases hne : xs.length = ys.length
  · have heq : ((xs.length : Int) != ys.length) = false := by simp [hne]
    have HL := Lib.hid hne
    have hle : xs.length ≤ ys.length := by omega
    clear hne
    go_enter Tryz.func93, Tryz.ntmps93
    go_wp2_with fail
    go_loopw [13] (fun i wr => ∃ (k : Nat), k ≤ xs.length ∧ i = .int .i64 k ∧ Grew w wr ∧ xs.take k = ys.take k) (fun i _ => xs.length - (intOf i).toNat)
    case atStart => exact ⟨0, by omega, rfl, Grew.refl _, by simp⟩
    case round =>
      obtain ⟨k, hk1, rfl, hg, he⟩ := hrel
      have HE := Lib.hid he
      clear he
      by_cases hlt : k < xs.length
      · obtain ⟨b1, o1, rfl, _, _, hc1⟩ := (hx.grew hg hh).at hlt
        obtain ⟨b2, o2, rfl, _, _, hc2⟩ := (hy.grew hg hh').at (j := k) (by omega)
        have hy1 : (k : Int) < (ys.length : Int) := by omega
        by_cases hxy : xs.getD k 0 = ys.getD k 0
        · have ht : (xs.getD k 0 != ys.getD k 0) = false := by rw [hxy]; simp
          have HX : Hid (xs.take (k + 1) = ys.take (k + 1)) := by
            show _ = _
            rw [take_next0 xs k hlt, take_next0 ys k (by omega), HE.out, hxy]
          clear hxy
          generalize xs.getD k 0 = p at *
          generalize ys.getD k 0 = q at *
          go_wp2_with fail
          go_quiet (fail)
          go_wp2_with fail
          go_roundw
          case rel => exact ⟨k + 1, by omega, by go_num, hg.drewN _, HX.out⟩
          case measure => simp [intOf]; omega
        · have ht : (xs.getD k 0 != ys.getD k 0) = true := by simpa using hxy
          have hne := ne_of_getD hxy
          have HN : Hid (decide (xs = ys) = false) := by show _ = _; simp [hne]
          clear hxy hne
          generalize xs.getD k 0 = p at *
          generalize ys.getD k 0 = q at *
          go_wp2_with fail
          go_quiet (fail)
          go_wp2_with fail
          go_ret
          exact ⟨ret_bool (by rw [HN.out]), hg.drewN _⟩
      · have HN : Hid (decide (xs = ys) = true) := by
          show _ = _
          have := HE.out
          rw [List.take_of_length_le (by omega), List.take_of_length_le (by have := HL.out; omega)] at this
          simp [this]
        go_wp2_with fail
        go_ret
        exact ⟨ret_bool (by rw [HN.out]), hg⟩
  · have heq : ((xs.length : Int) != ys.length) = true := by simp; omega
    have HN : Hid (decide (xs = ys) = false) := by
      show _ = _
      simp only [decide_eq_false_iff_not]
      intro e; exact hne (by rw [e])
    clear hne
    go_enter Tryz.func93, Tryz.ntmps93
    go_wp2_with fail
    go_ret
    exact ⟨ret_bool (by rw [HN.out]), Grew.refl _⟩
theorem trailSame_any (a b : Option Addr) (c d : Nat) (xs ys : List Int) (w : World) (lo hi lo' hi' : Nat) (hx : IntsIn w lo hi a c xs) (hy : IntsIn w lo' hi' b d ys) (hl : xs.length ≤ 1048576) (hl2 : ys.length ≤ 1048576) (hh : hi ≤ w.heap.size) (hh' : hi' ≤ w.heap.size) :
    Calls Tryz.prog 28 #[.slice a xs.length c, .slice b ys.length d] w fun e w' => e = .returned (.bool (decide (xs = ys))) ∧ Grew w w' := by
  have C := Lib.hid (eqInts_any a b c d xs ys w lo hi lo' hi' hx hy hl hl2 hh hh')
  go_enter Tryz.func28, Tryz.ntmps28
  go_wp2_with fail
  refine C.out.mono ?_
  rintro e w' ⟨rfl, hg⟩
  go_wp2_with fail
  go_ret
  exact ⟨rfl, hg⟩
end Go.Proofs.YtbhbekocmpmjfaaGreatDoor
