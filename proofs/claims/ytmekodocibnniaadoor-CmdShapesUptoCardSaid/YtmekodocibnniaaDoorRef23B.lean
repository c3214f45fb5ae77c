/- redlineref23.Raise: the contract. -/
import Derived.Test.YtmekodocibnniaaDoorRef23A
import Derived.Laws.OwnMore
namespace Go.Proofs.YtmekodocibnniaaDoor
open Go Go.RowKit

/-- a literal of operations is an own row -/
theorem OpsB.lit {S : Nat → Prop} {w : World} {B : Nat} {L : List OpL} {n : Nat} (hn : L.length = n) (hB : B ≤ w.heap.size) (hl : n ≤ 1048576) (h : ∀ o ∈ L, Safe (fun j => j = w.heap.size ∨ S j) (w.alloc (.cells (L.flatMap OpL.cells).toArray 47)) (fun w => o.In w 0 w.heap.size)) :
    OpsB S B (w.alloc (.cells (L.flatMap OpL.cells).toArray 47)) (.slice (some ⟨w.heap.size, 0, none⟩) n n) L := by
  subst hn
  refine ⟨?_, fun o ho => (h o ho).less (fun k hk => hk.imp_left (fun hk => by
    have : some w.heap.size = some k := hk
    exact (Option.some.inj this).symm))⟩
  have := World.ownsRow_lit (e := 47) (size := 21) w (L.flatMap OpL.cells).toArray L.length hB (by unfold maxLen; omega) (by simp [flat_len OpL.cells_len])
  simpa using this
theorem raiseT_at {n x u : T} {up : List Int} {i : Int} (h : n.at (up ++ [i]) = some x) (hu : n.at up = some u) (h1 : 1 ≤ up.length) : raiseT n (up ++ [i]) = (raiseU u up i, 0) := by
  unfold raiseT raiseL
  rw [if_neg (by simp; omega), h]
  simp [hu]

set_option maxRecDepth 100000 in
set_option maxHeartbeats 4000000 in
theorem refRaise_any (n : NT) (pa : Option Addr) (pc : Nat) (p : List Int) (w : World) (hn : n.Ok w) (hb : n.er.bulk ≤ 1048576) (hp : IntsIn w 0 w.heap.size pa pc p) (hl : p.length ≤ 1048576) :
    Calls Tryd.prog 12 #[n.val, .slice pa p.length pc] w (RetOps (raiseT n.er p).1 (raiseT n.er p).2 w) := by
  have GT := Lib.hid (fun w1 (hg : Grew w w1) => refGet05_any n pa pc p w1 (NT.Ok.grew hn hg) hb ((hp.grew hg (Nat.le_refl _)).mono (Nat.le_refl _) hg.size) hl)
  have GQ := Lib.hid (fun w1 (hg : Grew w w1) qa qc q (hq : IntsIn w1 0 w1.heap.size qa qc q) (hql : q.length ≤ 1048576) => refGet05_any n qa qc q w1 (NT.Ok.grew hn hg) hb hq hql)
  unfold NT.val at GT GQ ⊢
  have hg1 := Grew.alloc1 w (.cells #[.bool n.lf, .slice n.pa n.ps.length n.pc, .slice n.ta n.ts.length n.tc, .slice n.ka n.ks.length n.kc] 26)
  have HB := Lib.hid (fun w1 (g : Grew (w.alloc (.cells #[.bool n.lf, .slice n.pa n.ps.length n.pc, .slice n.ta n.ts.length n.tc, .slice n.ka n.ks.length n.kc] 26)) w1) => box4 g)
  by_cases h0 : p.length < 2
  · have h0' : decide ((p.length : Int) < 2) = true := by simp; omega
    have HR : Hid (raiseT n.er p = ([], 6)) := by show _ = _; unfold raiseT; rw [if_pos h0]
    clear h0
    go_enter Tryd.func12, Tryd.ntmps12
    go_wp2_with fail
    go_ret2
    rw [HR.out]
    exact retOps_none rfl hg1
  · have h0' : decide ((p.length : Int) < 2) = false := by simp; omega
    have HP : Hid (2 ≤ p.length) := by show _ ≤ _; omega
    clear h0
    go_enter Tryd.func12, Tryd.ntmps12
    go_wp2_with fail
    refine (GT.out _ hg1).mono ?_
    generalize w.alloc (.cells #[.bool n.lf, .slice n.pa n.ps.length n.pc, .slice n.ta n.ts.length n.tc, .slice n.ka n.ks.length n.kc] 26) = w1 at *
    rintro e w2 ⟨x, k, rfl, g2, hx, hE⟩
    have HG2 := Lib.hid (hg1.trans g2)
    have HG12 := Lib.hid g2
    by_cases hk0 : k = 0
    · subst hk0
      have hat : n.er.at p = some x.er := by
        rcases hE.out with ⟨_, h⟩ | ⟨h, _⟩
        · exact h
        · exact absurd h (by decide)
      obtain ⟨up, i, hpu⟩ := snoc_of (show 0 < p.length by have := HP.out; omega)
      have hpl : p.length = up.length + 1 := by rw [hpu]; simp
      have hat' := hat
      have hp' := hp
      rw [hpu] at hat' hp'
      obtain ⟨u, hu, hi0, hi1⟩ := T.at_snoc hat'
      have hul1 : 1 ≤ up.length := by have := HP.out; omega
      obtain ⟨up2, i2, u2, hup2, _, hj0, hj1, hj2⟩ := at_last hu hb hul1
      have HN : Hid (nextT up = (lastUp up 1, 0)) := by
        show _ = _
        rw [hup2, nextT_snoc hj0 (by omega), lastUp_at hj0 (by omega) (by omega) (by omega)]
      have HR : Hid (raiseT n.er p = (raiseU u up i, 0)) := by show _ = _; rw [hpu]; exact raiseT_at hat' hu hul1
      obtain ⟨b, o, rfl, hci⟩ : ∃ b o, pa = some ⟨b, o, none⟩ ∧ ∀ w1, Grew w w1 → w1.cell? ⟨b, o + up.length, none⟩ = some (.int .i64 i) := by
        obtain ⟨b, o, h1, _, h3, hc⟩ := hp'.2 (by simp)
        refine ⟨b, o, h1, fun w1 hg => ?_⟩
        have := hc up.length (by simp) 0 (by omega)
        rw [hg.cell (by exact h3)]
        simpa [List.getD] using this
      have hul : up.length ≤ 1048576 := by omega
      have hub := bulk_at hu
      have huk := u.ks_len
      have HUB : Hid (u.bulk ≤ 1048576) := Nat.le_trans hub hb
      have PT := Lib.hid (fun w1 (hg : Grew w w1) => parent_any (some ⟨b, o, none⟩) pc up i w1 ((hp'.grew hg (Nat.le_refl _)).mono (Nat.le_refl _) hg.size) hul)
      have PT := Lib.hid (hpl ▸ PT.out : ∀ w1, Grew w w1 → Calls Tryd.prog 30 #[.slice (some ⟨b, o, none⟩) p.length pc] w1 (RetPathE up 0 w1))
      have HPU := Lib.hid hpu
      have hltp : (up.length : Int) < p.length := by omega
      have PP := Lib.hid (fun (w1 : World) (hg : Grew w w1) => ((hp.grew hg (Nat.le_refl _)).mono (Nat.le_refl _) hg.size : IntsIn w1 0 w1.heap.size (some ⟨b, o, none⟩) pc p))
      have HCI := Lib.hid hci
      have hiu : (u.ks.length : Int) ≤ 1048576 := by omega
      clear hE hat hat' hx hup2 hj0 hj1 hj2 GT hp hp' hci hub huk hpl hpu
      have g3 := Lib.hid (HG2.out.trans (Grew.alloc1 w2 (.cells #[.bool x.lf, .slice x.pa x.ps.length x.pc, .slice x.ta x.ts.length x.tc, .slice x.ka x.ks.length x.kc] 26)))
      have g23 := Lib.hid (HG12.out.trans (Grew.alloc1 w2 (.cells #[.bool x.lf, .slice x.pa x.ps.length x.pc, .slice x.ta x.ts.length x.tc, .slice x.ka x.ks.length x.kc] 26)))
      unfold NT.val
      go_wp2_with fail
      generalize w2.alloc (.cells #[.bool x.lf, .slice x.pa x.ps.length x.pc, .slice x.ta x.ts.length x.tc, .slice x.ka x.ks.length x.kc] 26) = w3 at *
      refine (PT.out w3 g3.out).mono ?_
      rintro e w4 ⟨⟨qa, qc, ql⟩, rfl, g4, hq, hqe⟩
      obtain rfl : ql = up := hqe.out
      have G4 := Lib.hid (g3.out.trans g4)
      clear hqe
      go_wp2_with fail
      refine (next_any qa qc ql w4 (hq.mono (Nat.zero_le _) (Nat.le_refl _)) hul).mono ?_
      rintro e w5 ⟨q2, rfl, g5, hq2, hq2e⟩
      rw [HN.out] at hq2e ⊢
      have G5 := Lib.hid (G4.out.trans g5)
      obtain ⟨b0, b1, b2, b3, _⟩ := HB.out w5 (g23.out.trans (g4.trans g5))
      have hq5 := Lib.hid ((hq.grew g5 (Nat.le_refl _)).mono (Nat.zero_le _) g5.size)
      have HQ2 := Lib.hid hq2
      clear hq hq2
      go_wp2_with fail
      refine (GQ.out w5 G5.out qa qc ql hq5.out hul).mono ?_
      rintro e w6 ⟨y, ke, rfl, g6, hy, hE⟩
      obtain ⟨rfl, hyu⟩ : ke = 0 ∧ y.er = u := by
        rcases hE.out with ⟨h1, h2⟩ | ⟨_, h2⟩
        · rw [hu] at h2
          exact ⟨h1, (Option.some.inj h2).symm⟩
        · rw [hu] at h2; cases h2
      have HYE := Lib.hid hyu
      have hmk : u.ks.length = y.ks.length := by rw [← hyu, NT.er_ks, List.length_map]
      rw [hmk] at hi1 hiu
      have HMK := Lib.hid hmk
      have G6 := Lib.hid (G5.out.trans g6)
      have HY := Lib.hid hy
      have hci6 := HCI.out _ (G6.out.trans (Grew.alloc1 w6 (.cells #[.bool y.lf, .slice y.pa y.ps.length y.pc, .slice y.ta y.ts.length y.tc, .slice y.ka y.ks.length y.kc] 26)))
      clear hyu hmk hE b0 b1 b2 b3 hu hy
      have G7 := Lib.hid (G6.out.trans (Grew.alloc1 w6 (.cells #[.bool y.lf, .slice y.pa y.ps.length y.pc, .slice y.ta y.ts.length y.tc, .slice y.ka y.ks.length y.kc] 26)))
      have HYB := Lib.hid (fun w1 (g : Grew (w6.alloc (.cells #[.bool y.lf, .slice y.pa y.ps.length y.pc, .slice y.ta y.ts.length y.tc, .slice y.ka y.ks.length y.kc] 26)) w1) => box4 g)
      have HYF := Lib.hid (fun w' (g : Grew (w6.alloc (.cells #[.bool y.lf, .slice y.pa y.ps.length y.pc, .slice y.ta y.ts.length y.tc, .slice y.ka y.ks.length y.kc] 26)) w') j => (g.frozen (p := ⟨w6.heap.size, j, none⟩) (by simp)).trans (World.frozen?_alloc_at _ _ _ _ rfl))
      have g67 := Lib.hid (Grew.alloc1 w6 (.cells #[.bool y.lf, .slice y.pa y.ps.length y.pc, .slice y.ta y.ts.length y.tc, .slice y.ka y.ks.length y.kc] 26))
      have g57 := Lib.hid (g6.trans g67.out)
      unfold NT.val
      go_upto_region 11 with fail
      have z67 : w6.heap.size < (w6.alloc (.cells #[.bool y.lf, .slice y.pa y.ps.length y.pc, .slice y.ta y.ts.length y.tc, .slice y.ka y.ks.length y.kc] 26)).heap.size := by simp
      generalize w6.alloc (.cells #[.bool y.lf, .slice y.pa y.ps.length y.pc, .slice y.ta y.ts.length y.tc, .slice y.ka y.ks.length y.kc] 26) = w7 at *
      have HQ2E : Hid (q2.l = lastUp ql 1) := hq2e.out
      have hpM := PP.out w7 G7.out
      have hq2M := (IntsIn.grew HQ2.out g57.out (Nat.le_refl _)).mono (Nat.zero_le _) g57.out.size
      have hqM := (IntsIn.grew hq5.out g57.out (Nat.le_refl _)).mono (Nat.le_refl _) g57.out.size
      have hyM : NT.In w7 0 w6.heap.size y := NT.In.grew (HY.out : NT.In w6 0 w6.heap.size y) g67.out (Nat.le_refl _)
      have HMV : Hid ((OpL.of 5 ⟨some ⟨b, o, none⟩, pc, p⟩ q2 0 NT.zero none 0 []).In w7 0 w7.heap.size) := OpL.of_in hpM hq2M NT.zero_in propsIn_nil
      have HPP : Hid (Grew w w7) := G7.out
      have HQM := Lib.hid hqM
      have HYM := Lib.hid hyM
      clear hq2e hpM hq2M hqM hyM g57 hci6
      obtain ⟨b0, b1, b2, b3, _⟩ := HYB.out w7 (Grew.refl _)
      by_cases c1 : i = (y.ks.length : Int) - 1
      · have t1 : (i == (y.ks.length : Int) - 1) = true := by simp [c1]
        go_upto_region 13 with fail
        by_cases c2 : y.ks.length = 1
        · have t2 : ((y.ks.length : Int) == 1) = true := by simp [c2]
          have HR1 : Hid (raiseT n.er p = ([OpE.of 5 (ql ++ [i]) (lastUp ql 1) 0 T.zero [], OpE.of 2 ql [] 0 (bareT u) []], 0)) := by
            show _ = _
            rw [HR.out]; unfold raiseU; rw [if_pos (by rw [HMK.out]; exact c2)]
          clear c1 c2 HR t1
          have hfr : w7.frozen? ⟨w6.heap.size, 3, none⟩ = false := HYF.out _ (Grew.refl _) 3
          go_upto_region 15 with fail
          have k8 : Keeps (· = w6.heap.size) w7 (w7.setCell ⟨w6.heap.size, 3, none⟩ (.slice none 0 0)) := (Keeps.refl _ _).own _ _
          have G68 : Grew w6 (w7.setCell ⟨w6.heap.size, 3, none⟩ (.slice none 0 0)) := g67.out.setCell (Nat.le_refl _) _
          have G8 : Grew w (w7.setCell ⟨w6.heap.size, 3, none⟩ (.slice none 0 0)) := HPP.out.keep k8 (fun j hj => by show _ ≤ j; rw [hj]; exact G6.out.size)
          have gA := Grew.alloc1 (w7.setCell ⟨w6.heap.size, 3, none⟩ (.slice none 0 0)) (.cells #[.int .i64 5, .slice (some ⟨b, o, none⟩) p.length pc, .slice q2.a q2.l.length q2.c, .int .i64 0, .bool false, .slice none 0 0, .slice none 0 0, .slice none 0 0, .slice none 0 0, .slice none 0 0, .slice none 0 0, .bool false, .slice none 0 0, .int .i64 0, .slice none 0 0, .int .i64 0, .bool false, .slice none 0 0, .int .i64 0, .slice none 0 0, .int .i64 0] 47)
          have KB : ((w7.setCell ⟨w6.heap.size, 3, none⟩ (.slice none 0 0)).alloc (.cells #[.int .i64 5, .slice (some ⟨b, o, none⟩) p.length pc, .slice q2.a q2.l.length q2.c, .int .i64 0, .bool false, .slice none 0 0, .slice none 0 0, .slice none 0 0, .slice none 0 0, .slice none 0 0, .slice none 0 0, .bool false, .slice none 0 0, .int .i64 0, .slice none 0 0, .int .i64 0, .bool false, .slice none 0 0, .int .i64 0, .slice none 0 0, .int .i64 0] 47)).cell? ⟨w6.heap.size, 0, none⟩ = some (.bool y.lf) ∧ ((w7.setCell ⟨w6.heap.size, 3, none⟩ (.slice none 0 0)).alloc (.cells #[.int .i64 5, .slice (some ⟨b, o, none⟩) p.length pc, .slice q2.a q2.l.length q2.c, .int .i64 0, .bool false, .slice none 0 0, .slice none 0 0, .slice none 0 0, .slice none 0 0, .slice none 0 0, .slice none 0 0, .bool false, .slice none 0 0, .int .i64 0, .slice none 0 0, .int .i64 0, .bool false, .slice none 0 0, .int .i64 0, .slice none 0 0, .int .i64 0] 47)).cell? ⟨w6.heap.size, 1, none⟩ = some (.slice y.pa y.ps.length y.pc) ∧ ((w7.setCell ⟨w6.heap.size, 3, none⟩ (.slice none 0 0)).alloc (.cells #[.int .i64 5, .slice (some ⟨b, o, none⟩) p.length pc, .slice q2.a q2.l.length q2.c, .int .i64 0, .bool false, .slice none 0 0, .slice none 0 0, .slice none 0 0, .slice none 0 0, .slice none 0 0, .slice none 0 0, .bool false, .slice none 0 0, .int .i64 0, .slice none 0 0, .int .i64 0, .bool false, .slice none 0 0, .int .i64 0, .slice none 0 0, .int .i64 0] 47)).cell? ⟨w6.heap.size, 2, none⟩ = some (.slice y.ta y.ts.length y.tc) ∧ ((w7.setCell ⟨w6.heap.size, 3, none⟩ (.slice none 0 0)).alloc (.cells #[.int .i64 5, .slice (some ⟨b, o, none⟩) p.length pc, .slice q2.a q2.l.length q2.c, .int .i64 0, .bool false, .slice none 0 0, .slice none 0 0, .slice none 0 0, .slice none 0 0, .slice none 0 0, .slice none 0 0, .bool false, .slice none 0 0, .int .i64 0, .slice none 0 0, .int .i64 0, .bool false, .slice none 0 0, .int .i64 0, .slice none 0 0, .int .i64 0] 47)).cell? ⟨w6.heap.size, 3, none⟩ = some (.slice none 0 0) := by
            have hz : w6.heap.size < (w7.setCell ⟨w6.heap.size, 3, none⟩ (.slice none 0 0)).heap.size := by simpa using z67
            refine ⟨(gA.cell (p := ⟨w6.heap.size, 0, none⟩) hz).trans ((cell_ne (by decide)).trans b0), (gA.cell (p := ⟨w6.heap.size, 1, none⟩) hz).trans ((cell_ne (by decide)).trans b1), (gA.cell (p := ⟨w6.heap.size, 2, none⟩) hz).trans ((cell_ne (by decide)).trans b2), (gA.cell (p := ⟨w6.heap.size, 3, none⟩) hz).trans (World.cell?_setCell_same _ _ _ b3)⟩
          have hag : ∀ lo hi, hi ≤ w7.heap.size → (∀ j, lo ≤ j → j < hi → j ≠ w6.heap.size) → Agree lo hi w7 (w7.setCell ⟨w6.heap.size, 3, none⟩ (.slice none 0 0)) := fun lo hi h1 h2 => k8.agree h1 h2
          have hB : OpsB Noth w.heap.size ((w7.setCell ⟨w6.heap.size, 3, none⟩ (.slice none 0 0)).alloc (.cells #[.int .i64 5, .slice (some ⟨b, o, none⟩) p.length pc, .slice q2.a q2.l.length q2.c, .int .i64 0, .bool false, .slice none 0 0, .slice none 0 0, .slice none 0 0, .slice none 0 0, .slice none 0 0, .slice none 0 0, .bool false, .slice none 0 0, .int .i64 0, .slice none 0 0, .int .i64 0, .bool false, .slice none 0 0, .int .i64 0, .slice none 0 0, .int .i64 0] 47)) (.slice (some ⟨w7.heap.size, 0, none⟩) 1 1) [(OpL.of 5 ⟨some ⟨b, o, none⟩, pc, p⟩ q2 0 NT.zero none 0 [])] := by
            have := OpsB.lit (S := Noth) (w := (w7.setCell ⟨w6.heap.size, 3, none⟩ (.slice none 0 0))) (B := w.heap.size) (L := [(OpL.of 5 ⟨some ⟨b, o, none⟩, pc, p⟩ q2 0 NT.zero none 0 [])]) (n := 1) rfl G8.size (by decide) (safe_one ((Safe.old (w := (w7.setCell ⟨w6.heap.size, 3, none⟩ (.slice none 0 0))) (fun j hj => by
              rcases hj with hj | hj
              · rw [hj]; exact Nat.le_refl _
              · exact hj.elim) (fun w' g => ?_)).grew gA))
            · rw [World.size_setCell] at this
              exact this
            · have hq2W : IntsIn w' 0 w'.heap.size q2.a q2.c q2.l := by
                have h7 : IntsIn w7 0 w6.heap.size q2.a q2.c q2.l := (IntsIn.grew HQ2.out (g6.trans g67.out) (Nat.le_refl _)).mono (Nat.zero_le _) g6.size
                exact ((h7.agree (hag 0 w6.heap.size (Nat.le_of_lt z67) (fun j h1 h2 => by omega))).grew g (by simp; omega)).mono (Nat.zero_le _) (by have := g.size; simp at this; omega)
              exact OpL.of_in (PP.out w' (G8.trans g)) hq2W NT.zero_in propsIn_nil
          have HX := Lib.hid KB
          clear KB b0 b1 b2 b3
          obtain ⟨c0, c1, c2, c3⟩ := HX.out
          have hqR : IntsIn (w7.setCell ⟨w6.heap.size, 3, none⟩ (.slice none 0 0)) 0 w6.heap.size qa qc ql := (((IntsIn.grew hq5.out (g6.trans g67.out) (Nat.le_refl _)).mono (Nat.le_refl _) g6.size).agree (hag 0 w6.heap.size (Nat.le_of_lt z67) (fun j h1 h2 => by omega)))
          have hyR : NT.In (w7.setCell ⟨w6.heap.size, 3, none⟩ (.slice none 0 0)) 0 w6.heap.size (.mk y.lf y.pa y.pc y.ps y.ta y.tc y.ts none 0 []) := by
            have h := NT.In_iff.1 (NT.In.agree HYM.out (hag 0 w6.heap.size (Nat.le_of_lt z67) (fun j h1 h2 => by omega)))
            exact NT.In_iff.2 ⟨h.1, h.2.1, kidsIn_nil⟩
          have z78 : w6.heap.size ≤ (w7.setCell ⟨w6.heap.size, 3, none⟩ (.slice none 0 0)).heap.size := by simp; omega
          have HM := Lib.hid (fun (w8 : World) (g8 : Grew (w7.setCell ⟨w6.heap.size, 3, none⟩ (.slice none 0 0)) w8) => safe_one (((Safe.old (O := fun j => ownOf (.slice (some ⟨w7.heap.size, 0, none⟩) 1 1) j ∨ Noth j) (w := (w7.setCell ⟨w6.heap.size, 3, none⟩ (.slice none 0 0))) (fun j hj => by
              rcases hj with hj | hj
              · have : some w7.heap.size = some j := hj
                rw [← Option.some.inj this]; simp
              · exact hj.elim) (fun w' g => OpL.of_in (kind := 2) (path := ⟨qa, qc, ql⟩) (dest := PN.nil) (pos := 0) ((hqR.grew g z78).mono (Nat.le_refl _) (Nat.le_trans z78 g.size)) (intsIn_nil : IntsIn w' 0 w'.heap.size PN.nil.a PN.nil.c PN.nil.l) ((NT.In.grew hyR g z78).mono (Nat.le_refl _) (Nat.le_trans z78 g.size)) propsIn_nil)).grew g8)))
          have HE9 : Hid (([(OpL.of 5 ⟨some ⟨b, o, none⟩, pc, p⟩ q2 0 NT.zero none 0 [])] ++ [(OpL.of 2 ⟨qa, qc, ql⟩ PN.nil 0 (.mk y.lf y.pa y.pc y.ps y.ta y.tc y.ts none 0 []) none 0 [])]).map OpL.er = [OpE.of 5 (ql ++ [i]) (lastUp ql 1) 0 T.zero [], OpE.of 2 ql [] 0 (bareT u) []]) := by
            show _ = _
            rw [List.map_append, List.map_cons, List.map_nil, List.map_cons, List.map_nil, OpL.of_er, OpL.of_er, NT.zero_er, HQ2E.out, ← HPU.out, ← HYE.out]
            simp [bareT, NT.er_eq, PN.nil]
          have GAZ := Lib.hid (G8.trans gA)
          have GA := Lib.hid gA
          have HO := Lib.hid hB.lt
          have HB := Lib.hid (fun (w8 : World) g => hB.grew (w' := w8) g)
          clear hB hag hqR hyR k8 G68 G8 gA hfr
          generalize ((w7.setCell ⟨w6.heap.size, 3, none⟩ (.slice none 0 0)).alloc (.cells #[.int .i64 5, .slice (some ⟨b, o, none⟩) p.length pc, .slice q2.a q2.l.length q2.c, .int .i64 0, .bool false, .slice none 0 0, .slice none 0 0, .slice none 0 0, .slice none 0 0, .slice none 0 0, .slice none 0 0, .bool false, .slice none 0 0, .int .i64 0, .slice none 0 0, .int .i64 0, .bool false, .slice none 0 0, .int .i64 0, .slice none 0 0, .int .i64 0] 47)) = w9 at *
          have z9 := GAZ.out.size
          go_wp2_with (at_builtin; go_loud (refine wpList_append_ops rfl (.tmp 64) (.tmp 68) rfl (some 69) rfl (.slice (some ⟨w7.heap.size, 0, none⟩) 1 1) [(OpL.of 5 ⟨some ⟨b, o, none⟩, pc, p⟩ q2 0 NT.zero none 0 [])] [(OpL.of 2 ⟨qa, qc, ql⟩ PN.nil 0 (.mk y.lf y.pa y.pc y.ps y.ta y.tc y.ts none 0 []) none 0 [])] rfl (HB.out _ (Grew.alloc1 _ _)) (some ⟨w9.heap.size, 0, none⟩) 1 _ _ rfl (opRow_new rfl (by simp)) (HM.out _ (GA.out.trans (Grew.alloc1 _ _))) (by simp) (by simp; omega) ?_); intro v' w10 hB' hk9)
          have HG9 := (GAZ.out.trans (Grew.alloc1 _ _)).own hk9 (fun j hj => (HO.out j hj).1)
          go_ret2
          rw [HR1.out]
          exact hB'.ret HG9 HE9
        · have t2 : ((y.ks.length : Int) == 1) = false := beq_eq_false_iff_ne.2 (by omega)
          have HR1 : Hid (raiseT n.er p = ([OpE.of 5 (ql ++ [i]) (lastUp ql 1) 0 T.zero []], 0)) := by
            show _ = _
            rw [HR.out]; unfold raiseU; rw [if_neg (by rw [HMK.out]; exact c2), if_neg (by omega), if_neg (by rw [HMK.out]; omega)]
          have HFIN := retOps_new (n := 1) (k := 0) (w := w) (w' := w7) (L := [(OpL.of 5 ⟨some ⟨b, o, none⟩, pc, p⟩ q2 0 NT.zero none 0 [])]) (l := [OpE.of 5 (ql ++ [i]) (lastUp ql 1) 0 T.zero []]) rfl (by decide) HPP.out (by
            intro r hr
            obtain rfl := List.mem_singleton.1 hr
            exact HMV.out) (by
            rw [List.map_cons, List.map_nil, OpL.of_er, NT.zero_er, HQ2E.out, ← HPU.out])
          clear c1 c2 HR
          go_wp2_with fail
          go_ret2
          rw [HR1.out]
          exact HFIN
      · have t1 : (i == (y.ks.length : Int) - 1) = false := beq_eq_false_iff_ne.2 c1
        by_cases c2 : i = 0
        · have t2 : (i == 0) = true := by simp [c2]
          have HR1 : Hid (raiseT n.er p = ([OpE.of 5 (ql ++ [i]) ql 0 T.zero []], 0)) := by
            show _ = _
            rw [HR.out]; unfold raiseU; rw [if_neg (by rw [HMK.out]; omega), if_pos c2]
          have HFIN := retOps_new (n := 1) (k := 0) (w := w) (w' := w7) (L := [(OpL.of 5 ⟨some ⟨b, o, none⟩, pc, p⟩ ⟨qa, qc, ql⟩ 0 NT.zero none 0 [])]) (l := [OpE.of 5 (ql ++ [i]) ql 0 T.zero []]) rfl (by decide) HPP.out (by
            intro r hr
            obtain rfl := List.mem_singleton.1 hr
            exact OpL.of_in (PP.out w7 HPP.out) HQM.out NT.zero_in propsIn_nil) (by
            rw [List.map_cons, List.map_nil, OpL.of_er, NT.zero_er, ← HPU.out])
          clear c1 c2 HR
          go_wp2_with fail
          go_ret2
          rw [HR1.out]
          exact HFIN
        · have t2 : (i == 0) = false := beq_eq_false_iff_ne.2 c2
          have HR1 : Hid (raiseT n.er p = ([OpE.of 4 ql [] (i + 1) T.zero u.ps, OpE.of 5 (ql ++ [i]) (lastUp ql 1) 0 T.zero []], 0)) := by
            show _ = _
            rw [HR.out]; unfold raiseU; rw [if_neg (by rw [HMK.out]; omega), if_neg c2, if_pos (by rw [HMK.out]; omega)]
          have hyp := (NT.In_iff.1 HYM.out).1
          have z67' : w6.heap.size ≤ w7.heap.size := Nat.le_of_lt z67
          have HFIN := retOps_new (n := 2) (k := 0) (w := w) (w' := w7) (L := [(OpL.of 4 ⟨qa, qc, ql⟩ PN.nil (i + 1) NT.zero y.pa y.pc y.ps), (OpL.of 5 ⟨some ⟨b, o, none⟩, pc, p⟩ q2 0 NT.zero none 0 [])]) (l := [OpE.of 4 ql [] (i + 1) T.zero u.ps, OpE.of 5 (ql ++ [i]) (lastUp ql 1) 0 T.zero []]) rfl (by decide) HPP.out (by
            intro r hr
            rcases List.mem_cons.1 hr with rfl | hr
            · exact OpL.of_in HQM.out intsIn_nil NT.zero_in (hyp.mono (Nat.le_refl _) z67')
            · obtain rfl := List.mem_singleton.1 hr
              exact HMV.out) (by
            rw [List.map_cons, List.map_cons, List.map_nil, OpL.of_er, OpL.of_er, NT.zero_er, HQ2E.out, ← HYE.out, NT.er_ps, ← HPU.out]
            rfl)
          clear c1 c2 HR hyp
          go_wp2_with fail
          go_ret2
          rw [HR1.out]
          exact HFIN
    · obtain ⟨rfl, hat⟩ : k = 5 ∧ n.er.at p = none := by
        rcases hE.out with ⟨h, _⟩ | h
        · exact absurd h hk0
        · exact h
      have HR : Hid (raiseT n.er p = ([], 5)) := by
        show _ = _
        unfold raiseT
        rw [if_neg (by have := HP.out; omega), hat]
      clear hE hk0 hat
      unfold NT.val
      go_wp2_with fail
      go_ret2
      rw [HR.out]
      exact retOps_none rfl (HG2.out.trans (Grew.alloc1 _ _))
end Go.Proofs.YtmekodocibnniaaDoor
