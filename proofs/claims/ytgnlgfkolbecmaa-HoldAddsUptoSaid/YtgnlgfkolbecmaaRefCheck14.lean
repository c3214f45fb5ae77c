/- redlineref14.Check: the contract. -/
import Derived.Test.YtgnlgfkolbecmaaHoldCheck
import Derived.Test.YtgnlgfkolbecmaaRefsSame
import Derived.Test.YtgnlgfkolbecmaaBoxes
namespace Go.Proofs.Ytgnlgfkolbecmaa
open Go Go.RowKit

set_option maxRecDepth 100000 in
set_option maxHeartbeats 8000000 in
theorem refCheck14_any (n : NT) (r : RefL) (w : World) (hn : n.Ok w) (hb : n.er.bulk ≤ 1048576) (hr : r.In w 0 w.heap.size) (hs : r.er.Small) : Calls Try.prog 13 #[n.val, r.val] w fun e w' => e = .returned (.int .i64 (checkRef n.er r.er)) ∧ Grew w w' := by
  have SN := Lib.hid (fun w1 (hg : Grew w w1) => refPtSame_any r.pt PtL.nil w1 (hr.later hg).2.1 hs.2.1 ptNil_in (by simp [PtL.nil, PN.nil]))
  change Hid (∀ w1, Grew w w1 → Calls Try.prog 27 #[.agg #[.slice r.pt.p.a r.pt.p.l.length r.pt.p.c, .int .i64 r.pt.o], .agg #[.slice none 0 0, .int .i64 0]] w1 fun e w' => e = .returned (.bool (sameP r.pt.er PtE.nil)) ∧ Grew w1 w') at SN
  have SE := Lib.hid (fun w1 (hg : Grew w w1) => sameRange_any r.a r.f PtL.nil PtL.nil w1 (hr.later hg).2.2.1 (hr.later hg).2.2.2 ptNil_in ptNil_in hs.2.2.1 hs.2.2.2 (by simp [PtL.nil, PN.nil]) (by simp [PtL.nil, PN.nil]))
  change Hid (∀ w1, Grew w w1 → Calls Try.prog 28 #[.agg #[.slice r.a.p.a r.a.p.l.length r.a.p.c, .int .i64 r.a.o, .slice r.f.p.a r.f.p.l.length r.f.p.c, .int .i64 r.f.o], .agg #[.slice none 0 0, .int .i64 0, .slice none 0 0, .int .i64 0]] w1 fun e w' => e = .returned (.bool (emptyR r.a.er r.f.er)) ∧ Grew w1 w') at SE
  have MP := Lib.hid (fun w1 (hg : Grew w w1) => refGet05_any n r.path.a r.path.c r.path.l w1 (NT.Ok.grew hn hg) hb (hr.later hg).1 hs.1)
  have MQ := Lib.hid (fun w1 (hg : Grew w w1) => refPtCheck_any n r.pt w1 (NT.Ok.grew hn hg) hb (hr.later hg).2.1 hs.2.1)
  have MA := Lib.hid (fun w1 (hg : Grew w w1) => refPtCheck_any n r.a w1 (NT.Ok.grew hn hg) hb (hr.later hg).2.2.1 hs.2.2.1)
  have MF := Lib.hid (fun w1 (hg : Grew w w1) => refPtCheck_any n r.f w1 (NT.Ok.grew hn hg) hb (hr.later hg).2.2.2 hs.2.2.2)
  have HP : Hid (mayPath n.er r.er = match n.er.at r.path.l with | none => 5 | some _ => 0) := rfl
  have HR : Hid (mayRange n.er r.er = if checkPt n.er r.a.er ≠ 0 then checkPt n.er r.a.er else checkPt n.er r.f.er) := rfl
  have HC : Hid (checkRef n.er r.er = if refBad (refIs r.kind) (decide (r.aff < 0)) (decide (refMost r.kind < r.aff)) (r.kind == 1 || decide (r.path.l.length = 0)) (r.kind == 2 || sameP r.pt.er PtE.nil) (r.kind == 3 || emptyR r.a.er r.f.er) = true then 1 else (if r.kind = 1 then mayPath n.er r.er else if r.kind = 2 then checkPt n.er r.pt.er else mayRange n.er r.er)) := rfl
  generalize checkRef n.er r.er = res at *
  generalize mayPath n.er r.er = vp at *
  generalize checkPt n.er r.pt.er = vq at *
  generalize checkPt n.er r.a.er = va at *
  generalize checkPt n.er r.f.er = vf at *
  generalize mayRange n.er r.er = vr at *
  generalize sameP r.pt.er PtE.nil = bg at *
  generalize emptyR r.a.er r.f.er = bs at *
  have hpd : ((r.path.l.length : Int) == 0) = decide (r.path.l.length = 0) := by
    rw [Bool.eq_iff_iff]; simp
  clear hn hb hr hs
  unfold NT.val RefL.val at *
  go_enter Try.func13, Try.ntmps13
  go_upto_region 1 with fail
  generalize hW : (w.alloc _).alloc _ = w1
  obtain ⟨g1, rN, _, rR, _, z1⟩ := boxes2 w [.bool n.lf, .slice n.pa n.ps.length n.pc, .slice n.ta n.ts.length n.tc, .slice n.ka n.ks.length n.kc] r.cells _ _ w1 hW
  clear hW
  have KN := Lib.hid (fun (w' : World) (g : Grew w1 w') => (⟨rangeAt_at0 (rangeAt_grew rN g (by omega)) (j := 0) rfl, rangeAt_at0 (rangeAt_grew rN g (by omega)) (j := 1) rfl, rangeAt_at0 (rangeAt_grew rN g (by omega)) (j := 2) rfl, rangeAt_at0 (rangeAt_grew rN g (by omega)) (j := 3) rfl⟩ : w'.cell? ⟨w.heap.size, 0, none⟩ = some (.bool n.lf) ∧ w'.cell? ⟨w.heap.size, 1, none⟩ = some (.slice n.pa n.ps.length n.pc) ∧ w'.cell? ⟨w.heap.size, 2, none⟩ = some (.slice n.ta n.ts.length n.tc) ∧ w'.cell? ⟨w.heap.size, 3, none⟩ = some (.slice n.ka n.ks.length n.kc)))
  have KR := Lib.hid (fun (w' : World) (g : Grew w1 w') => (have h := rangeAt_grew rR g (by omega); ⟨rangeAt_at0 h (j := 1) rfl, rangeAt_at0 h (j := 2) rfl, rangeAt_at0 h (j := 4) rfl, rangeAt_at0 h (j := 5) rfl, rangeAt_at0 h (j := 6) rfl, rangeAt_at0 h (j := 7) rfl, rangeAt_at0 h (j := 8) rfl, rangeAt_at0 h (j := 9) rfl, rangeAt_at0 h (j := 10) rfl⟩ : w'.cell? ⟨w.heap.size + 1, 1, none⟩ = some (.int .i64 r.kind) ∧ w'.cell? ⟨w.heap.size + 1, 2, none⟩ = some (.int .i64 r.aff) ∧ w'.cell? ⟨w.heap.size + 1, 4, none⟩ = some (.slice r.path.a r.path.l.length r.path.c) ∧ w'.cell? ⟨w.heap.size + 1, 5, none⟩ = some (.slice r.pt.p.a r.pt.p.l.length r.pt.p.c) ∧ w'.cell? ⟨w.heap.size + 1, 6, none⟩ = some (.int .i64 r.pt.o) ∧ w'.cell? ⟨w.heap.size + 1, 7, none⟩ = some (.slice r.a.p.a r.a.p.l.length r.a.p.c) ∧ w'.cell? ⟨w.heap.size + 1, 8, none⟩ = some (.int .i64 r.a.o) ∧ w'.cell? ⟨w.heap.size + 1, 9, none⟩ = some (.slice r.f.p.a r.f.p.l.length r.f.p.c) ∧ w'.cell? ⟨w.heap.size + 1, 10, none⟩ = some (.int .i64 r.f.o)))
  have G1 := Lib.hid g1
  clear rN rR z1 g1
  obtain ⟨kk, hkk⟩ : ∃ kk, r.kind = kk := ⟨_, rfl⟩
  obtain ⟨bp, hbp⟩ : ∃ b, decide (r.path.l.length = 0) = b := ⟨_, rfl⟩
  rw [hbp] at hpd HC
  rw [hkk] at HC KR
  clear hkk hbp
  obtain ⟨c1, c2, c4, c5, c6, c7, c8, c9, c10⟩ := KR.out w1 (Grew.refl _)
  go_wp2_with fail
  refine (SN.out w1 G1.out).mono ?_
  rintro e w2 ⟨rfl, g2⟩
  clear c1 c2 c4 c5 c6 c7 c8 c9 c10
  obtain ⟨c1, c2, c4, c5, c6, c7, c8, c9, c10⟩ := KR.out w2 g2
  go_wp2_with fail
  refine (SE.out w2 (G1.out.trans g2)).mono ?_
  rintro e w3 ⟨rfl, g3⟩
  clear c1 c2 c4 c5 c6 c7 c8 c9 c10
  have g13 := g2.trans g3
  have G3 := Lib.hid (G1.out.trans g13)
  obtain ⟨c1, c2, c4, c5, c6, c7, c8, c9, c10⟩ := KR.out w3 g13
  obtain ⟨m0, m1, m2, m3⟩ := KN.out w3 g13
  by_cases k1 : kk = 1
  · subst k1
    by_cases h0 : r.aff = 0
    · have t0 : (r.aff != 0) = false := by simp [h0]
      have HC1 : Hid (res = if refBad true false false true bg bs = true then 1 else vp) := by
        show _ = _
        rw [HC.out, h0]; rfl
      clear h0
      cases bg with
      | false =>
        have HF : Hid (res = 1) := HC1.out
        go_wp2_with fail
        go_ret
        exact ⟨ret_int (by rw [HF.out]), G3.out⟩
      | true =>
        cases bs with
        | false =>
          have HF : Hid (res = 1) := HC1.out
          go_wp2_with fail
          go_ret
          exact ⟨ret_int (by rw [HF.out]), G3.out⟩
        | true =>
          have HF : Hid (res = vp) := HC1.out
          go_wp2_with fail
          refine (MP.out w3 G3.out).mono ?_
          rintro e w4 ⟨x, k, rfl, g4, hx, hE⟩
          have HN : Hid (res = k) := by
            show _ = _
            rw [HF.out, HP.out]
            rcases hE.out with ⟨h1, h2⟩ | ⟨h1, h2⟩
            · rw [h2, h1]
            · rw [h2, h1]
          have G4 := Lib.hid (G3.out.trans g4)
          clear hx hE HC HC1 HF
          unfold NT.val
          go_wp2_with fail
          go_ret
          exact ⟨ret_int (by rw [HN.out]), G4.out.trans (Grew.alloc1 _ _)⟩
    · have t0 : (r.aff != 0) = true := by simpa using h0
      have HF : Hid (res = 1) := by
        show _ = _
        have : (decide (r.aff < 0) || decide ((0 : Int) < r.aff)) = true := by simp; omega
        rw [HC.out, if_pos]
        show (!refIs 1 || (decide (r.aff < 0) || (decide (refMost 1 < r.aff) || _))) = true
        rw [show refMost 1 = 0 from rfl, ← Bool.or_assoc (decide (r.aff < 0)), this]; simp
      clear h0
      go_wp2_with fail
      go_ret
      exact ⟨ret_int (by rw [HF.out]), G3.out⟩
  · have n1 : (kk == 1) = false := by simpa using k1
    by_cases k2 : kk = 2
    · subst k2
      obtain ⟨bn, hbn⟩ : ∃ b : Bool, decide (r.aff < 0) = b := ⟨_, rfl⟩
      obtain ⟨bb, hbb⟩ : ∃ b : Bool, decide ((2 : Int) < r.aff) = b := ⟨_, rfl⟩
      have HC1 : Hid (res = if refBad true bn bb bp true bs = true then 1 else vq) := by
        show _ = _
        rw [HC.out, ← hbn, ← hbb]; rfl
      clear HC
      cases bn <;> cases bb <;> cases bp <;> cases bs
      case false.false.true.true =>
        have HF : Hid (res = vq) := HC1.out
        go_wp2_with fail
        refine (MQ.out w3 G3.out).mono ?_
        rintro e w4 ⟨rfl, g4⟩
        go_wp2_with fail
        go_ret
        exact ⟨ret_int (by rw [HF.out]), G3.out.trans g4⟩
      all_goals
        have HF : Hid (res = 1) := HC1.out
        go_wp2_with fail
        go_ret
        exact ⟨ret_int (by rw [HF.out]), G3.out⟩
    · have n2 : (kk == 2) = false := by simpa using k2
      by_cases k3 : kk = 3
      · subst k3
        obtain ⟨bn, hbn⟩ : ∃ b : Bool, decide (r.aff < 0) = b := ⟨_, rfl⟩
        obtain ⟨bb, hbb⟩ : ∃ b : Bool, decide ((4 : Int) < r.aff) = b := ⟨_, rfl⟩
        have HC1 : Hid (res = if refBad true bn bb bp bg true = true then 1 else vr) := by
          show _ = _
          rw [HC.out, ← hbn, ← hbb]; rfl
        clear HC
        cases bn <;> cases bb <;> cases bp <;> cases bg
        case false.false.true.true =>
          have HF : Hid (res = vr) := HC1.out
          go_wp2_with fail
          refine (MA.out w3 G3.out).mono ?_
          rintro e w4 ⟨rfl, g4⟩
          have g14 := g13.trans g4
          have G4 := Lib.hid (G3.out.trans g4)
          clear c1 c2 c4 c5 c6 c7 c8 c9 c10 m0 m1 m2 m3
          obtain ⟨c1, c2, c4, c5, c6, c7, c8, c9, c10⟩ := KR.out w4 g14
          obtain ⟨m0, m1, m2, m3⟩ := KN.out w4 g14
          by_cases h : va = 0
          · have ht : (va != 0) = false := by simp [h]
            have HN : Hid (res = vf) := by show _ = _; rw [HF.out, HR.out, if_neg (by simp [h])]
            clear h
            go_wp2_with fail
            refine (MF.out w4 G4.out).mono ?_
            rintro e w5 ⟨rfl, g5⟩
            go_wp2_with fail
            go_ret
            exact ⟨ret_int (by rw [HN.out]), G4.out.trans g5⟩
          · have ht : (va != 0) = true := by simpa using h
            have HN : Hid (res = va) := by show _ = _; rw [HF.out, HR.out, if_pos h]
            clear h
            go_wp2_with fail
            go_ret
            exact ⟨ret_int (by rw [HN.out]), G4.out⟩
        all_goals
          have HF : Hid (res = 1) := HC1.out
          go_wp2_with fail
          go_ret
          exact ⟨ret_int (by rw [HF.out]), G3.out⟩
      · have n3 : (kk == 3) = false := by simpa using k3
        have HF : Hid (res = 1) := by
          show _ = _
          rw [HC.out, if_pos]
          show (!(kk == 1 || (kk == 2 || kk == 3)) || _) = true
          rw [n1, n2, n3]; rfl
        clear HC k1 k2 k3
        go_wp2_with fail
        go_ret
        exact ⟨ret_int (by rw [HF.out]), G3.out⟩
end Go.Proofs.Ytgnlgfkolbecmaa
