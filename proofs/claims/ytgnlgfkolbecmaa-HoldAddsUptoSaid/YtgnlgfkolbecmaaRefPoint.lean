/- redlineref07.Compare, Same, Copy, Check, CheckSel: the contracts. -/
import Derived.Test.YtgnlgfkolbecmaaPtCheck
import Derived.Test.YtgnlgfkolbecmaaOrder
import Derived.Test.YtgnlgfkolbecmaaGet05
namespace Go.Proofs.Ytgnlgfkolbecmaa
open Go Go.RowKit

theorem orT_two (x y : Int) : orT [x, y] = if x = 0 then y else x := by
  simp only [orT]
  by_cases h : x = 0
  · rw [if_pos h, if_pos h]
    by_cases h2 : y = 0
    · rw [if_pos h2, h2]
    · rw [if_neg h2]
  · rw [if_neg h, if_neg h]
theorem ptCmp_lt (a b : PtE) : ptCmp a b = if cmpP a.p b.p ≠ 0 then cmpP a.p b.p else if a.o < b.o then -1 else if b.o < a.o then 1 else 0 := by
  unfold ptCmp
  rw [orT_two]
  by_cases h : cmpP a.p b.p = 0
  · rw [if_pos h, if_neg (by simpa using h)]; rfl
  · rw [if_neg h, if_pos h]
set_option maxHeartbeats 1000000 in
theorem refPtSame_any (p q : PtL) (w : World) (hp : p.In w 0 w.heap.size) (hl : p.p.l.length ≤ 1048576) (hq : q.In w 0 w.heap.size) (hl2 : q.p.l.length ≤ 1048576) :
    Calls Try.prog 27 #[.agg #[.slice p.p.a p.p.l.length p.p.c, .int .i64 p.o], .agg #[.slice q.p.a q.p.l.length q.p.c, .int .i64 q.o]] w fun e w' => e = .returned (.bool (sameP p.er q.er)) ∧ Grew w w' := by
  have CT := Lib.hid (fun w1 (hg : Grew w w1) => same02_any p.p.a q.p.a p.p.c q.p.c p.p.l q.p.l w1 _ _ _ _ (hp.later hg) (hq.later hg) hl hl2 (Nat.le_refl _) (Nat.le_refl _))
  have HPE : Hid (sameP p.er q.er = (decide (p.p.l = q.p.l) && decide (p.o = q.o))) := rfl
  generalize decide (p.p.l = q.p.l) = x at *
  generalize sameP p.er q.er = r at *
  generalize p.p.l = l at *
  generalize q.p.l = m at *
  have gA := Grew.alloc1 w (.cells #[.slice p.p.a l.length p.p.c, .int .i64 p.o] 30)
  have gB := Grew.alloc1 (w.alloc (.cells #[.slice p.p.a l.length p.p.c, .int .i64 p.o] 30)) (.cells #[.slice q.p.a m.length q.p.c, .int .i64 q.o] 30)
  by_cases ho : p.o = q.o
  · have ht : (p.o == q.o) = true := by simp [ho]
    have HN : Hid (r = x) := by show _ = _; rw [HPE.out]; simp [ho]
    clear ho
    go_enter Try.func27, Try.ntmps27
    go_wp2_with fail
    refine (CT.out _ (gA.trans gB)).mono ?_
    rintro e w2 ⟨rfl, g2⟩
    go_wp2_with fail
    go_ret
    exact ⟨ret_bool (by rw [HN.out]), (gA.trans gB).trans g2⟩
  · have ht : (p.o == q.o) = false := by simpa using ho
    have HN : Hid (r = false) := by show _ = _; rw [HPE.out]; simp [ho]
    clear ho
    go_enter Try.func27, Try.ntmps27
    go_wp2_with fail
    go_ret
    exact ⟨ret_bool (by rw [HN.out]), (gA.trans gB)⟩
set_option maxHeartbeats 1000000 in
theorem refPtCheck_any (n : NT) (p : PtL) (w : World) (hn : n.Ok w) (hb : n.er.bulk ≤ 1048576) (hp : p.In w 0 w.heap.size) (hl : p.p.l.length ≤ 1048576) :
    Calls Try.prog 30 #[n.val, .agg #[.slice p.p.a p.p.l.length p.p.c, .int .i64 p.o]] w fun e w' => e = .returned (.int .i64 (checkPt n.er p.er)) ∧ Grew w w' := by
  have TG := Lib.hid (fun w1 (hg : Grew w w1) => refGet05_any n p.p.a p.p.c p.p.l w1 (NT.Ok.grew hn hg) hb (hp.later hg) hl)
  have HPE : Hid (p.er = ⟨p.p.l, p.o⟩) := rfl
  generalize p.er = pe at *
  generalize p.p.l = l at *
  unfold NT.val at TG ⊢
  have gA := Grew.alloc1 w (.cells #[.bool n.lf, .slice n.pa n.ps.length n.pc, .slice n.ta n.ts.length n.tc, .slice n.ka n.ks.length n.kc] 26)
  have gB := Grew.alloc1 (w.alloc (.cells #[.bool n.lf, .slice n.pa n.ps.length n.pc, .slice n.ta n.ts.length n.tc, .slice n.ka n.ks.length n.kc] 26)) (.cells #[.slice p.p.a l.length p.p.c, .int .i64 p.o] 30)
  have HB := Lib.hid (fun (w' : World) (g : Grew ((w.alloc (.cells #[.bool n.lf, .slice n.pa n.ps.length n.pc, .slice n.ta n.ts.length n.tc, .slice n.ka n.ks.length n.kc] 26)).alloc (.cells #[.slice p.p.a l.length p.p.c, .int .i64 p.o] 30)) w') => (box_at g (j := 1) (v := .int .i64 p.o) rfl))
  simp only [World.size_alloc] at HB
  go_enter Try.func30, Try.ntmps30
  go_wp2_with fail
  refine (TG.out _ (gA.trans gB)).mono ?_
  have g1 := gA.trans gB
  clear gA gB
  generalize (w.alloc (.cells #[.bool n.lf, .slice n.pa n.ps.length n.pc, .slice n.ta n.ts.length n.tc, .slice n.ka n.ks.length n.kc] 26)).alloc (.cells #[.slice p.p.a l.length p.p.c, .int .i64 p.o] 30) = w1 at *
  rintro e w2 ⟨x, k, rfl, g2, hx, hE⟩
  have G3 := Lib.hid ((g1.trans g2).trans (Grew.alloc1 w2 (.cells #[.bool x.lf, .slice x.pa x.ps.length x.pc, .slice x.ta x.ts.length x.tc, .slice x.ka x.ks.length x.kc] 26)))
  have h1 := HB.out _ (g2.trans (Grew.alloc1 w2 (.cells #[.bool x.lf, .slice x.pa x.ps.length x.pc, .slice x.ta x.ts.length x.tc, .slice x.ka x.ks.length x.kc] 26)))
  have htl : (x.ts.length : Int) ≤ 9223372036854775807 := by
    have := (NT.In_iff.1 hx).2.1.1.1.2
    unfold maxLen at this; omega
  clear hx
  by_cases hk0 : k = 0
  · subst hk0
    have hat : n.er.at l = some x.er := by
      rcases hE.out with ⟨_, h⟩ | ⟨h, _⟩
      · exact h
      · exact absurd h (by decide)
    have HC : Hid (checkPt n.er pe = if x.lf = false then 7 else if p.o < 0 ∨ (x.ts.length : Int) < p.o then 8 else 0) := by
      show _ = _
      rw [HPE.out, checkPt_of hat, NT.er_lf, NT.er_ts]
    clear hE hat
    unfold NT.val
    by_cases hlf : x.lf = false
    · have HN : Hid (checkPt n.er pe = 7) := by show _ = _; rw [HC.out, if_pos hlf]
      rw [hlf] at h1 G3 ⊢
      clear hlf
      go_wp2_with fail
      go_ret
      exact ⟨ret_int (by rw [HN.out]), G3.out⟩
    · have hlf' : x.lf = true := by simpa using hlf
      rw [hlf'] at h1 G3 ⊢
      by_cases ho : p.o < 0
      · have HN : Hid (checkPt n.er pe = 8) := by show _ = _; rw [HC.out, if_neg hlf, if_pos (Or.inl ho)]
        have ht : decide (p.o < 0) = true := by simpa using ho
        clear hlf hlf' ho
        go_wp2_with fail
        go_ret
        exact ⟨ret_int (by rw [HN.out]), G3.out⟩
      · have ht : decide (p.o < 0) = false := by simpa using ho
        by_cases ho2 : (x.ts.length : Int) < p.o
        · have HN : Hid (checkPt n.er pe = 8) := by show _ = _; rw [HC.out, if_neg hlf, if_pos (Or.inr ho2)]
          have ht2 : decide ((x.ts.length : Int) < p.o) = true := by simpa using ho2
          clear hlf hlf' ho
          go_wp2_with fail
          go_ret
          exact ⟨ret_int (by rw [HN.out]), G3.out⟩
        · have HN : Hid (checkPt n.er pe = 0) := by show _ = _; rw [HC.out, if_neg hlf, if_neg (fun h => h.elim ho ho2)]
          have ht2 : decide ((x.ts.length : Int) < p.o) = false := by simpa using ho2
          clear hlf hlf' ho ho2
          go_wp2_with fail
          go_ret
          exact ⟨ret_int (by rw [HN.out]), G3.out⟩
  · obtain ⟨rfl, hat⟩ : k = 5 ∧ n.er.at l = none := by
      rcases hE.out with ⟨h, _⟩ | ⟨h, h2⟩
      · exact absurd h hk0
      · exact ⟨h, h2⟩
    have HN : Hid (checkPt n.er pe = 5) := by show _ = _; rw [HPE.out]; exact checkPt_no hat
    clear hE hk0 hat
    unfold NT.val
    go_wp2_with fail
    go_ret
    exact ⟨ret_int (by rw [HN.out]), G3.out⟩

end Go.Proofs.Ytgnlgfkolbecmaa
