/- point.Check, CheckSel: the contracts. -/
import Derived.Test.YtgnlgfkolbecmaaPoint
namespace Go.Proofs.Ytgnlgfkolbecmaa
open Go Go.RowKit

def checkPt (t : T) (p : PtE) : Int := match t.at p.p with
  | none => 5
  | some k => if k.lf = false then 7 else if p.o < 0 ∨ (k.ts.length : Int) < p.o then 8 else 0
def checkSelT (t : T) (s : SelE) : Int := if s.is = true then (if checkPt t s.a ≠ 0 then checkPt t s.a else checkPt t s.f) else if (sameP s.a PtE.nil && sameP s.f PtE.nil) = true then 0 else 1
theorem checkPt_of {t k : T} {p : PtE} (h : t.at p.p = some k) : checkPt t p = if k.lf = false then 7 else if p.o < 0 ∨ (k.ts.length : Int) < p.o then 8 else 0 := by unfold checkPt; rw [h]
theorem checkPt_no {t : T} {p : PtE} (h : t.at p.p = none) : checkPt t p = 5 := by unfold checkPt; rw [h]
theorem sameP_iff {a b : PtE} : sameP a b = true ↔ a = b := by
  cases a; cases b; simp [sameP]

set_option maxHeartbeats 1000000 in
theorem ptCheck_any (n : NT) (p : PtL) (w : World) (hn : n.Ok w) (hb : n.er.bulk ≤ 1048576) (hp : p.In w 0 w.heap.size) (hl : p.p.l.length ≤ 1048576) :
    Calls Try.prog 40 #[n.val, .agg #[.slice p.p.a p.p.l.length p.p.c, .int .i64 p.o]] w fun e w' => e = .returned (.int .i64 (checkPt n.er p.er)) ∧ Grew w w' := by
  have TG := Lib.hid (fun w1 (hg : Grew w w1) => treeGet_any n p.p.a p.p.c p.p.l w1 (NT.Ok.grew hn hg) hb (hp.later hg) hl)
  have HPE : Hid (p.er = ⟨p.p.l, p.o⟩) := rfl
  generalize p.er = pe at *
  generalize p.p.l = l at *
  unfold NT.val at TG ⊢
  have gA := Grew.alloc1 w (.cells #[.bool n.lf, .slice n.pa n.ps.length n.pc, .slice n.ta n.ts.length n.tc, .slice n.ka n.ks.length n.kc] 26)
  have gB := Grew.alloc1 (w.alloc (.cells #[.bool n.lf, .slice n.pa n.ps.length n.pc, .slice n.ta n.ts.length n.tc, .slice n.ka n.ks.length n.kc] 26)) (.cells #[.slice p.p.a l.length p.p.c, .int .i64 p.o] 30)
  have HB := Lib.hid (fun (w' : World) (g : Grew ((w.alloc (.cells #[.bool n.lf, .slice n.pa n.ps.length n.pc, .slice n.ta n.ts.length n.tc, .slice n.ka n.ks.length n.kc] 26)).alloc (.cells #[.slice p.p.a l.length p.p.c, .int .i64 p.o] 30)) w') => (box_at g (j := 1) (v := .int .i64 p.o) rfl))
  simp only [World.size_alloc] at HB
  go_enter Try.func40, Try.ntmps40
  go_wp2_with fail
  refine (TG.out _ (gA.trans gB)).mono ?_
  have g1 := gA.trans gB
  clear gA gB
  generalize (w.alloc (.cells #[.bool n.lf, .slice n.pa n.ps.length n.pc, .slice n.ta n.ts.length n.tc, .slice n.ka n.ks.length n.kc] 26)).alloc (.cells #[.slice p.p.a l.length p.p.c, .int .i64 p.o] 30) = w1 at *
  rintro e w2 ⟨x, k, rfl, g2, hx, hE⟩
  have G3 := Lib.hid ((g1.trans g2).trans (Grew.alloc1 w2 (.cells #[.bool x.lf, .slice x.pa x.ps.length x.pc, .slice x.ta x.ts.length x.tc, .slice x.ka x.ks.length x.kc] 26)))
  have h1 := HB.out _ (g2.trans (Grew.alloc1 w2 (.cells #[.bool x.lf, .slice x.pa x.ps.length x.pc, .slice x.ta x.ts.length x.tc, .slice x.ka x.ks.length x.kc] 26)))
  have htl : (x.ts.length : Int) ≤ 9223372036854775807 := by
    have := (NT.In_iff.1 hx.1).2.1.1.1.2
    unfold maxLen at this; omega
  clear hx
  by_cases hk0 : k = 0
  · subst hk0
    have hat : n.er.at l = some x.er := by
      rcases hE.out with ⟨_, h⟩ | ⟨h, _⟩
      · exact h
      · exact absurd h (by decide)
    have HC : Hid (checkPt n.er pe = if x.lf = false then 7 else if p.o < 0 ∨ (x.ts.length : Int) < p.o then 8 else 0) := by
      show _ = _
      rw [HPE.out, checkPt_of hat, NT.er_lf, NT.er_ts]
    clear hE hat
    unfold NT.val
    by_cases hlf : x.lf = false
    · have HN : Hid (checkPt n.er pe = 7) := by show _ = _; rw [HC.out, if_pos hlf]
      rw [hlf] at h1 G3 ⊢
      clear hlf
      go_wp2_with fail
      go_ret
      exact ⟨ret_int (by rw [HN.out]), G3.out⟩
    · have hlf' : x.lf = true := by simpa using hlf
      rw [hlf'] at h1 G3 ⊢
      by_cases ho : p.o < 0
      · have HN : Hid (checkPt n.er pe = 8) := by show _ = _; rw [HC.out, if_neg hlf, if_pos (Or.inl ho)]
        have ht : decide (p.o < 0) = true := by simpa using ho
        clear hlf hlf' ho
        go_wp2_with fail
        go_ret
        exact ⟨ret_int (by rw [HN.out]), G3.out⟩
      · have ht : decide (p.o < 0) = false := by simpa using ho
        by_cases ho2 : (x.ts.length : Int) < p.o
        · have HN : Hid (checkPt n.er pe = 8) := by show _ = _; rw [HC.out, if_neg hlf, if_pos (Or.inr ho2)]
          have ht2 : decide ((x.ts.length : Int) < p.o) = true := by simpa using ho2
          clear hlf hlf' ho
          go_wp2_with fail
          go_ret
          exact ⟨ret_int (by rw [HN.out]), G3.out⟩
        · have HN : Hid (checkPt n.er pe = 0) := by show _ = _; rw [HC.out, if_neg hlf, if_neg (fun h => h.elim ho ho2)]
          have ht2 : decide ((x.ts.length : Int) < p.o) = false := by simpa using ho2
          clear hlf hlf' ho ho2
          go_wp2_with fail
          go_ret
          exact ⟨ret_int (by rw [HN.out]), G3.out⟩
  · obtain ⟨rfl, hat⟩ : k = 5 ∧ n.er.at l = none := by
      rcases hE.out with ⟨h, _⟩ | ⟨h, h2, _⟩
      · exact absurd h hk0
      · exact ⟨h, h2⟩
    have HN : Hid (checkPt n.er pe = 5) := by show _ = _; rw [HPE.out]; exact checkPt_no hat
    clear hE hk0 hat
    unfold NT.val
    go_wp2_with fail
    go_ret
    exact ⟨ret_int (by rw [HN.out]), G3.out⟩

theorem SelL.In.later {w w' : World} {s : SelL} (h : s.In w 0 w.heap.size) (hg : Grew w w') : s.In w' 0 w'.heap.size := ⟨h.1.later hg, h.2.later hg⟩
theorem ptNil_in {w : World} {lo hi : Nat} : PtL.nil.In w lo hi := intsIn_nil
end Go.Proofs.Ytgnlgfkolbecmaa
