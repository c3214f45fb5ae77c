/- hold.pathMay, kinds$1, rangeMay, empty: the contracts. -/
import Derived.Test.YtgnlgfkolbecmaaRefL
import Derived.Test.YtgnlgfkolbecmaaPtCheck
namespace Go.Proofs.Ytgnlgfkolbecmaa
open Go Go.RowKit

def emptyR (a f : PtE) : Bool := sameP a PtE.nil && sameP f PtE.nil
def mayPath (t : T) (r : RefE) : Int := match t.at r.path with
  | none => 5
  | some _ => 0
def mayRange (t : T) (r : RefE) : Int := if checkPt t r.a ≠ 0 then checkPt t r.a else checkPt t r.f
set_option maxHeartbeats 1000000 in
theorem holdEmpty_any (p q : PtL) (w : World) (hp : p.In w 0 w.heap.size) (hl : p.p.l.length ≤ 1048576) (hq : q.In w 0 w.heap.size) (hl2 : q.p.l.length ≤ 1048576) :
    Calls Try.prog 26 #[.agg #[.slice p.p.a p.p.l.length p.p.c, .int .i64 p.o, .slice q.p.a q.p.l.length q.p.c, .int .i64 q.o]] w fun e w' => e = .returned (.bool (emptyR p.er q.er)) ∧ Grew w w' := by
  have SN := Lib.hid (fun w1 (hg : Grew w w1) => pointSame_any p PtL.nil w1 (hp.later hg) hl ptNil_in (by simp [PtL.nil, PN.nil]))
  have SF := Lib.hid (fun w1 (hg : Grew w w1) => pointSame_any q PtL.nil w1 (hq.later hg) hl2 ptNil_in (by simp [PtL.nil, PN.nil]))
  change Hid (∀ w1, Grew w w1 → Calls Try.prog 25 #[.agg #[.slice p.p.a p.p.l.length p.p.c, .int .i64 p.o], .agg #[.slice none 0 0, .int .i64 0]] w1 fun e w' => e = .returned (.bool (sameP p.er PtE.nil)) ∧ Grew w1 w') at SN
  change Hid (∀ w1, Grew w w1 → Calls Try.prog 25 #[.agg #[.slice q.p.a q.p.l.length q.p.c, .int .i64 q.o], .agg #[.slice none 0 0, .int .i64 0]] w1 fun e w' => e = .returned (.bool (sameP q.er PtE.nil)) ∧ Grew w1 w') at SF
  have HE : Hid (emptyR p.er q.er = (sameP p.er PtE.nil && sameP q.er PtE.nil)) := rfl
  generalize emptyR p.er q.er = r at *
  generalize sameP p.er PtE.nil = b1 at *
  generalize sameP q.er PtE.nil = b2 at *
  clear hp hq hl hl2
  have gA := Grew.alloc1 w (.cells #[.slice p.p.a p.p.l.length p.p.c, .int .i64 p.o, .slice q.p.a q.p.l.length q.p.c, .int .i64 q.o] 32)
  have HB := Lib.hid (fun (w' : World) (g : Grew (w.alloc (.cells #[.slice p.p.a p.p.l.length p.p.c, .int .i64 p.o, .slice q.p.a q.p.l.length q.p.c, .int .i64 q.o] 32)) w') => (⟨box_at g (j := 2) (v := .slice q.p.a q.p.l.length q.p.c) rfl, box_at g (j := 3) (v := .int .i64 q.o) rfl⟩ : _ ∧ _))
  go_enter Try.func26, Try.ntmps26
  go_wp2_with fail
  refine (SN.out _ gA).mono ?_
  rintro e w2 ⟨rfl, g2⟩
  obtain ⟨c2, c3⟩ := HB.out w2 g2
  have G2 := Lib.hid (gA.trans g2)
  clear HB g2 gA
  cases b1 with
  | false =>
    have HN : Hid (r = false) := by show _ = _; rw [HE.out]; rfl
    go_wp2_with fail
    go_ret
    exact ⟨ret_bool (by rw [HN.out]), G2.out⟩
  | true =>
    have HN : Hid (r = b2) := by show _ = _; rw [HE.out, Bool.true_and]
    go_wp2_with fail
    refine (SF.out w2 G2.out).mono ?_
    rintro e w3 ⟨rfl, g3⟩
    go_wp2_with fail
    go_ret
    exact ⟨ret_bool (by rw [HN.out]), G2.out.trans g3⟩

set_option maxRecDepth 100000 in
set_option maxHeartbeats 2000000 in
theorem pathMay_any (n : NT) (r : RefL) (w : World) (hn : n.Ok w) (hb : n.er.bulk ≤ 1048576) (hr : r.In w 0 w.heap.size) (hs : r.er.Small) : Calls Try.prog 37 #[n.val, r.val] w fun e w' => e = .returned (.int .i64 (mayPath n.er r.er)) ∧ Grew w w' := by
  have TG := Lib.hid (fun w1 (hg : Grew w w1) => treeGet_any n r.path.a r.path.c r.path.l w1 (NT.Ok.grew hn hg) hb (hr.later hg).1 hs.1)
  have HM : Hid (mayPath n.er r.er = match n.er.at r.path.l with | none => 5 | some _ => 0) := rfl
  generalize mayPath n.er r.er = m at *
  unfold NT.val RefL.val at *
  have hg := (Grew.alloc1 w (.cells #[.bool n.lf, .slice n.pa n.ps.length n.pc, .slice n.ta n.ts.length n.tc, .slice n.ka n.ks.length n.kc] 26)).alloc (.cells #[.int .i64 r.id, .int .i64 r.kind, .int .i64 r.aff, .bool r.live, .slice r.path.a r.path.l.length r.path.c, .slice r.pt.p.a r.pt.p.l.length r.pt.p.c, .int .i64 r.pt.o, .slice r.a.p.a r.a.p.l.length r.a.p.c, .int .i64 r.a.o, .slice r.f.p.a r.f.p.l.length r.f.p.c, .int .i64 r.f.o] 34)
  go_enter Try.func37, Try.ntmps37
  go_wp2_with fail
  refine (TG.out _ hg).mono ?_
  rintro e w2 ⟨x, k, rfl, g2, hx, hE⟩
  have HN : Hid (m = k) := by
    show _ = _
    rw [HM.out]
    rcases hE.out with ⟨h1, h2⟩ | ⟨h1, h2, _⟩
    · rw [h2, h1]
    · rw [h2, h1]
  have G2 := Lib.hid (hg.trans g2)
  clear hx hE hg g2
  unfold NT.val
  go_wp2_with fail
  go_ret
  exact ⟨ret_int (by rw [HN.out]), G2.out.trans (Grew.alloc1 _ _)⟩
set_option maxRecDepth 100000 in
set_option maxHeartbeats 2000000 in
theorem pointMay_any (n : NT) (r : RefL) (w : World) (hn : n.Ok w) (hb : n.er.bulk ≤ 1048576) (hr : r.In w 0 w.heap.size) (hs : r.er.Small) : Calls Try.prog 39 #[n.val, r.val] w fun e w' => e = .returned (.int .i64 (checkPt n.er r.pt.er)) ∧ Grew w w' := by
  have CK := Lib.hid (fun w1 (hg : Grew w w1) => ptCheck_any n r.pt w1 (NT.Ok.grew hn hg) hb (hr.later hg).2.1 hs.2.1)
  generalize checkPt n.er r.pt.er = m at *
  unfold NT.val RefL.val at *
  have hg := (Grew.alloc1 w (.cells #[.bool n.lf, .slice n.pa n.ps.length n.pc, .slice n.ta n.ts.length n.tc, .slice n.ka n.ks.length n.kc] 26)).alloc (.cells #[.int .i64 r.id, .int .i64 r.kind, .int .i64 r.aff, .bool r.live, .slice r.path.a r.path.l.length r.path.c, .slice r.pt.p.a r.pt.p.l.length r.pt.p.c, .int .i64 r.pt.o, .slice r.a.p.a r.a.p.l.length r.a.p.c, .int .i64 r.a.o, .slice r.f.p.a r.f.p.l.length r.f.p.c, .int .i64 r.f.o] 34)
  go_enter Try.func39, Try.ntmps39
  go_wp2_with fail
  refine (CK.out _ hg).mono ?_
  rintro e w2 ⟨rfl, g2⟩
  have G2 := Lib.hid (hg.trans g2)
  go_wp2_with fail
  go_ret
  exact ⟨rfl, G2.out⟩
set_option maxRecDepth 100000 in
set_option maxHeartbeats 2000000 in
theorem rangeMay_any (n : NT) (r : RefL) (w : World) (hn : n.Ok w) (hb : n.er.bulk ≤ 1048576) (hr : r.In w 0 w.heap.size) (hs : r.er.Small) : Calls Try.prog 42 #[n.val, r.val] w fun e w' => e = .returned (.int .i64 (mayRange n.er r.er)) ∧ Grew w w' := by
  have CA := Lib.hid (fun w1 (hg : Grew w w1) => ptCheck_any n r.a w1 (NT.Ok.grew hn hg) hb (hr.later hg).2.2.1 hs.2.2.1)
  have CF := Lib.hid (fun w1 (hg : Grew w w1) => ptCheck_any n r.f w1 (NT.Ok.grew hn hg) hb (hr.later hg).2.2.2 hs.2.2.2)
  have HM : Hid (mayRange n.er r.er = if checkPt n.er r.a.er ≠ 0 then checkPt n.er r.a.er else checkPt n.er r.f.er) := rfl
  generalize mayRange n.er r.er = m at *
  generalize checkPt n.er r.a.er = ca at *
  generalize checkPt n.er r.f.er = cf at *
  unfold NT.val RefL.val at *
  have hg := (Grew.alloc1 w (.cells #[.bool n.lf, .slice n.pa n.ps.length n.pc, .slice n.ta n.ts.length n.tc, .slice n.ka n.ks.length n.kc] 26)).alloc (.cells #[.int .i64 r.id, .int .i64 r.kind, .int .i64 r.aff, .bool r.live, .slice r.path.a r.path.l.length r.path.c, .slice r.pt.p.a r.pt.p.l.length r.pt.p.c, .int .i64 r.pt.o, .slice r.a.p.a r.a.p.l.length r.a.p.c, .int .i64 r.a.o, .slice r.f.p.a r.f.p.l.length r.f.p.c, .int .i64 r.f.o] 34)
  have gB := Grew.alloc1 (w.alloc (.cells #[.bool n.lf, .slice n.pa n.ps.length n.pc, .slice n.ta n.ts.length n.tc, .slice n.ka n.ks.length n.kc] 26)) (.cells #[.int .i64 r.id, .int .i64 r.kind, .int .i64 r.aff, .bool r.live, .slice r.path.a r.path.l.length r.path.c, .slice r.pt.p.a r.pt.p.l.length r.pt.p.c, .int .i64 r.pt.o, .slice r.a.p.a r.a.p.l.length r.a.p.c, .int .i64 r.a.o, .slice r.f.p.a r.f.p.l.length r.f.p.c, .int .i64 r.f.o] 34)
  have HB := Lib.hid (fun (w' : World) (g : Grew ((w.alloc (.cells #[.bool n.lf, .slice n.pa n.ps.length n.pc, .slice n.ta n.ts.length n.tc, .slice n.ka n.ks.length n.kc] 26)).alloc (.cells #[.int .i64 r.id, .int .i64 r.kind, .int .i64 r.aff, .bool r.live, .slice r.path.a r.path.l.length r.path.c, .slice r.pt.p.a r.pt.p.l.length r.pt.p.c, .int .i64 r.pt.o, .slice r.a.p.a r.a.p.l.length r.a.p.c, .int .i64 r.a.o, .slice r.f.p.a r.f.p.l.length r.f.p.c, .int .i64 r.f.o] 34)) w') => (⟨box4 (gB.trans g), box_at g (j := 9) (v := .slice r.f.p.a r.f.p.l.length r.f.p.c) rfl, box_at g (j := 10) (v := .int .i64 r.f.o) rfl⟩ : _ ∧ _ ∧ _))
  simp only [World.size_alloc] at HB
  go_enter Try.func42, Try.ntmps42
  go_wp2_with fail
  refine (CA.out _ hg).mono ?_
  rintro e w2 ⟨rfl, g2⟩
  have G2 := Lib.hid (hg.trans g2)
  obtain ⟨⟨m0, m1, m2, m3, _⟩, c9, c10⟩ := HB.out w2 g2
  clear HB hg gB g2
  by_cases h : ca = 0
  · have ht : (ca != 0) = false := by simp [h]
    have HN : Hid (m = cf) := by show _ = _; rw [HM.out, if_neg (by simp [h])]
    clear h
    go_wp2_with fail
    refine (CF.out w2 G2.out).mono ?_
    rintro e w3 ⟨rfl, g3⟩
    go_wp2_with fail
    go_ret
    exact ⟨ret_int (by rw [HN.out]), G2.out.trans g3⟩
  · have ht : (ca != 0) = true := by simpa using h
    have HN : Hid (m = ca) := by show _ = _; rw [HM.out, if_pos h]
    clear h
    go_wp2_with fail
    go_ret
    exact ⟨ret_int (by rw [HN.out]), G2.out⟩
end Go.Proofs.Ytgnlgfkolbecmaa
