/- point.Check, CheckSel: the contracts. -/
import Derived.Test.YtbhbekocmpmjfaaGreatDoorK12
import Derived.Test.YtbhbekocmpmjfaaGreatDoorK18
import Derived.Laws.Cover1
import Derived.Test.YtbhbekocmpmjfaaGreatDoorK11
import Derived.Test.YtbhbekocmpmjfaaGreatDoorK13
import Derived.Sort.Walk0
namespace Go.Proofs.YtbhbekocmpmjfaaGreatDoor
open Go Go.RowKit

def checkPt (t : T) (p : PtE) : Int := match t.at p.p with
  | none => 5
  | some k => if k.lf = false then 7 else if p.o < 0 ∨ (k.ts.length : Int) < p.o then 8 else 0
def checkSelT (t : T) (s : SelE) : Int := if s.is = true then (if checkPt t s.a ≠ 0 then checkPt t s.a else checkPt t s.f) else if (sameP s.a PtE.nil && sameP s.f PtE.nil) = true then 0 else 1
theorem checkPt_of {t k : T} {p : PtE} (h : t.at p.p = some k) : checkPt t p = if k.lf = false then 7 else if p.o < 0 ∨ (k.ts.length : Int) < p.o then 8 else 0 := by unfold checkPt; rw [h]
theorem checkPt_no {t : T} {p : PtE} (h : t.at p.p = none) : checkPt t p = 5 := by unfold checkPt; rw [h]
theorem sameP_iff {a b : PtE} : sameP a b = true ↔ a = b := by
  cases a; cases b; simp [sameP]

set_option maxRecDepth 100000 in
set_option maxHeartbeats 1000000 in
theorem ptCheck_any (n : NT) (p : PtL) (w : World) (hn : n.Ok w) (hb : n.er.bulk ≤ 1048576) (hp : p.In w 0 w.heap.size) (hl : p.p.l.length ≤ 1048576) :
    Calls Tryz.prog 117 #[n.val, .agg #[.slice p.p.a p.p.l.length p.p.c, .int .i64 p.o]] w fun e w' => e = .returned (.int .i64 (checkPt n.er p.er)) ∧ Grew w w' := by
  have TG := Lib.hid (fun w1 (hg : Grew w w1) => treeGet_any n p.p.a p.p.c p.p.l w1 (NT.Ok.grew hn hg) hb (hp.later hg) hl)
  have HPE : Hid (p.er = ⟨p.p.l, p.o⟩) := rfl
  generalize p.er = pe at *
  generalize p.p.l = l at *
  unfold NT.val at TG ⊢
  have gA := Grew.alloc1 w (.cells #[.bool n.lf, .slice n.pa n.ps.length n.pc, .slice n.ta n.ts.length n.tc, .slice n.ka n.ks.length n.kc] 26)
  have gB := Grew.alloc1 (w.alloc (.cells #[.bool n.lf, .slice n.pa n.ps.length n.pc, .slice n.ta n.ts.length n.tc, .slice n.ka n.ks.length n.kc] 26)) (.cells #[.slice p.p.a l.length p.p.c, .int .i64 p.o] 29)
  have HB := Lib.hid (fun (w' : World) (g : Grew ((w.alloc (.cells #[.bool n.lf, .slice n.pa n.ps.length n.pc, .slice n.ta n.ts.length n.tc, .slice n.ka n.ks.length n.kc] 26)).alloc (.cells #[.slice p.p.a l.length p.p.c, .int .i64 p.o] 29)) w') => (box_at g (j := 1) (v := .int .i64 p.o) rfl))
  simp only [World.size_alloc] at HB
  go_enter Tryz.func117, Tryz.ntmps117
  go_wp2_with fail
  refine (TG.out _ (gA.trans gB)).mono ?_
  have g1 := gA.trans gB
  clear gA gB
  generalize (w.alloc (.cells #[.bool n.lf, .slice n.pa n.ps.length n.pc, .slice n.ta n.ts.length n.tc, .slice n.ka n.ks.length n.kc] 26)).alloc (.cells #[.slice p.p.a l.length p.p.c, .int .i64 p.o] 29) = w1 at *
  rintro e w2 ⟨x, k, rfl, g2, hx, hE⟩
  have G3 := Lib.hid ((g1.trans g2).trans (Grew.alloc1 w2 (.cells #[.bool x.lf, .slice x.pa x.ps.length x.pc, .slice x.ta x.ts.length x.tc, .slice x.ka x.ks.length x.kc] 26)))
  have h1 := HB.out _ (g2.trans (Grew.alloc1 w2 (.cells #[.bool x.lf, .slice x.pa x.ps.length x.pc, .slice x.ta x.ts.length x.tc, .slice x.ka x.ks.length x.kc] 26)))
  have htl : (x.ts.length : Int) ≤ 9223372036854775807 := by
    have := (NT.In_iff.1 hx.1).2.1.1.1.2
    unfold maxLen at this; omega
  clear hx
  by_cases hk0 : k = 0
  · subst hk0
    have hat : n.er.at l = some x.er := by
      rcases hE.out with ⟨_, h⟩ | ⟨h, _⟩
      · exact h
      · exact absurd h (by decide)
    have HC : Hid (checkPt n.er pe = if x.lf = false then 7 else if p.o < 0 ∨ (x.ts.length : Int) < p.o then 8 else 0) := by
      show _ = _
      rw [HPE.out, checkPt_of hat, NT.er_lf, NT.er_ts]
    clear hE hat
    unfold NT.val
    by_cases hlf : x.lf = false
    · have HN : Hid (checkPt n.er pe = 7) := by show _ = _; rw [HC.out, if_pos hlf]
      rw [hlf] at h1 G3 ⊢
      clear hlf
      go_wp2_with fail
      go_ret
      exact ⟨ret_int (by rw [HN.out]), G3.out⟩
    · have hlf' : x.lf = true := by simpa using hlf
      rw [hlf'] at h1 G3 ⊢
      by_cases ho : p.o < 0
      · have HN : Hid (checkPt n.er pe = 8) := by show _ = _; rw [HC.out, if_neg hlf, if_pos (Or.inl ho)]
        have ht : decide (p.o < 0) = true := by simpa using ho
        clear hlf hlf' ho
        go_wp2_with fail
        go_ret
        exact ⟨ret_int (by rw [HN.out]), G3.out⟩
      · have ht : decide (p.o < 0) = false := by simpa using ho
        by_cases ho2 : (x.ts.length : Int) < p.o
        · have HN : Hid (checkPt n.er pe = 8) := by show _ = _; rw [HC.out, if_neg hlf, if_pos (Or.inr ho2)]
          have ht2 : decide ((x.ts.length : Int) < p.o) = true := by simpa using ho2
          clear hlf hlf' ho
          go_wp2_with fail
          go_ret
          exact ⟨ret_int (by rw [HN.out]), G3.out⟩
        · have HN : Hid (checkPt n.er pe = 0) := by show _ = _; rw [HC.out, if_neg hlf, if_neg (fun h => h.elim ho ho2)]
          have ht2 : decide ((x.ts.length : Int) < p.o) = false := by simpa using ho2
          clear hlf hlf' ho ho2
          go_wp2_with fail
          go_ret
          exact ⟨ret_int (by rw [HN.out]), G3.out⟩
  · obtain ⟨rfl, hat⟩ : k = 5 ∧ n.er.at l = none := by
      rcases hE.out with ⟨h, _⟩ | ⟨h, h2, _⟩
      · exact absurd h hk0
      · exact ⟨h, h2⟩
    have HN : Hid (checkPt n.er pe = 5) := by show _ = _; rw [HPE.out]; exact checkPt_no hat
    clear hE hk0 hat
    unfold NT.val
    go_wp2_with fail
    go_ret
    exact ⟨ret_int (by rw [HN.out]), G3.out⟩

theorem SelL.In.later {w w' : World} {s : SelL} (h : s.In w 0 w.heap.size) (hg : Grew w w') : s.In w' 0 w'.heap.size := ⟨h.1.later hg, h.2.later hg⟩
theorem ptNil_in {w : World} {lo hi : Nat} : PtL.nil.In w lo hi := intsIn_nil
set_option maxRecDepth 100000 in
set_option maxHeartbeats 1000000 in
theorem checkSel_any (n : NT) (s : SelL) (w : World) (hn : n.Ok w) (hb : n.er.bulk ≤ 1048576) (hs : s.In w 0 w.heap.size) (hl : s.a.p.l.length ≤ 1048576) (hl2 : s.f.p.l.length ≤ 1048576) :
    Calls Tryz.prog 66 #[n.val, .agg #[.bool s.is, .slice s.a.p.a s.a.p.l.length s.a.p.c, .int .i64 s.a.o, .slice s.f.p.a s.f.p.l.length s.f.p.c, .int .i64 s.f.o]] w fun e w' => e = .returned (.int .i64 (checkSelT n.er s.er)) ∧ Grew w w' := by
  have SA := Lib.hid (fun w1 (hg : Grew w w1) => pointSame_any s.a s.f w1 (hs.1.later hg) hl (hs.2.later hg) hl2)
  have SN := Lib.hid (fun w1 (hg : Grew w w1) => pointSame_any s.a PtL.nil w1 (hs.1.later hg) hl ptNil_in (by simp [PtL.nil, PN.nil]))
  have CA := Lib.hid (fun w1 (hg : Grew w w1) => ptCheck_any n s.a w1 (NT.Ok.grew hn hg) hb (hs.1.later hg) hl)
  have CF := Lib.hid (fun w1 (hg : Grew w w1) => ptCheck_any n s.f w1 (NT.Ok.grew hn hg) hb (hs.2.later hg) hl2)
  have HE : Hid (checkSelT n.er s.er = if s.is = true then (if checkPt n.er s.a.er ≠ 0 then checkPt n.er s.a.er else checkPt n.er s.f.er) else if (sameP s.a.er PtE.nil && sameP s.f.er PtE.nil) = true then 0 else 1) := rfl
  have HS1 : Hid (sameP s.a.er s.f.er = true → (sameP s.a.er PtE.nil = sameP s.f.er PtE.nil)) := fun h => by rw [sameP_iff.1 h]
  have HS2 : Hid (sameP s.a.er PtE.nil = true → sameP s.f.er PtE.nil = true → sameP s.a.er s.f.er = true) := fun h1 h2 => by rw [sameP_iff.1 h1, sameP_iff.1 h2]; exact sameP_iff.2 rfl
  change Hid (∀ w1, Grew w w1 → Calls Tryz.prog 110 #[.agg #[.slice s.a.p.a s.a.p.l.length s.a.p.c, .int .i64 s.a.o], .agg #[.slice none 0 0, .int .i64 0]] w1 fun e w' => e = .returned (.bool (sameP s.a.er PtE.nil)) ∧ Grew w1 w') at SN
  generalize checkSelT n.er s.er = r at *
  generalize checkPt n.er s.a.er = ca at *
  generalize checkPt n.er s.f.er = cf at *
  generalize sameP s.a.er s.f.er = b0 at *
  generalize sameP s.a.er PtE.nil = b1 at *
  generalize sameP s.f.er PtE.nil = b2 at *
  unfold NT.val at CA CF ⊢
  clear hs hl hl2 hn hb
  have gA := Grew.alloc1 w (.cells #[.bool n.lf, .slice n.pa n.ps.length n.pc, .slice n.ta n.ts.length n.tc, .slice n.ka n.ks.length n.kc] 26)
  have gB := Grew.alloc1 (w.alloc (.cells #[.bool n.lf, .slice n.pa n.ps.length n.pc, .slice n.ta n.ts.length n.tc, .slice n.ka n.ks.length n.kc] 26)) (.cells #[.bool s.is, .slice s.a.p.a s.a.p.l.length s.a.p.c, .int .i64 s.a.o, .slice s.f.p.a s.f.p.l.length s.f.p.c, .int .i64 s.f.o] 33)
  have HB := Lib.hid (fun (w' : World) (g : Grew ((w.alloc (.cells #[.bool n.lf, .slice n.pa n.ps.length n.pc, .slice n.ta n.ts.length n.tc, .slice n.ka n.ks.length n.kc] 26)).alloc (.cells #[.bool s.is, .slice s.a.p.a s.a.p.l.length s.a.p.c, .int .i64 s.a.o, .slice s.f.p.a s.f.p.l.length s.f.p.c, .int .i64 s.f.o] 33)) w') => (⟨box_at g (j := 0) (v := .bool s.is) rfl, box_at g (j := 1) (v := .slice s.a.p.a s.a.p.l.length s.a.p.c) rfl, box_at g (j := 2) (v := .int .i64 s.a.o) rfl, box_at g (j := 3) (v := .slice s.f.p.a s.f.p.l.length s.f.p.c) rfl, box_at g (j := 4) (v := .int .i64 s.f.o) rfl⟩ : _ ∧ _ ∧ _ ∧ _ ∧ _))
  have HBN := Lib.hid (fun (w' : World) (g : Grew ((w.alloc (.cells #[.bool n.lf, .slice n.pa n.ps.length n.pc, .slice n.ta n.ts.length n.tc, .slice n.ka n.ks.length n.kc] 26)).alloc (.cells #[.bool s.is, .slice s.a.p.a s.a.p.l.length s.a.p.c, .int .i64 s.a.o, .slice s.f.p.a s.f.p.l.length s.f.p.c, .int .i64 s.f.o] 33)) w') => box4 (gB.trans g))
  simp only [World.size_alloc] at HB
  go_enter Tryz.func66, Tryz.ntmps66
  cases his : s.is with
  | true =>
    have HN : Hid (r = if ca ≠ 0 then ca else cf) := by show _ = _; rw [HE.out, if_pos his]
    rw [his] at HB HBN gB
    clear his HE HS1 HS2 SA SN
    have g1 := Lib.hid (gA.trans gB)
    go_wp2_with fail
    refine (CA.out _ g1.out).mono ?_
    rintro e w2 ⟨rfl, g2⟩
    have G2 := Lib.hid (g1.out.trans g2)
    obtain ⟨c0, c1, c2, c3, c4⟩ := HB.out w2 g2
    obtain ⟨m0, m1, m2, m3, _⟩ := HBN.out w2 g2
    clear HB HBN g2
    by_cases hc : ca = 0
    · have ht : (ca != 0) = false := by simp [hc]
      have HN2 : Hid (r = cf) := by show _ = _; rw [HN.out, if_neg (by simp [hc])]
      clear hc
      go_wp2_with fail
      refine (CF.out w2 G2.out).mono ?_
      rintro e w3 ⟨rfl, g3⟩
      go_wp2_with fail
      go_ret
      exact ⟨ret_int (by rw [HN2.out]), G2.out.trans g3⟩
    · have ht : (ca != 0) = true := by simpa using hc
      have HN2 : Hid (r = ca) := by show _ = _; rw [HN.out, if_pos hc]
      clear hc
      go_wp2_with fail
      go_ret
      exact ⟨ret_int (by rw [HN2.out]), G2.out⟩
  | false =>
    have HN : Hid (r = if (b1 && b2) = true then 0 else 1) := by show _ = _; rw [HE.out, if_neg (by rw [his]; decide)]
    rw [his] at HB HBN gB
    clear his HE CA CF
    have g1 := Lib.hid (gA.trans gB)
    go_wp2_with fail
    refine (SA.out _ g1.out).mono ?_
    rintro e w2 ⟨rfl, g2⟩
    have G2 := Lib.hid (g1.out.trans g2)
    obtain ⟨c0, c1, c2, c3, c4⟩ := HB.out w2 g2
    clear HB HBN g2
    cases hb0 : b0 with
    | false =>
      have HN2 : Hid (r = 1) := by
        show _ = _
        rw [HN.out, if_neg]
        intro h
        rw [Bool.and_eq_true] at h
        have := HS2.out h.1 h.2
        rw [hb0] at this; cases this
      subst hb0
      go_wp2_with fail
      go_ret
      exact ⟨ret_int (by rw [HN2.out]), G2.out⟩
    | true =>
      have HE2 : Hid (b1 = b2) := HS1.out hb0
      subst hb0
      go_wp2_with fail
      refine (SN.out w2 G2.out).mono ?_
      rintro e w3 ⟨rfl, g3⟩
      cases hb1 : b1 with
      | false =>
        have HN2 : Hid (r = 1) := by show _ = _; rw [HN.out, hb1]; rfl
        subst hb1
        go_wp2_with fail
        go_ret
        exact ⟨ret_int (by rw [HN2.out]), G2.out.trans g3⟩
      | true =>
        have HN2 : Hid (r = 0) := by show _ = _; rw [HN.out, ← HE2.out, hb1]; rfl
        subst hb1
        go_wp2_with fail
        go_ret
        exact ⟨ret_int (by rw [HN2.out]), G2.out.trans g3⟩
end Go.Proofs.YtbhbekocmpmjfaaGreatDoor
/- prop.key, prop.val, redlineref01.Key, Val: the contracts. -/
namespace Go.Proofs.YtbhbekocmpmjfaaGreatDoor
open Go Go.RowKit

theorem str_nil {s : ByteArray} (h : s.size = 0) : s.toList.isEmpty = true := by
  rw [Lib.toList_data]
  cases h' : s.data.toList with
  | nil => rfl
  | cons _ _ => have := Lib.size_eq s; rw [h', List.length_cons] at this; omega
theorem str_some {s : ByteArray} (h : s.size ≠ 0) : s.toList.isEmpty = false := by
  rw [Lib.toList_data]
  cases h' : s.data.toList with
  | nil => have := Lib.size_eq s; rw [h', List.length_nil] at this; omega
  | cons _ _ => rfl
theorem isKey_nil {s : ByteArray} (h : s.size = 0) : isKey s = false := by simp [isKey, h]
theorem isKey_long {s : ByteArray} (h : 16 < s.size) : isKey s = false := by
  have : ¬ s.size ≤ 16 := by omega
  simp [isKey, this]
theorem isKey_all {s : ByteArray} (h : s.size ≠ 0) (h1 : s.size ≤ 16) : isKey s = s.data.toList.all lowB := by
  have : 1 ≤ s.size := by omega
  simp [isKey, this, h1]
theorem isVal_long {s : ByteArray} (h : 32 < s.size) : isVal s = false := by
  have : ¬ s.size ≤ 32 := by omega
  simp [isVal, this]
theorem isVal_all {s : ByteArray} (h1 : s.size ≤ 32) : isVal s = s.data.toList.all valB := by simp [isVal, h1]

set_option maxHeartbeats 1000000 in
theorem key_any (s : ByteArray) (w : World) (hs : s.size ≤ 1048576) :
    Calls Tryz.prog 161 #[.string s] w fun e w' => e = .returned (.bool (isKey s)) ∧ Grew w w' := by
  by_cases h0 : s.size = 0
  · have he := str_nil h0
    have HK := Lib.hid (isKey_nil h0)
    clear h0
    go_enter Tryz.func161, Tryz.ntmps161
    go_wp2_with fail
    go_ret
    exact ⟨ret_bool HK.out.symm, Grew.refl _⟩
  · have he := str_some h0
    by_cases h1 : s.size ≤ 16
    · have hcon := Any.strings_Trim_laid Tryz.lays160 (by kernel_rfl) s lows w (by omega) (by decide) (ascii_of_all (by decide))
      change Calls Tryz.prog 204 _ _ _ at hcon
      have HT := Lib.hid ((trim_key s).trans (isKey_all h0 h1).symm)
      generalize (⟨(Lib.trimS s.data.toList lows.data.toList).toArray⟩ : ByteArray) = r at hcon HT
      have C := Lib.hid hcon
      clear hcon h0
      unfold lows at C
      go_enter Tryz.func161, Tryz.ntmps161
      go_wp2_with fail
      refine C.out.mono ?_
      rintro e w' ⟨rfl, hB⟩
      go_wp2_with fail
      go_ret
      exact ⟨ret_bool HT.out, hB⟩
    · have HK := Lib.hid (isKey_long (s := s) (by omega))
      clear h0
      go_enter Tryz.func161, Tryz.ntmps161
      go_wp2_with fail
      go_ret
      exact ⟨ret_bool HK.out.symm, Grew.refl _⟩

set_option maxHeartbeats 1000000 in
theorem val_any (s : ByteArray) (w : World) (hs : s.size ≤ 1048576) :
    Calls Tryz.prog 162 #[.string s] w fun e w' => e = .returned (.bool (isVal s)) ∧ Grew w w' := by
  by_cases h1 : s.size ≤ 32
  · have hcon := Any.strings_Trim_laid Tryz.lays160 (by kernel_rfl) s valCs w (by omega) (by decide) (ascii_of_all (by decide))
    change Calls Tryz.prog 204 _ _ _ at hcon
    have HT := Lib.hid ((trim_val s).trans (isVal_all h1).symm)
    generalize (⟨(Lib.trimS s.data.toList valCs.data.toList).toArray⟩ : ByteArray) = r at hcon HT
    have C := Lib.hid hcon
    clear hcon
    unfold valCs at C
    go_enter Tryz.func162, Tryz.ntmps162
    go_wp2_with fail
    refine C.out.mono ?_
    rintro e w' ⟨rfl, hB⟩
    go_wp2_with fail
    go_ret
    exact ⟨ret_bool HT.out, hB⟩
  · have HK := Lib.hid (isVal_long (s := s) (by omega))
    go_enter Tryz.func162, Tryz.ntmps162
    go_wp2_with fail
    go_ret
    exact ⟨ret_bool HK.out.symm, Grew.refl _⟩
end Go.Proofs.YtbhbekocmpmjfaaGreatDoor
/- prop.Check: the contract. -/
namespace Go.Proofs.YtbhbekocmpmjfaaGreatDoor
open Go Go.RowKit

theorem checkPs_long {ps : List PropL} (h : 16 < ps.length) : checkPs ps = 2 := by simp [checkPs, h]
theorem checkPs_short {ps : List PropL} (h : ¬ 16 < ps.length) : checkPs ps = chkPs .empty (ps.drop 0) := by simp [checkPs, h]
theorem chkPs_next (ls : ByteArray) (ps : List PropL) (k : Nat) (h : k < ps.length) : chkPs ls (ps.drop k) = if isKey (ps.getD k default).1 && isVal (ps.getD k default).2 then (if leS (ps.getD k default).1 ls then 1 else chkPs (ps.getD k default).1 (ps.drop (k + 1))) else 3 := by
  rw [drop_cons ps k h]; rfl
theorem props_str {ps : List PropL} (hb : propsBulk ps ≤ 1048576) {k : Nat} (h : k < ps.length) : (ps.getD k default).1.size ≤ 1048576 ∧ (ps.getD k default).2.size ≤ 1048576 := by
  have := propsBulk_mem (getD_mem ps k h)
  omega

theorem pbox {w w1 : World} {c0 c1 : Value} {t : TypeId} (g : Grew (w.alloc (.cells #[c0, c1] t)) w1) :
    w1.cell? ⟨w.heap.size, 0, none⟩ = some c0 ∧ w1.cell? ⟨w.heap.size, 1, none⟩ = some c1 ∧ w.heap.size < w1.heap.size := by
  have hz : w.heap.size < (w.alloc (.cells #[c0, c1] t)).heap.size := by simp
  refine ⟨?_, ?_, Nat.lt_of_lt_of_le hz g.size⟩
  all_goals
    rw [g.cell (by exact hz), World.cell?_alloc_new]
    rfl

set_option maxHeartbeats 1000000 in
theorem check01_any (ps : List PropL) (pa : Option Addr) (pc : Nat) (w : World) (lo hi : Nat) (hp : PropsIn w lo hi pa pc ps) (hh : hi ≤ w.heap.size) (hb : propsBulk ps ≤ 1048576) :
    Calls Tryz.prog 106 #[.slice pa ps.length pc] w fun e w' => e = .returned (.int .i64 (checkPs ps)) ∧ Grew w w' := by
  have hlen := propsBulk_len ps
  by_cases hlong : 16 < ps.length
  · have HC := Lib.hid (checkPs_long hlong)
    go_enter Tryz.func106, Tryz.ntmps106
    go_wp2_with fail
    go_ret
    exact ⟨ret_int HC.out.symm, Grew.refl _⟩
  · have HC := Lib.hid (checkPs_short hlong)
    have hl : ps.length ≤ 16 := by omega
    clear hlong hlen
    go_enter Tryz.func106, Tryz.ntmps106
    go_wp2_with fail
    go_loopw [3, 11] (fun last i wr => ∃ (k : Nat) (ls : ByteArray), k ≤ ps.length ∧ i = .int .i64 k ∧ last = .string ls ∧ Grew w wr ∧ Hid (checkPs ps = chkPs ls (ps.drop k))) (fun _ i _ => ps.length - (intOf i).toNat)
    case atStart => exact ⟨0, .empty, by omega, rfl, rfl, Grew.refl _, HC⟩
    case round =>
      obtain ⟨k, ls, hk, rfl, rfl, hg, hc⟩ := hrel
      by_cases hlt : k < ps.length
      · obtain ⟨b, o, rfl, _, hbh, c0, c1⟩ := (hp.grew hg hh).at hlt
        have hs := props_str hb hlt
        have HN := Lib.hid (hc.out.trans (chkPs_next ls ps k hlt))
        clear hc HC
        generalize ps.getD k default = p at *
        have KA := Lib.hid (fun w => key_any p.1 w hs.1)
        have VA := Lib.hid (fun w => val_any p.2 w hs.2)
        go_wp2_with fail
        refine (KA.out _).mono ?_
        rintro e w1 ⟨rfl, g1⟩
        obtain ⟨d0, d1, z1⟩ := pbox g1
        cases hk1 : isKey p.1 with
        | false =>
          have HE : Hid (checkPs ps = 3) := by show _ = _; rw [HN.out, hk1]; rfl
          go_wp2_with fail
          go_ret
          exact ⟨ret_int HE.out.symm, hg.trans ((Grew.alloc1 _ _).trans g1)⟩
        | true =>
          go_wp2_with fail
          refine (VA.out _).mono ?_
          rintro e w2 ⟨rfl, g2⟩
          obtain ⟨d2, d3, z2⟩ := pbox (g1.trans g2)
          clear d0 d1
          cases hk2 : isVal p.2 with
          | false =>
            have HE : Hid (checkPs ps = 3) := by show _ = _; rw [HN.out, hk1, hk2]; rfl
            go_wp2_with fail
            go_ret
            exact ⟨ret_int HE.out.symm, hg.trans ((Grew.alloc1 _ _).trans (g1.trans g2))⟩
          | true =>
            cases hk3 : leS p.1 ls with
            | true =>
              have HE : Hid (checkPs ps = 1) := by show _ = _; rw [HN.out, hk1, hk2, hk3]; rfl
              have hx := (show (Op.bytesLess p.1.toList ls.toList || p.1.toList == ls.toList) = leS p.1 ls from rfl).trans hk3
              go_wp2_with fail
              go_ret
              exact ⟨ret_int HE.out.symm, hg.trans ((Grew.alloc1 _ _).trans (g1.trans g2))⟩
            | false =>
              have HE : Hid (checkPs ps = chkPs p.1 (ps.drop (k + 1))) := by show _ = _; rw [HN.out, hk1, hk2, hk3]; rfl
              have hx := (show (Op.bytesLess p.1.toList ls.toList || p.1.toList == ls.toList) = leS p.1 ls from rfl).trans hk3
              go_wp2_with fail
              go_roundw
              case rel => exact ⟨k + 1, p.1, by omega, by go_num, rfl, hg.trans ((Grew.alloc1 _ _).trans (g1.trans g2)), HE⟩
              case measure => simp [intOf]; omega
      · have HE : Hid (checkPs ps = 0) := by
          show _ = _
          rw [hc.out, List.drop_eq_nil_of_le (by omega)]; rfl
        have hge : k = ps.length := by omega
        subst hge
        go_wp2_with fail
        go_ret
        exact ⟨ret_int HE.out.symm, hg⟩
end Go.Proofs.YtbhbekocmpmjfaaGreatDoor
/- node.own, node.Check: the contracts. -/
namespace Go.Proofs.YtbhbekocmpmjfaaGreatDoor
open Go Go.RowKit

set_option maxHeartbeats 1000000 in
theorem own_any (n : NT) (w : World) (lo hi : Nat) (hn : n.In w lo hi) (hh : hi ≤ w.heap.size) (hb : n.er.bulk ≤ 1048576) :
    Calls Tryz.prog 158 #[n.val] w fun e w' => e = .returned (.int .i64 n.er.own) ∧ Grew w w' := by
  have hi3 := NT.In_iff.1 hn
  have hlens := n.lens
  have hpb : propsBulk n.ps ≤ 1048576 := by have := n.er.bulk_eq; simp only [NT.er_ps, NT.er_ts, NT.er_ks] at this; omega
  have C1 := Lib.hid (fun w' (hg : Grew w w') => check01_any n.ps n.pa n.pc w' _ _ (hi3.1.grew hg hh) (Nat.le_trans hh hg.size) hpb)
  have C3 := Lib.hid (fun w' (hg : Grew w w') => check03_any n.ts n.ta n.tc w' _ _ (hi3.2.1.grew hg hh) (Nat.le_trans hh hg.size) (by omega))
  have HO : Hid (n.er.own = if checkPs n.ps ≠ 0 then checkPs n.ps else if (n.lf && decide (0 < n.ks.length)) || (!n.lf && decide (0 < n.ts.length)) then 7 else checkRs n.ts) := by
    show _ = _
    simp [T.own]
  have l2 : n.ts.length ≤ 1048576 := by omega
  have l3 : n.ks.length ≤ 1048576 := by omega
  clear hlens hi3
  generalize hcp : checkPs n.ps = cp at *
  clear hcp
  unfold NT.val
  by_cases hz : cp = 0
  · subst hz
    cases hlf : n.lf with
    | true =>
      by_cases hk : 0 < n.ks.length
      · have HE : Hid (n.er.own = 7) := by show _ = _; rw [HO.out]; simp [hlf, hk]
        clear HO
        go_enter Tryz.func158, Tryz.ntmps158
        go_wp2_with fail
        refine (C1.out _ (Grew.alloc1 _ _)).mono ?_
        rintro e w1 ⟨rfl, g1⟩
        obtain ⟨c0, c1, c2, c3, z1⟩ := box4 g1
        go_wp2_with fail
        go_ret
        exact ⟨ret_int HE.out.symm, (Grew.alloc1 _ _).trans g1⟩
      · have HE : Hid (n.er.own = checkRs n.ts) := by show _ = _; rw [HO.out]; simp [hlf, hk]
        have hk0 : n.ks.length = 0 := by omega
        clear HO hk
        go_enter Tryz.func158, Tryz.ntmps158
        go_wp2_with fail
        refine (C1.out _ (Grew.alloc1 _ _)).mono ?_
        rintro e w1 ⟨rfl, g1⟩
        obtain ⟨c0, c1, c2, c3, z1⟩ := box4 g1
        go_wp2_with fail
        refine (C3.out _ ((Grew.alloc1 _ _).trans g1)).mono ?_
        rintro e w2 ⟨rfl, g2⟩
        go_wp2_with fail
        go_ret
        exact ⟨ret_int HE.out.symm, (Grew.alloc1 _ _).trans (g1.trans g2)⟩
    | false =>
      by_cases hk : 0 < n.ts.length
      · have HE : Hid (n.er.own = 7) := by show _ = _; rw [HO.out]; simp [hlf, hk]
        clear HO
        go_enter Tryz.func158, Tryz.ntmps158
        go_wp2_with fail
        refine (C1.out _ (Grew.alloc1 _ _)).mono ?_
        rintro e w1 ⟨rfl, g1⟩
        obtain ⟨c0, c1, c2, c3, z1⟩ := box4 g1
        go_wp2_with fail
        go_ret
        exact ⟨ret_int HE.out.symm, (Grew.alloc1 _ _).trans g1⟩
      · have HE : Hid (n.er.own = checkRs n.ts) := by show _ = _; rw [HO.out]; simp [hlf, hk]
        have hk0 : n.ts.length = 0 := by omega
        simp only [hk0] at C1 C3
        clear HO hk
        go_enter Tryz.func158, Tryz.ntmps158
        go_wp2_with fail
        refine (C1.out _ (Grew.alloc1 _ _)).mono ?_
        rintro e w1 ⟨rfl, g1⟩
        obtain ⟨c0, c1, c2, c3, z1⟩ := box4 g1
        go_wp2_with fail
        refine (C3.out _ ((Grew.alloc1 _ _).trans g1)).mono ?_
        rintro e w2 ⟨rfl, g2⟩
        go_wp2_with fail
        go_ret
        exact ⟨ret_int HE.out.symm, (Grew.alloc1 _ _).trans (g1.trans g2)⟩
  · have HE : Hid (n.er.own = cp) := by show _ = _; rw [HO.out]; simp [hz]
    have hne : (cp == 0) = false := by simpa using hz
    have hne2 : (cp != 0) = true := by simpa using hz
    clear HO
    go_enter Tryz.func158, Tryz.ntmps158
    go_wp2_with fail
    refine (C1.out _ (Grew.alloc1 _ _)).mono ?_
    rintro e w1 ⟨rfl, g1⟩
    go_wp2_with fail
    go_ret
    exact ⟨ret_int HE.out.symm, (Grew.alloc1 _ _).trans g1⟩

/-- the first that is wrong -/
def firstErr : List NT → Int
  | [] => 0
  | x :: r => if x.er.own ≠ 0 then x.er.own else firstErr r
theorem firstErr_append (a b : List NT) : firstErr (a ++ b) = if firstErr a ≠ 0 then firstErr a else firstErr b := by
  induction a with
  | nil => simp [firstErr]
  | cons x r ih =>
    simp only [List.cons_append, firstErr, ih]
    by_cases h : x.er.own = 0 <;> simp [h]
theorem firstErr_pre (n : NT) : firstErr n.pre = n.er.chk := by
  induction n using NT.ind with
  | h n ih =>
    have hl : ∀ l : List NT, (∀ k ∈ l, firstErr k.pre = k.er.chk) → firstErr (l.flatMap NT.pre) = T.chks (l.map NT.er) := by
      intro l
      induction l with
      | nil => intro _; rfl
      | cons x r ihr =>
        intro h
        simp only [List.flatMap_cons, firstErr_append, List.map_cons, T.chks]
        rw [h x (by simp), ihr (fun k hk => h k (by simp [hk]))]
    rw [NT.pre_eq, T.chk_eq, NT.er_ks, ← hl n.ks ih]
    rfl
theorem firstErr_all {l : List NT} (h : ∀ (j : Nat) (x : NT), l[j]? = some x → x.er.own = 0) : firstErr l = 0 := by
  induction l with
  | nil => rfl
  | cons x r ih =>
    have h0 := h 0 x rfl
    have := ih (fun j y hy => h (j + 1) y (by simpa using hy))
    simp [firstErr, h0, this]
theorem firstErr_at {l : List NT} {i : Nat} {x : NT} (hx : l[i]? = some x) (hne : x.er.own ≠ 0) (h : ∀ (j : Nat) (y : NT), j < i → l[j]? = some y → y.er.own = 0) : firstErr l = x.er.own := by
  induction l generalizing i with
  | nil => simp at hx
  | cons y r ih =>
    cases i with
    | zero =>
      obtain rfl : y = x := by simpa using hx
      simp [firstErr, hne]
    | succ i =>
      have h0 := h 0 y (by omega) rfl
      have := ih (i := i) (by simpa using hx) (fun j z hj hz => h (j + 1) z (by omega) (by simpa using hz))
      simp [firstErr, h0, this]

/-- the closure's own cell behind i nodes: nothing is wrong -/
def CheckI (n : NT) (s : Nat) (i : Nat) (O : Nat → Prop) (w : World) : Prop :=
  w.cell? ⟨s, 0, none⟩ = some (.int .i64 0) ∧ w.frozen? ⟨s, 0, none⟩ = false ∧ s < w.heap.size ∧ O s ∧ (∀ k, O k → k = s) ∧ ∀ (j : Nat) (y : NT), j < i → n.pre[j]? = some y → y.er.own = 0
def CheckJ (n : NT) (s : Nat) (_ : Nat) (w : World) : Prop :=
  w.cell? ⟨s, 0, none⟩ = some (.int .i64 n.er.chk)

set_option maxHeartbeats 400000 in
theorem checkTo_any (n : NT) (s : Nat) (lo hi : Nat) (hbs : ∀ (i : Nat) (x : NT), n.pre[i]? = some x → x.er.bulk ≤ 1048576) :
    WTo n.pre 157 #[.pointer (some ⟨s, 0, none⟩)] lo hi (CheckI n s) (CheckJ n s) := by
  intro i x hx O w ⟨hc, hf, hsz, hO1, hO2, hall⟩ hin hhi hS
  have C := Lib.hid (fun w' (hg : Grew w w') => own_any x w' lo hi (hin.grew hg hhi) (Nat.le_trans hhi hg.size) (hbs i x hx))
  by_cases hz : x.er.own = 0
  · have HA : Hid (∀ (j : Nat) (y : NT), j < i + 1 → n.pre[j]? = some y → y.er.own = 0) := fun j y hj hy => by
      rcases Nat.lt_or_ge j i with h | h
      · exact hall j y h hy
      · obtain rfl : j = i := by omega
        rw [hx] at hy
        obtain rfl := Option.some.inj hy
        exact hz
    rw [hz] at C
    clear hx hin hS hO2 hall hz hbs
    simp only [NT.val, List.append_toArray, List.cons_append, List.nil_append]
    go_enter Tryz.func157, Tryz.ntmps157
    go_wp2_with fail
    have hz1 : s < (w.alloc (Obj.cells #[.bool x.lf, .slice x.pa x.ps.length x.pc, .slice x.ta x.ts.length x.tc, .slice x.ka x.ks.length x.kc] 26)).heap.size := by simp; omega
    refine (C.out _ (Grew.alloc1 _ _)).mono ?_
    rintro e w1 ⟨rfl, g1⟩
    have g1' := (Grew.alloc1 _ _).trans g1
    have hc1 : w1.cell? ⟨s, 0, none⟩ = some (.int .i64 0) := (g1'.cell hsz).trans hc
    have hf1 : w1.frozen? ⟨s, 0, none⟩ = false := (g1'.frozen hsz).trans hf
    have hs1 : s < w1.heap.size := Nat.lt_of_lt_of_le hz1 g1.size
    clear hc hf
    go_wp2_with fail
    go_ret
    refine ⟨(· = s), ⟨((Keeps.of_below g1').setCell (Or.inr hO1) _), fun k hk => Or.inl (by subst hk; exact hO1)⟩, Or.inl ⟨rfl, ?_, ?_, ?_, rfl, fun _ h => h, HA.out⟩⟩
    · exact World.cell?_setCell_same _ _ _ hc1
    · rw [World.frozen?_setCell]; exact hf1
    · simpa [World.setCell] using hs1
  · have HF := Lib.hid ((firstErr_pre n).symm.trans (firstErr_at hx hz hall))
    have hne : (x.er.own == 0) = false := by simpa using hz
    clear hx hin hS hO2 hall hz hbs
    generalize x.er.own = v at *
    simp only [NT.val, List.append_toArray, List.cons_append, List.nil_append]
    go_enter Tryz.func157, Tryz.ntmps157
    go_wp2_with fail
    have hz1 : s < (w.alloc (Obj.cells #[.bool x.lf, .slice x.pa x.ps.length x.pc, .slice x.ta x.ts.length x.tc, .slice x.ka x.ks.length x.kc] 26)).heap.size := by simp; omega
    refine (C.out _ (Grew.alloc1 _ _)).mono ?_
    rintro e w1 ⟨rfl, g1⟩
    have g1' := (Grew.alloc1 _ _).trans g1
    have hc1 : w1.cell? ⟨s, 0, none⟩ = some (.int .i64 0) := (g1'.cell hsz).trans hc
    have hf1 : w1.frozen? ⟨s, 0, none⟩ = false := (g1'.frozen hsz).trans hf
    have hs1 : s < w1.heap.size := Nat.lt_of_lt_of_le hz1 g1.size
    clear hc hf
    go_wp2_with fail
    go_ret
    refine ⟨(· = s), ⟨((Keeps.of_below g1').setCell (Or.inr hO1) _), fun k hk => Or.inl (by subst hk; exact hO1)⟩, Or.inr ⟨rfl, ?_⟩⟩
    show World.cell? _ _ = some (Value.int .i64 n.er.chk)
    rw [HF.out]
    exact World.cell?_setCell_same _ _ _ hc1

theorem NT.pre_bulk (n : NT) : ∀ x ∈ n.pre, x.er.bulk ≤ n.er.bulk := by
  induction n using NT.ind with
  | h n ih =>
    intro x hx
    rw [NT.pre_eq, List.mem_cons] at hx
    rcases hx with rfl | hx
    · exact Nat.le_refl _
    · obtain ⟨k, hk, hx⟩ := List.mem_flatMap.1 hx
      have h1 := ih k hk x hx
      have h2 := T.bulk_kid (n := n.er) (k := k.er) (by rw [NT.er_ks]; exact er_mem hk)
      omega

set_option maxHeartbeats 400000 in
theorem check04_any (n : NT) (w : World) (hn : n.Ok w) (hb : n.er.bulk ≤ 1048576) :
    Calls Tryz.prog 97 #[n.val] w fun e w' => e = .returned (.int .i64 n.er.chk) ∧ Grew w w' := by
  have SZ := Lib.hid (fun w' (hg : Grew w w') => size_any n w' (hn.grew hg) hb)
  have hle : n.er.size ≤ 1048576 := by have := T.size_le n.er; omega
  have C := Lib.hid (fun s (hs : w.heap.size ≤ s) w1 => walk_any 157 #[.pointer (some ⟨s, 0, none⟩)] 0 w.heap.size (CheckI n s) (CheckJ n s) n (· = s) w1 Tryz.call157 (checkTo_any n s 0 w.heap.size (fun i x hx => by have := NT.pre_bulk n x (List.mem_of_getElem? hx); omega))
    (fun i O w w' h hg => ⟨(hg.cell h.2.2.1).trans h.1, (hg.frozen h.2.2.1).trans h.2.1, Nat.lt_of_lt_of_le h.2.2.1 hg.size, h.2.2.2⟩) (fun i O w h k hk => by rw [h.2.2.2.2.1 k hk]; exact h.2.2.1) (fun k _ h2 => by omega) hb)
  have HO := Lib.hid (firstErr_pre n)
  generalize n.er.size = sz at *
  unfold NT.val
  go_enter Tryz.func97, Tryz.ntmps97
  go_wp2_with fail
  refine (SZ.out _ (Grew.alloc1 _ _)).mono ?_
  rintro e w1 ⟨rfl, g1⟩
  have g1' := (Grew.alloc1 _ _).trans g1
  obtain ⟨c0, c1, c2, c3, z1⟩ := box4 g1
  go_wp2_with fail
  have g2 := g1'.trans (Grew.alloc1 w1 (Obj.cells #[.int .i64 0] 38))
  refine (C.out w1.heap.size g1'.size _ (NT.In.grew hn g2 (Nat.le_refl _)) g2.size ⟨by go_simp, by go_simp, by simp, rfl, fun _ h => h, fun j y hj => by omega⟩).mono ?_
  rintro e w2 ⟨O2, hk2, ⟨rfl, hI2⟩ | ⟨rfl, j, hJ⟩⟩
  · have hc := hI2.1
    have HZ : Hid (n.er.chk = 0) := by
      show _ = _
      rw [← HO.out]
      exact firstErr_all (fun j x hx => hI2.2.2.2.2.2 j x (by
        rcases Nat.lt_or_ge j n.pre.length with h | h
        · exact h
        · rw [List.getElem?_eq_none h] at hx; cases hx) hx)
    go_wp2_with fail
    go_ret
    exact ⟨ret_int HZ.out.symm, g2.keep hk2.1 (fun k h => by subst h; have := g1'.size; omega)⟩
  · have hc : w2.cell? ⟨w1.heap.size, 0, none⟩ = some (.int .i64 n.er.chk) := hJ
    go_wp2_with fail
    go_ret
    exact ⟨rfl, g2.keep hk2.1 (fun k h => by subst h; have := g1'.size; omega)⟩
end Go.Proofs.YtbhbekocmpmjfaaGreatDoor
/- cmp.Compare on strings, prop.Patch's order of properties: the contracts; sorted lists. -/
namespace Go.Proofs.YtbhbekocmpmjfaaGreatDoor
open Go Go.RowKit

/-- cmp.Compare of two strings -/
def cmpS (a b : ByteArray) : Int := if Op.bytesLess a.toList b.toList then -1 else if leS a b then 0 else 1

set_option maxHeartbeats 400000 in
theorem nanS_any (x : ByteArray) (w : World) : Calls Tryz.prog 245 #[.string x] w fun e w' => e = .returned (.bool false) ∧ w' = w := by
  go_enter Tryz.func245, Tryz.ntmps245
  go_wp2
  go_ret
  exact ⟨by simp, rfl⟩

set_option maxHeartbeats 1000000 in
theorem cmpS_any (x y : ByteArray) (w : World) : Calls Tryz.prog 220 #[.string x, .string y] w fun e w' => e = .returned (.int .i64 (cmpS x y)) ∧ w' = w := by
  have NA := Lib.hid (fun x w => nanS_any x w)
  cases h1 : Op.bytesLess x.toList y.toList with
  | true =>
    have HE : Hid (cmpS x y = -1) := by show _ = _; simp [cmpS, h1]
    go_enter Tryz.func220, Tryz.ntmps220
    go_wp2_with fail
    refine (NA.out _ _).mono ?_
    rintro e w1 ⟨rfl, hw⟩
    subst hw
    go_wp2_with fail
    refine (NA.out _ _).mono ?_
    rintro e w2 ⟨rfl, hw⟩
    subst hw
    go_wp2_with fail
    go_ret
    exact ⟨ret_int HE.out.symm, rfl⟩
  | false =>
    cases h2 : leS x y with
    | true =>
      have HE : Hid (cmpS x y = 0) := by show _ = _; simp [cmpS, h1, h2]
      have hx : (x.toList == y.toList) = true := by
        have := h2
        unfold leS at this
        rwa [h1, Bool.false_or] at this
      go_enter Tryz.func220, Tryz.ntmps220
      go_wp2_with fail
      refine (NA.out _ _).mono ?_
      rintro e w1 ⟨rfl, hw⟩
      subst hw
      go_wp2_with fail
      refine (NA.out _ _).mono ?_
      rintro e w2 ⟨rfl, hw⟩
      subst hw
      go_wp2_with fail
      go_ret
      exact ⟨ret_int HE.out.symm, rfl⟩
    | false =>
      have HE : Hid (cmpS x y = 1) := by show _ = _; simp [cmpS, h1, h2]
      have hx : (x.toList == y.toList) = false := by
        have := h2
        unfold leS at this
        rwa [h1, Bool.false_or] at this
      go_enter Tryz.func220, Tryz.ntmps220
      go_wp2_with fail
      refine (NA.out _ _).mono ?_
      rintro e w1 ⟨rfl, hw⟩
      subst hw
      go_wp2_with fail
      refine (NA.out _ _).mono ?_
      rintro e w2 ⟨rfl, hw⟩
      subst hw
      go_wp2_with fail
      go_ret
      exact ⟨ret_int HE.out.symm, rfl⟩

/-- the order of keys -/
def ltS (a b : ByteArray) : Prop := a.data.toList < b.data.toList
theorem bytesLess_ltS (a b : ByteArray) : Op.bytesLess a.toList b.toList = true ↔ ltS a b := by
  rw [bytesLess_eq, ByteArray.toList_eq, ByteArray.toList_eq, decide_eq_true_iff]; rfl
theorem ltS_irrefl (a : ByteArray) : ¬ ltS a a := List.lt_irrefl _
theorem ltS_trans {a b c : ByteArray} (h : ltS a b) (k : ltS b c) : ltS a c := List.lt_trans h k
theorem leS_iff (a b : ByteArray) : leS a b = true ↔ ltS a b ∨ a = b := by
  unfold leS
  rw [Bool.or_eq_true, bytesLess_ltS, toList_beq]
  simp
theorem ltS_tri (a b : ByteArray) : ltS a b ∨ a = b ∨ ltS b a := by
  rcases Classical.em (ltS a b) with h | h
  · exact Or.inl h
  · rcases Classical.em (ltS b a) with k | k
    · exact Or.inr (Or.inr k)
    · refine Or.inr (Or.inl ?_)
      have e := List.le_antisymm (List.not_lt.1 k) (List.not_lt.1 h)
      obtain ⟨⟨x⟩⟩ := a
      obtain ⟨⟨y⟩⟩ := b
      have e : x = y := e
      rw [e]
theorem not_leS (a b : ByteArray) : leS a b = false ↔ ltS b a := by
  rw [← Bool.not_eq_true, leS_iff]
  constructor
  · intro h
    rcases ltS_tri a b with h1 | h1 | h1
    · exact absurd (Or.inl h1) h
    · exact absurd (Or.inr h1) h
    · exact h1
  · rintro h (h1 | h1)
    · exact ltS_irrefl _ (ltS_trans h h1)
    · subst h1; exact ltS_irrefl _ h
/-- keys rise -/
def Up (l : List PropL) : Prop := l.Pairwise fun p q => ltS p.1 q.1
theorem Up.nodup {l : List PropL} (h : Up l) : (l.map (·.1)).Nodup := by
  unfold List.Nodup
  rw [List.pairwise_map]
  exact List.Pairwise.imp (fun {a b : PropL} (hab : ltS a.1 b.1) (e : a.1 = b.1) => ltS_irrefl b.1 (by rw [e] at hab; exact hab)) h
theorem up_of_chk : ∀ {l : List PropL} {last : ByteArray}, chkPs last l = 0 → Up l ∧ ∀ p ∈ l, ltS last p.1
  | [], _, _ => ⟨List.Pairwise.nil, fun p hp => by cases hp⟩
  | p :: r, last, h => by
    simp only [chkPs] at h
    split at h
    · split at h
      · cases h
      · rename_i h2
        obtain ⟨h3, h4⟩ := up_of_chk h
        have h5 : ltS last p.1 := (not_leS _ _).1 (by simpa using h2)
        refine ⟨List.Pairwise.cons (fun q hq => h4 q hq) h3, fun q hq => ?_⟩
        rcases List.mem_cons.1 hq with rfl | hq
        · exact h5
        · exact ltS_trans h5 (h4 q hq)
    · cases h
theorem up_of_check {l : List PropL} (h : checkPs l = 0) : Up l := by
  unfold checkPs at h
  split at h
  · cases h
  · exact (up_of_chk h).1
/-- one list is another one's, in order -/
def IsSort (R ms : List PropL) : Prop := R.Perm ms ∧ Up R
theorem up_unique : ∀ {a b : List PropL}, a.Perm b → Up a → Up b → a = b
  | [], b, h, _, _ => by rw [List.nil_perm.1 h]
  | p :: r, [], h, _, _ => absurd h.length_eq (by simp)
  | p :: r, q :: s, h, ha, hb => by
    have hp : p = q := by
      have h1 : p ∈ q :: s := h.subset List.mem_cons_self
      have h2 : q ∈ p :: r := h.symm.subset List.mem_cons_self
      rcases List.mem_cons.1 h1 with e | e
      · exact e
      · rcases List.mem_cons.1 h2 with e2 | e2
        · exact e2.symm
        · exact absurd (ltS_trans ((List.pairwise_cons.1 ha).1 q e2) ((List.pairwise_cons.1 hb).1 p e)) (ltS_irrefl _)
    subst hp
    rw [up_unique ((List.perm_cons p).1 h) (List.pairwise_cons.1 ha).2 (List.pairwise_cons.1 hb).2]
theorem IsSort.unique {R R' ms : List PropL} (h : IsSort R ms) (h' : IsSort R' ms) : R = R' := up_unique (h.1.trans h'.1.symm) h.2 h'.2
end Go.Proofs.YtbhbekocmpmjfaaGreatDoor
