/- redlineref16.wrong: the contract. -/
import Derived.Test.YtnkmcbhpmbjkpaaRef15
import Derived.Test.YtnkmcbhpmbjkpaaSame01
import Derived.Deep.RegionWith
namespace Go.Proofs.Ytnkmcbhpmbjkpaa
open Go Go.RowKit

/-- whether something of a class is wrong with an element's i-th Kid -/
def refWrongT (r : RuleT) (ks : List T) (c : Int) (i : Nat) : Bool :=
  if c = 1 then decide ((r.actOf (ks.getD i default)).1 = 2) else if c = 2 then decide ((r.actOf (ks.getD i default)).1 = 3) else if c = 3 then decide ((r.actOf (ks.getD i default)).1 = 4)
  else if c = 4 then decide (0 < i) && ((ks.getD i default).lf && (ks.getD (i - 1) default).lf && decide ((ks.getD i default).ps = (ks.getD (i - 1) default).ps))
  else if c = 5 then (ks.getD i default).lf && (ks.getD i default).ts.isEmpty && decide (1 < ks.length) else false
theorem act_class (a : Int) (b : ByteArray) (w : World) : (Instr.field 24 (.agg #[.int .i64 a, .string b]) 0).run Try.prog w = .ok (.int .i64 a) w := by kernel_rfl
theorem getD_er (l : List NT) (i : Nat) (h : i < l.length) : (l.map NT.er).getD i default = (l.getD i default).er := by simp [List.getD, List.getElem?_eq_getElem h]

set_option maxHeartbeats 8000000 in
set_option maxRecDepth 100000 in
theorem refWrong_any (r : RN) (n : NT) (c : Int) (i : Nat) (w : World) (hr : r.In w 0 w.heap.size) (hl : r.kids.length ≤ 1048576) (hn : n.Ok w) (hb : n.er.bulk ≤ 1048576) (hi : i < n.ks.length) :
    Calls Try.prog 34 #[r.val, n.val, .int .i64 c, .int .i64 i] w fun e w' => e = .returned (.bool (refWrongT r.er (n.ks.map NT.er) c i)) ∧ Grew w w' := by
  have hlens := n.lens
  have l3 : n.ks.length ≤ 1048576 := by omega
  clear hlens
  have hkk := (NT.In_iff.1 hn).2.2
  have hmem := getD_mem n.ks i hi
  have hbx := T.bulk_kid (n := n.er) (k := (n.ks.getD i default).er) (by rw [NT.er_ks]; exact er_mem hmem)
  have CA := Lib.hid (fun w1 (hg : Grew w w1) => refActOf_any r (n.ks.getD i default) w1 (RN.In.mono (RN.In.grew hr hg (Nat.le_refl _)) (Nat.le_refl _) hg.size) hl (NT.Ok.grew (w := w) (hkk.2 _ hmem) hg) (by omega))
  have HPS := Lib.hid (fun (y : NT) (hy : y ∈ n.ks) w1 (hg : Grew w w1) => (show PropsIn w1 0 w.heap.size y.pa y.pc y.ps ∧ y.ps.length ≤ 1048576 from ⟨((NT.In_iff.1 (hkk.2 y hy)).1.grew hg (Nat.le_refl _)), by
    have h1 := T.bulk_kid (n := n.er) (k := y.er) (by rw [NT.er_ks]; exact er_mem hy)
    have h2 := y.lens
    omega⟩))
  obtain ⟨b, o, hka, _, hbh, c0, c1, c2, c3⟩ := hkk.at hi
  have HX := Lib.hid (getD_er n.ks i hi)
  have HY := Lib.hid (fun (h : 0 < i) => getD_er n.ks (i - 1) (by omega))
  have HYC := Lib.hid (fun (h : 0 < i) w1 (hg : Grew w w1) => (hkk.grew hg (Nat.le_refl _)).at (j := i - 1) (by omega))
  have HYM := Lib.hid (fun (h : 0 < i) => getD_mem n.ks (i - 1) (by omega))
  clear hbx
  have HKA := Lib.hid hka
  generalize hx : n.ks.getD i default = x at *
  have hxm : x ∈ n.ks := hmem
  have hi2 : (i : Int) < n.ks.length := by omega
  have hbz : b < w.heap.size := hbh
  unfold RN.val NT.val at *
  rw [hka]
  clear hka hx
  go_enter Try.func34, Try.ntmps34
  go_upto_region 2 with fail
  have g1 : Grew w (((w.alloc (.cells #[.string r.ty, .int .i64 r.td, .string r.tt, .int .i64 r.od, .string r.ot, .slice r.ka r.kids.length r.kc, .int .i64 r.fill, .string r.ft] 27)).alloc (.cells #[.bool n.lf, .slice n.pa n.ps.length n.pc, .slice n.ta n.ts.length n.tc, .slice (some ⟨b, o, none⟩) n.ks.length n.kc] 35)).alloc (.cells #[.bool x.lf, .slice x.pa x.ps.length x.pc, .slice x.ta x.ts.length x.tc, .slice x.ka x.ks.length x.kc] 35)) := ((Grew.alloc1 _ _).alloc _).alloc _
  have hrb : ((((w.alloc (.cells #[.string r.ty, .int .i64 r.td, .string r.tt, .int .i64 r.od, .string r.ot, .slice r.ka r.kids.length r.kc, .int .i64 r.fill, .string r.ft] 27)).alloc (.cells #[.bool n.lf, .slice n.pa n.ps.length n.pc, .slice n.ta n.ts.length n.tc, .slice (some ⟨b, o, none⟩) n.ks.length n.kc] 35)).alloc (.cells #[.bool x.lf, .slice x.pa x.ps.length x.pc, .slice x.ta x.ts.length x.tc, .slice x.ka x.ks.length x.kc] 35)).cell? ⟨w.heap.size, 0, none⟩ = some (.string r.ty) ∧ (((w.alloc (.cells #[.string r.ty, .int .i64 r.td, .string r.tt, .int .i64 r.od, .string r.ot, .slice r.ka r.kids.length r.kc, .int .i64 r.fill, .string r.ft] 27)).alloc (.cells #[.bool n.lf, .slice n.pa n.ps.length n.pc, .slice n.ta n.ts.length n.tc, .slice (some ⟨b, o, none⟩) n.ks.length n.kc] 35)).alloc (.cells #[.bool x.lf, .slice x.pa x.ps.length x.pc, .slice x.ta x.ts.length x.tc, .slice x.ka x.ks.length x.kc] 35)).cell? ⟨w.heap.size, 1, none⟩ = some (.int .i64 r.td) ∧ (((w.alloc (.cells #[.string r.ty, .int .i64 r.td, .string r.tt, .int .i64 r.od, .string r.ot, .slice r.ka r.kids.length r.kc, .int .i64 r.fill, .string r.ft] 27)).alloc (.cells #[.bool n.lf, .slice n.pa n.ps.length n.pc, .slice n.ta n.ts.length n.tc, .slice (some ⟨b, o, none⟩) n.ks.length n.kc] 35)).alloc (.cells #[.bool x.lf, .slice x.pa x.ps.length x.pc, .slice x.ta x.ts.length x.tc, .slice x.ka x.ks.length x.kc] 35)).cell? ⟨w.heap.size, 2, none⟩ = some (.string r.tt) ∧ (((w.alloc (.cells #[.string r.ty, .int .i64 r.td, .string r.tt, .int .i64 r.od, .string r.ot, .slice r.ka r.kids.length r.kc, .int .i64 r.fill, .string r.ft] 27)).alloc (.cells #[.bool n.lf, .slice n.pa n.ps.length n.pc, .slice n.ta n.ts.length n.tc, .slice (some ⟨b, o, none⟩) n.ks.length n.kc] 35)).alloc (.cells #[.bool x.lf, .slice x.pa x.ps.length x.pc, .slice x.ta x.ts.length x.tc, .slice x.ka x.ks.length x.kc] 35)).cell? ⟨w.heap.size, 3, none⟩ = some (.int .i64 r.od) ∧ (((w.alloc (.cells #[.string r.ty, .int .i64 r.td, .string r.tt, .int .i64 r.od, .string r.ot, .slice r.ka r.kids.length r.kc, .int .i64 r.fill, .string r.ft] 27)).alloc (.cells #[.bool n.lf, .slice n.pa n.ps.length n.pc, .slice n.ta n.ts.length n.tc, .slice (some ⟨b, o, none⟩) n.ks.length n.kc] 35)).alloc (.cells #[.bool x.lf, .slice x.pa x.ps.length x.pc, .slice x.ta x.ts.length x.tc, .slice x.ka x.ks.length x.kc] 35)).cell? ⟨w.heap.size, 4, none⟩ = some (.string r.ot) ∧ (((w.alloc (.cells #[.string r.ty, .int .i64 r.td, .string r.tt, .int .i64 r.od, .string r.ot, .slice r.ka r.kids.length r.kc, .int .i64 r.fill, .string r.ft] 27)).alloc (.cells #[.bool n.lf, .slice n.pa n.ps.length n.pc, .slice n.ta n.ts.length n.tc, .slice (some ⟨b, o, none⟩) n.ks.length n.kc] 35)).alloc (.cells #[.bool x.lf, .slice x.pa x.ps.length x.pc, .slice x.ta x.ts.length x.tc, .slice x.ka x.ks.length x.kc] 35)).cell? ⟨w.heap.size, 5, none⟩ = some (.slice r.ka r.kids.length r.kc) ∧ (((w.alloc (.cells #[.string r.ty, .int .i64 r.td, .string r.tt, .int .i64 r.od, .string r.ot, .slice r.ka r.kids.length r.kc, .int .i64 r.fill, .string r.ft] 27)).alloc (.cells #[.bool n.lf, .slice n.pa n.ps.length n.pc, .slice n.ta n.ts.length n.tc, .slice (some ⟨b, o, none⟩) n.ks.length n.kc] 35)).alloc (.cells #[.bool x.lf, .slice x.pa x.ps.length x.pc, .slice x.ta x.ts.length x.tc, .slice x.ka x.ks.length x.kc] 35)).cell? ⟨w.heap.size, 6, none⟩ = some (.int .i64 r.fill) ∧ (((w.alloc (.cells #[.string r.ty, .int .i64 r.td, .string r.tt, .int .i64 r.od, .string r.ot, .slice r.ka r.kids.length r.kc, .int .i64 r.fill, .string r.ft] 27)).alloc (.cells #[.bool n.lf, .slice n.pa n.ps.length n.pc, .slice n.ta n.ts.length n.tc, .slice (some ⟨b, o, none⟩) n.ks.length n.kc] 35)).alloc (.cells #[.bool x.lf, .slice x.pa x.ps.length x.pc, .slice x.ta x.ts.length x.tc, .slice x.ka x.ks.length x.kc] 35)).cell? ⟨w.heap.size, 7, none⟩ = some (.string r.ft)) := ⟨by go_simp, by go_simp, by go_simp, by go_simp, by go_simp, by go_simp, by go_simp, by go_simp⟩
  have hn3 : (((w.alloc (.cells #[.string r.ty, .int .i64 r.td, .string r.tt, .int .i64 r.od, .string r.ot, .slice r.ka r.kids.length r.kc, .int .i64 r.fill, .string r.ft] 27)).alloc (.cells #[.bool n.lf, .slice n.pa n.ps.length n.pc, .slice n.ta n.ts.length n.tc, .slice (some ⟨b, o, none⟩) n.ks.length n.kc] 35)).alloc (.cells #[.bool x.lf, .slice x.pa x.ps.length x.pc, .slice x.ta x.ts.length x.tc, .slice x.ka x.ks.length x.kc] 35)).cell? ⟨w.heap.size + 1, 3, none⟩ = some (.slice (some ⟨b, o, none⟩) n.ks.length n.kc) := by go_simp
  have hxb : NT.Box x (w.heap.size + 1 + 1) (((w.alloc (.cells #[.string r.ty, .int .i64 r.td, .string r.tt, .int .i64 r.od, .string r.ot, .slice r.ka r.kids.length r.kc, .int .i64 r.fill, .string r.ft] 27)).alloc (.cells #[.bool n.lf, .slice n.pa n.ps.length n.pc, .slice n.ta n.ts.length n.tc, .slice (some ⟨b, o, none⟩) n.ks.length n.kc] 35)).alloc (.cells #[.bool x.lf, .slice x.pa x.ps.length x.pc, .slice x.ta x.ts.length x.tc, .slice x.ka x.ks.length x.kc] 35)) := ⟨by go_simp, by go_simp, by go_simp, by go_simp⟩
  have z1 : w.heap.size + 3 ≤ (((w.alloc (.cells #[.string r.ty, .int .i64 r.td, .string r.tt, .int .i64 r.od, .string r.ot, .slice r.ka r.kids.length r.kc, .int .i64 r.fill, .string r.ft] 27)).alloc (.cells #[.bool n.lf, .slice n.pa n.ps.length n.pc, .slice n.ta n.ts.length n.tc, .slice (some ⟨b, o, none⟩) n.ks.length n.kc] 35)).alloc (.cells #[.bool x.lf, .slice x.pa x.ps.length x.pc, .slice x.ta x.ts.length x.tc, .slice x.ka x.ks.length x.kc] 35)).heap.size := by simp
  clear c0 c1 c2 c3
  generalize ((w.alloc (.cells #[.string r.ty, .int .i64 r.td, .string r.tt, .int .i64 r.od, .string r.ot, .slice r.ka r.kids.length r.kc, .int .i64 r.fill, .string r.ft] 27)).alloc (.cells #[.bool n.lf, .slice n.pa n.ps.length n.pc, .slice n.ta n.ts.length n.tc, .slice (some ⟨b, o, none⟩) n.ks.length n.kc] 35)).alloc (.cells #[.bool x.lf, .slice x.pa x.ps.length x.pc, .slice x.ta x.ts.length x.tc, .slice x.ka x.ks.length x.kc] 35) = w1 at *
  obtain ⟨r0, r1, r2, r3, r4, r5, r6, r7⟩ := hrb
  have HXB := Lib.hid hxb
  obtain ⟨x0, x1, x2, x3⟩ := hxb
  go_wp2_with fail
  refine (CA.out w1 g1).mono ?_
  rintro e w2 ⟨rfl, g2⟩
  have hxb2 := HXB.out.keep (g2.keeps Noth) (by omega) (fun h => h)
  have hn32 : w2.cell? ⟨w.heap.size + 1, 3, none⟩ = some (.slice (some ⟨b, o, none⟩) n.ks.length n.kc) := (g2.cell (p := ⟨w.heap.size + 1, 3, none⟩) (by show w.heap.size + 1 < _; omega)).trans hn3
  have G2 := g1.trans g2
  have hz2 : w.heap.size + 3 ≤ w2.heap.size := Nat.le_trans z1 g2.size
  have hbz2 : b < w2.heap.size := by omega
  clear r0 r1 r2 r3 r4 r5 r6 r7 x0 x1 x2 x3 hn3 HXB CA g1 g2 z1
  unfold actVal
  have HQ : Hid (∀ d, refWrongT r.er (n.ks.map NT.er) 1 i = decide ((r.er.actOf x.er).1 = 2) ∧ refWrongT r.er (n.ks.map NT.er) 2 i = decide ((r.er.actOf x.er).1 = 3) ∧ refWrongT r.er (n.ks.map NT.er) 3 i = decide ((r.er.actOf x.er).1 = 4) ∧ (d : Nat) = d) := fun d => by
    unfold refWrongT
    rw [HX.out]
    exact ⟨rfl, rfl, rfl, rfl⟩
  generalize r.er.actOf x.er = a at *
  obtain ⟨a1, a2⟩ := a
  have hac := act_class a1 a2
  by_cases h1 : c = 1
  · subst h1
    go_wp2_with fail
    go_ret
    exact ⟨ret_bool (by rw [(HQ.out 0).1]; rfl), G2⟩
  · have e1 : (c == 1) = false := by simpa using h1
    by_cases h2 : c = 2
    · subst h2
      go_wp2_with fail
      go_ret
      exact ⟨ret_bool (by rw [(HQ.out 0).2.1]; rfl), G2⟩
    · have e2 : (c == 2) = false := by simpa using h2
      by_cases h3 : c = 3
      · subst h3
        go_wp2_with fail
        go_ret
        exact ⟨ret_bool (by rw [(HQ.out 0).2.2.1]; rfl), G2⟩
      · have e3 : (c == 3) = false := by simpa using h3
        by_cases h5 : c = 5
        · subst h5
          have HR : Hid (refWrongT r.er (n.ks.map NT.er) 5 i = (x.lf && x.ts.isEmpty && decide (1 < n.ks.length))) := by
            show _ = _
            unfold refWrongT
            rw [HX.out]
            simp
          obtain ⟨x0, x1, x2, x3⟩ := hxb2
          clear HQ HX HY HYC HYM HPS
          cases hlf : x.lf with
          | false =>
            rw [hlf] at x0 HR
            clear hlf
            go_wp2_with fail
            go_ret
            exact ⟨ret_bool (by rw [HR.out]; rfl), G2⟩
          | true =>
            rw [hlf] at x0 HR
            clear hlf
            by_cases hte : x.ts.length = 0
            · have ht : ((x.ts.length : Int) == 0) = true := by simp [hte]
              have HE : Hid (x.ts.isEmpty = true) := by show _ = _; rw [List.isEmpty_iff_length_eq_zero]; exact hte
              clear hte
              go_wp2_with fail
              go_ret
              exact ⟨ret_bool (by rw [HR.out, HE.out]; simp; omega), G2⟩
            · have ht : ((x.ts.length : Int) == 0) = false := by simpa using hte
              have HE : Hid (x.ts.isEmpty = false) := by show _ = _; rw [Bool.eq_false_iff]; intro h; exact hte (List.isEmpty_iff_length_eq_zero.1 h)
              clear hte
              go_wp2_with fail
              go_ret
              exact ⟨ret_bool (by rw [HR.out, HE.out]; rfl), G2⟩
        · have e5 : (c == 5) = false := by simpa using h5
          by_cases h4 : c = 4
          · subst h4
            cases i with
            | zero =>
              have HR : Hid (refWrongT r.er (n.ks.map NT.er) 4 0 = false) := by show _ = _; rfl
              clear HQ HX HY HYC HYM HPS
              go_wp2_with fail
              go_region
              all_goals
                go_wp2_with fail
                go_ret
                exact ⟨ret_bool (by rw [HR.out]), G2.drew⟩
            | succ m =>
              have HR : Hid (refWrongT r.er (n.ks.map NT.er) 4 (m + 1) = (x.lf && (n.ks.getD m default).lf && decide (x.ps = (n.ks.getD m default).ps))) := by
                show _ = _
                unfold refWrongT
                rw [HX.out, show m + 1 - 1 = m from rfl, getD_er n.ks m (by omega)]
                simp
              obtain ⟨b', o', hka', _, _, d0, d1, d2, d3⟩ := HYC.out (by omega) w2 G2
              rw [show m + 1 - 1 = m from rfl] at d0 d1 d2 d3
              have hym : n.ks.getD m default ∈ n.ks := HYM.out (by omega)
              rw [HKA.out] at hka'
              obtain ⟨rfl, rfl⟩ : b = b' ∧ o = o' := by injection hka' with h; injection h with h h'; exact ⟨h, h'⟩
              have HP := Lib.hid (fun w3 (hg : Grew w w3) => refSame01_any x.pa (n.ks.getD m default).pa x.pc (n.ks.getD m default).pc x.ps (n.ks.getD m default).ps w3 _ _ _ _ (HPS.out x hxm w3 hg).1 (HPS.out _ hym w3 hg).1 (HPS.out x hxm w3 hg).2 (HPS.out _ hym w3 hg).2 hg.size hg.size)
              clear HQ HX HY HYC HYM HPS hym hka'
              generalize n.ks.getD m default = y at *
              obtain ⟨x0, x1, x2, x3⟩ := hxb2
              rw [show (((m + 1 : Nat)) : Int) = (m : Int) + 1 from rfl] at *
              have hml : (m : Int) < n.ks.length := by omega
              have hm0 : (0 : Int) < (m : Int) + 1 := by omega
              have hmw : IntKind.i64.wrap (m : Int) = m := by rw [IntKind.wrap_i64]; omega
              have hmw1 : IntKind.i64.wrap ((m : Int) + 1 - 1) = m := by rw [IntKind.wrap_i64]; omega
              have hm00 : (0 : Int) ≤ m := by omega
              cases hxl : x.lf with
              | false =>
                rw [hxl] at x0 HR
                clear hxl HP
                go_wp2_with fail
                go_region
                all_goals
                  go_wp2_with fail
                  go_ret
                  exact ⟨ret_bool (by rw [HR.out]; rfl), G2.drew⟩
              | true =>
                rw [hxl] at x0 HR
                clear hxl
                cases hyl : y.lf with
                | false =>
                  rw [hyl] at d0 HR
                  clear hyl HP
                  go_wp2_with fail
                  go_region
                  all_goals
                    go_wp2_with fail
                    go_ret
                    exact ⟨ret_bool (by rw [HR.out]; rfl), G2.drew⟩
                | true =>
                  rw [hyl] at d0 HR
                  clear hyl
                  generalize decide (x.ps = y.ps) = v at *
                  go_wp2_with fail
                  go_region_with (go_at_call 56; refine (HP.out _ G2.drew).mono ?_; rintro e w3 ⟨rfl, g3⟩)
                  all_goals
                    go_wp2_with fail
                    go_ret
                    exact ⟨ret_bool (by rw [HR.out]; rfl), G2.drew.trans g3⟩
          · have e4 : (c == 4) = false := by simpa using h4
            have HR : Hid (refWrongT r.er (n.ks.map NT.er) c i = false) := by
              show _ = _
              unfold refWrongT
              rw [if_neg h1, if_neg h2, if_neg h3, if_neg h4, if_neg h5]
            clear HQ HX HY HYC HYM HPS
            go_wp2_with fail
            go_ret
            exact ⟨ret_bool (by rw [HR.out]), G2⟩
end Go.Proofs.Ytnkmcbhpmbjkpaa
