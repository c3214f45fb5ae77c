/- slices.EqualFunc on nodes, node.Same, redlineref04.Same: the contracts. A region that draws its order and whose callees make memory of their own alone: one walk. -/
import Derived.Test.YtmekodocibnniaaDoorSame01
import Derived.Test.YtmekodocibnniaaDoorRunes
import Derived.Test.YtmekodocibnniaaDoorLater
namespace Go.Proofs.YtmekodocibnniaaDoor
open Go Go.RowKit

/-- two lists of trees are the same, read side by side from the k-th on -/
theorem take_ne {α : Type} [Inhabited α] {xs ys : List α} {k : Nat} (h : xs.getD k default ≠ ys.getD k default) : xs ≠ ys := fun e => h (by rw [e])


theorem er_eq_iff (n m : NT) : n.er = m.er ↔ n.lf = m.lf ∧ n.ps = m.ps ∧ n.ts = m.ts ∧ n.ks.map NT.er = m.ks.map NT.er := by
  rw [NT.er_eq, NT.er_eq, T.mk.injEq]


set_option maxHeartbeats 2000000 in
theorem refSame04_any (n : NT) : ∀ (m : NT) (w : World), n.Ok w → m.Ok w → n.er.bulk ≤ 1048576 → m.er.bulk ≤ 1048576 →
    Calls Tryd.prog 40 #[n.val, m.val] w fun e w' => e = .returned (.bool (decide (n.er = m.er))) ∧ Grew w w' := by
  induction n using NT.ind with
  | h n ih =>
  intro m w hn hm hbn hbm
  have hin := NT.In_iff.1 hn
  have him := NT.In_iff.1 hm
  have hl1 := n.lens
  have hl2 := m.lens
  have l1 : n.ps.length ≤ 1048576 := by omega
  have l2 : m.ps.length ≤ 1048576 := by omega
  have l3 : n.ts.length ≤ 1048576 := by omega
  have l4 : m.ts.length ≤ 1048576 := by omega
  have l5 : n.ks.length ≤ 1048576 := by omega
  have l6 : m.ks.length ≤ 1048576 := by omega
  clear hl1 hl2
  have gb : ∀ o1 o2, Grew w ((w.alloc o1).alloc o2) := fun o1 o2 => ((Grew.refl w).alloc o1).alloc o2
  have PS := Lib.hid (fun w' (hg : Grew w w') => refSame01_any n.pa m.pa n.pc m.pc n.ps m.ps w' _ _ _ _ (hin.1.grew hg (Nat.le_refl _)) (him.1.grew hg (Nat.le_refl _)) l1 l2 hg.size hg.size)
  have TS := Lib.hid (fun w' (hg : Grew w w') => same03_any n.ta m.ta n.tc m.tc n.ts m.ts w' _ _ _ _ (hin.2.1.grew hg (Nat.le_refl _)) (him.2.1.grew hg (Nat.le_refl _)) l3 l4 hg.size hg.size)
  have KC := Lib.hid (fun x hx y hy w1 hg1 => ih x hx y w1 (NT.In.ok ((hin.2.2.2 x hx).grew hg1 (Nat.le_refl _)) (Grew.size hg1)) (NT.In.ok ((him.2.2.2 y hy).grew hg1 (Nat.le_refl _)) (Grew.size hg1)) (by have := T.bulk_kid (n := n.er) (k := x.er) (by rw [NT.er_ks]; exact er_mem hx); omega) (by have := T.bulk_kid (n := m.er) (k := y.er) (by rw [NT.er_ks]; exact er_mem hy); omega))
  have hkn := hin.2.2
  have hkm := him.2.2
  have EI := er_eq_iff n m
  clear ih hin him
  unfold NT.val
  by_cases h1 : n.lf = m.lf
  · have t1 : (n.lf == m.lf) = true := by simpa using h1
    rw [eq_true h1, true_and] at EI
    clear h1
    cases h2 : decide (n.ps = m.ps) with
    | false =>
      have HN : Hid (decide (n.er = m.er) = false) := by show _ = _; simp only [decide_eq_false_iff_not] at h2 ⊢; rw [EI]; exact fun h => h2 h.1
      rw [h2] at PS
      clear h2 EI
      go_enter Tryd.func40, Tryd.ntmps40
      go_wp2_with fail
      refine (PS.out _ (gb _ _)).mono ?_
      rintro e w1 ⟨rfl, g1⟩
      go_wp2_with fail
      go_ret
      exact ⟨ret_bool (by rw [HN.out]), (gb _ _).trans g1⟩
    | true =>
      rw [eq_true (of_decide_eq_true h2), true_and] at EI
      rw [h2] at PS
      clear h2
      cases h3 : decide (n.ts = m.ts) with
      | false =>
        have HN : Hid (decide (n.er = m.er) = false) := by show _ = _; simp only [decide_eq_false_iff_not] at h3 ⊢; rw [EI]; exact fun h => h3 h.1
        rw [h3] at TS
        clear h3 EI
        go_enter Tryd.func40, Tryd.ntmps40
        go_wp2_with fail
        refine (PS.out _ (gb _ _)).mono ?_
        rintro e w1 ⟨rfl, g1⟩
        obtain ⟨c0, c1, c2, c3, z1⟩ := box4 ((Grew.alloc1 _ _).trans g1)
        obtain ⟨d0, d1, d2, d3⟩ := box2 g1
        go_wp2_with fail
        refine (TS.out _ ((gb _ _).trans g1)).mono ?_
        rintro e w2 ⟨rfl, g2⟩
        go_wp2_with fail
        go_ret
        exact ⟨ret_bool (by rw [HN.out]), (gb _ _).trans (g1.trans g2)⟩
      | true =>
        rw [eq_true (of_decide_eq_true h3), true_and] at EI
        rw [h3] at TS
        clear h3
        by_cases h4 : n.ks.length = m.ks.length
        · have t4 : ((n.ks.length : Int) != m.ks.length) = false := by simp [h4]
          have hle : n.ks.length ≤ m.ks.length := by omega
          have HL := Lib.hid h4
          have HE := Lib.hid EI
          clear h4 EI
          go_enter Tryd.func40, Tryd.ntmps40
          go_wp2_with fail
          refine (PS.out _ (gb _ _)).mono ?_
          rintro e w1 ⟨rfl, g1⟩
          obtain ⟨c0, c1, c2, c3, z1⟩ := box4 ((Grew.alloc1 _ _).trans g1)
          obtain ⟨d0, d1, d2, d3⟩ := box2 g1
          go_wp2_with fail
          refine (TS.out _ ((gb _ _).trans g1)).mono ?_
          rintro e w2 ⟨rfl, g2⟩
          clear c0 c1 c2 c3 d0 d1 d2 d3
          obtain ⟨c0, c1, c2, c3, z2⟩ := box4 ((Grew.alloc1 _ _).trans (g1.trans g2))
          obtain ⟨d0, d1, d2, d3⟩ := box2 (g1.trans g2)
          have z3 : w.heap.size + 1 < w2.heap.size := by have := (g1.trans g2).size; simp at this; omega
          have G2 := (gb _ _).trans (g1.trans g2)
          generalize n.ka = na at *
          generalize m.ka = ma at *
          go_wp2_with fail
          go_loopw [39] (fun i wr => ∃ (k : Nat), k ≤ n.ks.length ∧ i = .int .i64 k ∧ Grew w2 wr ∧ (n.ks.map NT.er).take k = (m.ks.map NT.er).take k) (fun i _ => n.ks.length - (intOf i).toNat)
          case atStart => exact ⟨0, by omega, rfl, Grew.refl _, by simp⟩
          case round =>
            obtain ⟨k, hk1, rfl, hg, he⟩ := hrel
            have HK := Lib.hid he
            clear he
            by_cases hlt : k < n.ks.length
            · have GR := G2.trans hg
              obtain ⟨b1, o1, rfl, _, hb1, hc0, hc1, hc2, hc3⟩ := (hkn.grew GR (Nat.le_refl _)).at hlt
              obtain ⟨b2, o2, rfl, _, hb2, hd0, hd1, hd2, hd3⟩ := (hkm.grew GR (Nat.le_refl _)).at (j := k) (by omega)
              have hb1' : b1 < wr.heap.size := by have := GR.size; omega
              have hb2' : b2 < wr.heap.size := by have := GR.size; omega
              have hy1 : (k : Int) < (m.ks.length : Int) := by omega
              have HC1 := Lib.hid (fun w1 hg1 => KC.out _ (getD_mem n.ks k hlt) _ (getD_mem m.ks k (by omega)) w1 hg1)
              have HT : Hid ((n.ks.map NT.er).take (k + 1) = (n.ks.map NT.er).take k ++ [(n.ks.getD k default).er] ∧ (m.ks.map NT.er).take (k + 1) = (m.ks.map NT.er).take k ++ [(m.ks.getD k default).er]) := ⟨kids_take n.ks k hlt, kids_take m.ks k (by omega)⟩
              have q3 : ∀ x : Later wr, x.v.cell? ⟨w.heap.size, 3, none⟩ = some (.slice (some ⟨b1, o1, none⟩) n.ks.length n.kc) := fun x => by
                rw [x.g.cell (by have := hg.size; show w.heap.size < _; omega), hg.cell (by exact z2)]; exact c3
              have q7 : ∀ x : Later wr, x.v.cell? ⟨w.heap.size + 1, 3, none⟩ = some (.slice (some ⟨b2, o2, none⟩) m.ks.length m.kc) := fun x => by
                rw [x.g.cell (by have := hg.size; show w.heap.size + 1 < _; omega), hg.cell (by exact z3)]; exact d3
              cases hxy : decide ((n.ks.getD k default).er = (m.ks.getD k default).er) with
              | true =>
                have HX : Hid ((n.ks.map NT.er).take (k + 1) = (m.ks.map NT.er).take (k + 1)) := by
                  show _ = _
                  rw [HT.out.1, HT.out.2, HK.out, of_decide_eq_true hxy]
                rw [hxy] at HC1
                clear hxy HT
                generalize n.ks.getD k default = p at *
                generalize m.ks.getD k default = q at *
                have e0 : ∀ x : Later wr, x.v.cell? ⟨b1, o1 + k * 4, none⟩ = some (.bool p.lf) := fun x => (x.g.cell (by exact hb1')).trans hc0
                have e1 : ∀ x : Later wr, x.v.cell? ⟨b1, o1 + k * 4 + 1, none⟩ = some (.slice p.pa p.ps.length p.pc) := fun x => (x.g.cell (by exact hb1')).trans hc1
                have e2 : ∀ x : Later wr, x.v.cell? ⟨b1, o1 + k * 4 + 2, none⟩ = some (.slice p.ta p.ts.length p.tc) := fun x => (x.g.cell (by exact hb1')).trans hc2
                have e3 : ∀ x : Later wr, x.v.cell? ⟨b1, o1 + k * 4 + 3, none⟩ = some (.slice p.ka p.ks.length p.kc) := fun x => (x.g.cell (by exact hb1')).trans hc3
                have f0 : ∀ x : Later wr, x.v.cell? ⟨b2, o2 + k * 4, none⟩ = some (.bool q.lf) := fun x => (x.g.cell (by exact hb2')).trans hd0
                have f1 : ∀ x : Later wr, x.v.cell? ⟨b2, o2 + k * 4 + 1, none⟩ = some (.slice q.pa q.ps.length q.pc) := fun x => (x.g.cell (by exact hb2')).trans hd1
                have f2 : ∀ x : Later wr, x.v.cell? ⟨b2, o2 + k * 4 + 2, none⟩ = some (.slice q.ta q.ts.length q.tc) := fun x => (x.g.cell (by exact hb2')).trans hd2
                have f3 : ∀ x : Later wr, x.v.cell? ⟨b2, o2 + k * 4 + 3, none⟩ = some (.slice q.ka q.ks.length q.kc) := fun x => (x.g.cell (by exact hb2')).trans hd3
                have HC2 := Lib.hid (fun x : Later wr => HC1.out x.v (GR.trans x.g))
                unfold NT.val at HC2
                go_wp2_with fail
                refine wp_region_later (by kernel_rfl) (by kernel_rfl) ?_
                repeat (go_big_quiet_step (exact calls_later (HC2.out _)))
                refine wpQuiet_nil ?_
                rintro _ ⟨x, rfl⟩
                go_wp2_with fail
                go_roundw
                case rel => exact ⟨k + 1, by omega, by go_num, hg.trans x.g, HX.out⟩
                case measure => simp [intOf]; omega
              | false =>
                have HN : Hid (decide (n.er = m.er) = false) := by
                  show _ = _
                  simp only [decide_eq_false_iff_not] at hxy ⊢
                  rw [HE.out]
                  intro e
                  have h1 := congrArg (fun l => l.take (k + 1)) e
                  simp only [HT.out.1, HT.out.2, HK.out] at h1
                  exact hxy (by simpa using h1)
                rw [hxy] at HC1
                clear hxy HT
                generalize n.ks.getD k default = p at *
                generalize m.ks.getD k default = q at *
                have e0 : ∀ x : Later wr, x.v.cell? ⟨b1, o1 + k * 4, none⟩ = some (.bool p.lf) := fun x => (x.g.cell (by exact hb1')).trans hc0
                have e1 : ∀ x : Later wr, x.v.cell? ⟨b1, o1 + k * 4 + 1, none⟩ = some (.slice p.pa p.ps.length p.pc) := fun x => (x.g.cell (by exact hb1')).trans hc1
                have e2 : ∀ x : Later wr, x.v.cell? ⟨b1, o1 + k * 4 + 2, none⟩ = some (.slice p.ta p.ts.length p.tc) := fun x => (x.g.cell (by exact hb1')).trans hc2
                have e3 : ∀ x : Later wr, x.v.cell? ⟨b1, o1 + k * 4 + 3, none⟩ = some (.slice p.ka p.ks.length p.kc) := fun x => (x.g.cell (by exact hb1')).trans hc3
                have f0 : ∀ x : Later wr, x.v.cell? ⟨b2, o2 + k * 4, none⟩ = some (.bool q.lf) := fun x => (x.g.cell (by exact hb2')).trans hd0
                have f1 : ∀ x : Later wr, x.v.cell? ⟨b2, o2 + k * 4 + 1, none⟩ = some (.slice q.pa q.ps.length q.pc) := fun x => (x.g.cell (by exact hb2')).trans hd1
                have f2 : ∀ x : Later wr, x.v.cell? ⟨b2, o2 + k * 4 + 2, none⟩ = some (.slice q.ta q.ts.length q.tc) := fun x => (x.g.cell (by exact hb2')).trans hd2
                have f3 : ∀ x : Later wr, x.v.cell? ⟨b2, o2 + k * 4 + 3, none⟩ = some (.slice q.ka q.ks.length q.kc) := fun x => (x.g.cell (by exact hb2')).trans hd3
                have HC2 := Lib.hid (fun x : Later wr => HC1.out x.v (GR.trans x.g))
                unfold NT.val at HC2
                go_wp2_with fail
                refine wp_region_later (by kernel_rfl) (by kernel_rfl) ?_
                repeat (go_big_quiet_step (exact calls_later (HC2.out _)))
                refine wpQuiet_nil ?_
                rintro _ ⟨x, rfl⟩
                go_wp2_with fail
                go_ret
                exact ⟨ret_bool (by rw [HN.out]), GR.trans x.g⟩
            · have HN : Hid (decide (n.er = m.er) = true) := by
                show _ = _
                simp only [decide_eq_true_eq]
                rw [HE.out]
                have := HK.out
                rw [List.take_of_length_le (by simp; omega), List.take_of_length_le (by have := HL.out; simp; omega)] at this
                exact this
              go_wp2_with fail
              go_ret
              exact ⟨ret_bool (by rw [HN.out]), G2.trans hg⟩
        · have t4 : ((n.ks.length : Int) != m.ks.length) = true := by simp; omega
          have HN : Hid (decide (n.er = m.er) = false) := by
            show _ = _
            simp only [decide_eq_false_iff_not]
            rw [EI]
            intro e
            have := congrArg List.length e
            simp at this
            exact h4 this
          clear h4 EI
          go_enter Tryd.func40, Tryd.ntmps40
          go_wp2_with fail
          refine (PS.out _ (gb _ _)).mono ?_
          rintro e w1 ⟨rfl, g1⟩
          obtain ⟨c0, c1, c2, c3, z1⟩ := box4 ((Grew.alloc1 _ _).trans g1)
          obtain ⟨d0, d1, d2, d3⟩ := box2 g1
          go_wp2_with fail
          refine (TS.out _ ((gb _ _).trans g1)).mono ?_
          rintro e w2 ⟨rfl, g2⟩
          clear c0 c1 c2 c3 d0 d1 d2 d3
          obtain ⟨c0, c1, c2, c3, z2⟩ := box4 ((Grew.alloc1 _ _).trans (g1.trans g2))
          obtain ⟨d0, d1, d2, d3⟩ := box2 (g1.trans g2)
          go_wp2_with fail
          go_ret
          exact ⟨ret_bool (by rw [HN.out]), (gb _ _).trans (g1.trans g2)⟩
  · have t1 : (n.lf == m.lf) = false := by simpa using h1
    have HN : Hid (decide (n.er = m.er) = false) := by show _ = _; simp only [decide_eq_false_iff_not]; rw [EI]; exact fun h => h1 h.1
    clear h1 EI
    go_enter Tryd.func40, Tryd.ntmps40
    go_wp2_with fail
    go_ret
    exact ⟨ret_bool (by rw [HN.out]), gb _ _⟩
end Go.Proofs.YtmekodocibnniaaDoor
