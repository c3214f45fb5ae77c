/- slices.EqualFunc on nodes, node.Same, redlineref04.Same: the contracts. A region that draws its order and whose callees make memory of their own alone: one walk. -/
import Derived.Test.YtbhbekocmpmjfaaGreatDoorK09
import Derived.Test.YtbhbekocmpmjfaaGreatDoorK07
import Derived.Test.YtbhbekocmpmjfaaGreatDoorK01
import Derived.Laws.BytesArg
import Derived.Lib.AppendZerosOnto
import Derived.Lib.SliceRun
import Derived.Laws.OwnMore
namespace Go.Proofs.YtbhbekocmpmjfaaGreatDoor
open Go Go.RowKit
set_option maxHeartbeats 400000 in
theorem equalNodes_any (xs ys : List NT) (a b : Option Addr) (c d : Nat) (pf : FuncId) (w : World)
  (eg : ∀ args w, (callFunc pf args).run Tryz.prog w = .ok (.enter pf args) w)
  (hcall : ∀ x ∈ xs, ∀ y ∈ ys, ∀ w1, Grew w w1 → Calls Tryz.prog pf #[x.val, y.val] w1 fun e w' => e = .returned (.bool (decide (x.er = y.er))) ∧ Grew w1 w')
  (lo hi lo' hi' : Nat) (hx : KidsIn w lo hi a c xs) (hy : KidsIn w lo' hi' b d ys) (hl : xs.length ≤ 1048576) (hl2 : ys.length ≤ 1048576) (hh : hi ≤ w.heap.size) (hh' : hi' ≤ w.heap.size) :
  Calls Tryz.prog 104 #[.slice a xs.length c, .slice b ys.length d, .func (.func pf) #[] #[]] w fun e w' => e = .returned (.bool (decide (xs.map NT.er = ys.map NT.er))) ∧ Grew w w' := by
 have HC := Lib.hid hcall
 clear hcall
 by_cases hne : xs.length = ys.length
 ·have heq : ((xs.length : Int) != ys.length) = false := by simp [hne]
  have HL := Lib.hid hne
  have hle : xs.length ≤ ys.length := by omega
  clear hne
  go_enter Tryz.func104, Tryz.ntmps104
  go_wp2_with fail
  go_loopw [17] (fun i wr => ∃ (k : Nat), k ≤ xs.length ∧ i = .int .i64 k ∧ Grew w wr ∧ (xs.map NT.er).take k = (ys.map NT.er).take k) (fun i _ => xs.length - (intOf i).toNat)
  case atStart => exact ⟨0, by omega, rfl, Grew.refl _, by simp⟩
  case round =>
   obtain ⟨k, hk1, rfl, hg, he⟩ := hrel
   have HE := Lib.hid he
   clear he
   by_cases hlt : k < xs.length
   ·obtain ⟨b1, o1, rfl, _, _, hc0, hc1, hc2, hc3⟩ := (hx.grew hg hh).at hlt
    obtain ⟨b2, o2, rfl, _, hb2, hd0, hd1, hd2, hd3⟩ := (hy.grew hg hh').at (j := k) (by omega)
    have hb2' : b2 < wr.heap.size := by have := hg.size; omega
    have hy1 : (k : Int) < (ys.length : Int) := by omega
    have HC1 := Lib.hid (fun w1 hg1 => HC.out _ (za7 xs k hlt) _ (za7 ys k (by omega)) w1 hg1)
    have HT : Hid ((xs.map NT.er).take (k + 1) = (xs.map NT.er).take k ++ [(xs.getD k default).er] ∧ (ys.map NT.er).take (k + 1) = (ys.map NT.er).take k ++ [(ys.getD k default).er]) := ⟨kids_take xs k hlt, kids_take ys k (by omega)⟩
    cases hxy : decide ((xs.getD k default).er = (ys.getD k default).er) with
    | true =>
     have HX : Hid ((xs.map NT.er).take (k + 1) = (ys.map NT.er).take (k + 1)) := by
      show _ = _
      rw [HT.out.1, HT.out.2, HE.out, of_decide_eq_true hxy]
     rw [hxy] at HC1
     clear hxy HT
     generalize xs.getD k default = p at *
     generalize ys.getD k default = q at *
     go_wp2_with fail
     refine (HC1.out _ ((hg.alloc _).alloc _)).mono ?_
     rintro e w' ⟨rfl, hg2⟩
     go_wp2_with fail
     go_roundw
     case rel => exact ⟨k + 1, by omega, by go_num, ((hg.alloc _).alloc _).trans hg2, HX.out⟩
     case measure => simp [intOf]; omega
    | false =>
     have HN : Hid (decide (xs.map NT.er = ys.map NT.er) = false) := by
      show _ = _
      simp only [decide_eq_false_iff_not] at hxy ⊢
      intro e
      have h1 := congrArg (fun l => l.take (k + 1)) e
      simp only [HT.out.1, HT.out.2, HE.out] at h1
      exact hxy (by simpa using h1)
     rw [hxy] at HC1
     clear hxy HT
     generalize xs.getD k default = p at *
     generalize ys.getD k default = q at *
     go_wp2_with fail
     refine (HC1.out _ ((hg.alloc _).alloc _)).mono ?_
     rintro e w' ⟨rfl, hg2⟩
     go_wp2_with fail
     go_ret
     exact ⟨zch (by rw [HN.out]), ((hg.alloc _).alloc _).trans hg2⟩
   ·have HN : Hid (decide (xs.map NT.er = ys.map NT.er) = true) := by
     show _ = _
     have := HE.out
     rw [List.take_of_length_le (by simp; omega), List.take_of_length_le (by have := HL.out; simp; omega)] at this
     simp [this]
    go_wp2_with fail
    go_ret
    exact ⟨zch (by rw [HN.out]), hg⟩
 ·have heq : ((xs.length : Int) != ys.length) = true := by simp; omega
  have HN : Hid (decide (xs.map NT.er = ys.map NT.er) = false) := by
   show _ = _
   simp only [decide_eq_false_iff_not]
   intro e
   have := congrArg List.length e
   simp at this
   exact hne this
  clear hne
  go_enter Tryz.func104, Tryz.ntmps104
  go_wp2_with fail
  go_ret
  exact ⟨zch (by rw [HN.out]), Grew.refl _⟩
theorem er_eq_iff (n m : NT) : n.er = m.er ↔ n.lf = m.lf ∧ n.ps = m.ps ∧ n.ts = m.ts ∧ n.ks.map NT.er = m.ks.map NT.er := by
 rw [NT.er_eq, NT.er_eq, T.mk.injEq]
set_option maxHeartbeats 1000000 in
theorem zbE (n : NT) : ∀ (m : NT) (w : World), n.Ok w → m.Ok w → n.er.bulk ≤ 1048576 → m.er.bulk ≤ 1048576 →
  Calls Tryz.prog 38 #[n.val, m.val] w fun e w' => e = .returned (.bool (decide (n.er = m.er))) ∧ Grew w w' := by
 induction n using NT.ind with
 | h n ih =>
 intro m w hn hm hbn hbm
 have hin := NT.In_iff.1 hn
 have him := NT.In_iff.1 hm
 have hl1 := n.lens
 have hl2 := m.lens
 have l1 : n.ps.length ≤ 1048576 := by omega
 have l2 : m.ps.length ≤ 1048576 := by omega
 have l3 : n.ts.length ≤ 1048576 := by omega
 have l4 : m.ts.length ≤ 1048576 := by omega
 have l5 : n.ks.length ≤ 1048576 := by omega
 have l6 : m.ks.length ≤ 1048576 := by omega
 clear hl1 hl2
 have gb : ∀ o1 o2, Grew w ((w.alloc o1).alloc o2) := fun o1 o2 => ((Grew.refl w).alloc o1).alloc o2
 have PS := Lib.hid (fun w' (hg : Grew w w') => propSame_any n.pa m.pa n.pc m.pc n.ps m.ps w' _ _ _ _ (hin.1.grew hg (Nat.le_refl _)) (him.1.grew hg (Nat.le_refl _)) l1 l2 hg.size hg.size)
 have TS := Lib.hid (fun w' (hg : Grew w w') => glyphSame_any n.ta m.ta n.tc m.tc n.ts m.ts w' _ _ _ _ (hin.2.1.grew hg (Nat.le_refl _)) (him.2.1.grew hg (Nat.le_refl _)) l3 l4 hg.size hg.size)
 have KS := Lib.hid (fun w' (hg : Grew w w') => equalNodes_any n.ks m.ks n.ka m.ka n.kc m.kc 38 w' Tryz.call38 (fun x hx y hy w1 hg1 => ih x hx y w1 (NT.In.ok ((hin.2.2.2 x hx).grew (hg.trans hg1) (Nat.le_refl _)) (hg.trans hg1).size) (NT.In.ok ((him.2.2.2 y hy).grew (hg.trans hg1) (Nat.le_refl _)) (hg.trans hg1).size) (by have := T.bulk_kid (n := n.er) (k := x.er) (by rw [NT.er_ks]; exact er_mem hx); omega) (by have := T.bulk_kid (n := m.er) (k := y.er) (by rw [NT.er_ks]; exact er_mem hy); omega)) _ _ _ _ (hin.2.2.grew hg (Nat.le_refl _)) (him.2.2.grew hg (Nat.le_refl _)) l5 l6 hg.size hg.size)
 have EI := er_eq_iff n m
 clear ih hin him
 unfold NT.val
 by_cases h1 : n.lf = m.lf
 ·have t1 : (n.lf == m.lf) = true := by simpa using h1
  rw [eq_true h1, true_and] at EI
  clear h1
  cases h2 : decide (n.ps = m.ps) with
  | false =>
   have HN : Hid (decide (n.er = m.er) = false) := by show _ = _; simp only [decide_eq_false_iff_not] at h2 ⊢; rw [EI]; exact fun h => h2 h.1
   rw [h2] at PS
   clear h2 EI
   go_enter Tryz.func38, Tryz.ntmps38
   go_wp2_with fail
   refine (PS.out _ (gb _ _)).mono ?_
   rintro e w1 ⟨rfl, g1⟩
   go_wp2_with fail
   go_ret
   exact ⟨zch (by rw [HN.out]), (gb _ _).trans g1⟩
  | true =>
   rw [eq_true (of_decide_eq_true h2), true_and] at EI
   rw [h2] at PS
   clear h2
   cases h3 : decide (n.ts = m.ts) with
   | false =>
    have HN : Hid (decide (n.er = m.er) = false) := by show _ = _; simp only [decide_eq_false_iff_not] at h3 ⊢; rw [EI]; exact fun h => h3 h.1
    rw [h3] at TS
    clear h3 EI
    go_enter Tryz.func38, Tryz.ntmps38
    go_wp2_with fail
    refine (PS.out _ (gb _ _)).mono ?_
    rintro e w1 ⟨rfl, g1⟩
    obtain ⟨c0, c1, c2, c3, z1⟩ := box4 ((Grew.alloc1 _ _).trans g1)
    obtain ⟨d0, d1, d2, d3⟩ := box2 g1
    go_wp2_with fail
    refine (TS.out _ ((gb _ _).trans g1)).mono ?_
    rintro e w2 ⟨rfl, g2⟩
    go_wp2_with fail
    go_ret
    exact ⟨zch (by rw [HN.out]), (gb _ _).trans (g1.trans g2)⟩
   | true =>
    rw [eq_true (of_decide_eq_true h3), true_and] at EI
    rw [h3] at TS
    clear h3
    have HN : Hid (decide (n.er = m.er) = decide (n.ks.map NT.er = m.ks.map NT.er)) := by show _ = _; rw [decide_eq_decide]; exact EI
    clear EI
    generalize decide (n.ks.map NT.er = m.ks.map NT.er) = kk at *
    go_enter Tryz.func38, Tryz.ntmps38
    go_wp2_with fail
    refine (PS.out _ (gb _ _)).mono ?_
    rintro e w1 ⟨rfl, g1⟩
    obtain ⟨c0, c1, c2, c3, z1⟩ := box4 ((Grew.alloc1 _ _).trans g1)
    obtain ⟨d0, d1, d2, d3⟩ := box2 g1
    go_wp2_with fail
    refine (TS.out _ ((gb _ _).trans g1)).mono ?_
    rintro e w2 ⟨rfl, g2⟩
    clear c0 c1 c2 c3 d0 d1 d2 d3
    obtain ⟨c0, c1, c2, c3, z2⟩ := box4 ((Grew.alloc1 _ _).trans (g1.trans g2))
    obtain ⟨d0, d1, d2, d3⟩ := box2 (g1.trans g2)
    go_wp2_with fail
    refine (KS.out _ ((gb _ _).trans (g1.trans g2))).mono ?_
    rintro e w3 ⟨rfl, g3⟩
    go_wp2_with fail
    go_ret
    exact ⟨zch (by rw [HN.out]), (gb _ _).trans (g1.trans (g2.trans g3))⟩
 ·have t1 : (n.lf == m.lf) = false := by simpa using h1
  have HN : Hid (decide (n.er = m.er) = false) := by show _ = _; simp only [decide_eq_false_iff_not]; rw [EI]; exact fun h => h1 h.1
  clear h1 EI
  go_enter Tryz.func38, Tryz.ntmps38
  go_wp2_with fail
  go_ret
  exact ⟨zch (by rw [HN.out]), gb _ _⟩
set_option maxHeartbeats 2000000 in
theorem refSame04_any (n : NT) : ∀ (m : NT) (w : World), n.Ok w → m.Ok w → n.er.bulk ≤ 1048576 → m.er.bulk ≤ 1048576 →
  Calls Tryz.prog 16 #[n.val, m.val] w fun e w' => e = .returned (.bool (decide (n.er = m.er))) ∧ Grew w w' := by
 induction n using NT.ind with
 | h n ih =>
 intro m w hn hm hbn hbm
 have hin := NT.In_iff.1 hn
 have him := NT.In_iff.1 hm
 have hl1 := n.lens
 have hl2 := m.lens
 have l1 : n.ps.length ≤ 1048576 := by omega
 have l2 : m.ps.length ≤ 1048576 := by omega
 have l3 : n.ts.length ≤ 1048576 := by omega
 have l4 : m.ts.length ≤ 1048576 := by omega
 have l5 : n.ks.length ≤ 1048576 := by omega
 have l6 : m.ks.length ≤ 1048576 := by omega
 clear hl1 hl2
 have gb : ∀ o1 o2, Grew w ((w.alloc o1).alloc o2) := fun o1 o2 => ((Grew.refl w).alloc o1).alloc o2
 have PS := Lib.hid (fun w' (hg : Grew w w') => refSame01_any n.pa m.pa n.pc m.pc n.ps m.ps w' _ _ _ _ (hin.1.grew hg (Nat.le_refl _)) (him.1.grew hg (Nat.le_refl _)) l1 l2 hg.size hg.size)
 have TS := Lib.hid (fun w' (hg : Grew w w') => same03_any n.ta m.ta n.tc m.tc n.ts m.ts w' _ _ _ _ (hin.2.1.grew hg (Nat.le_refl _)) (him.2.1.grew hg (Nat.le_refl _)) l3 l4 hg.size hg.size)
 have KC := Lib.hid (fun x hx y hy w1 hg1 => ih x hx y w1 (NT.In.ok ((hin.2.2.2 x hx).grew hg1 (Nat.le_refl _)) (Grew.size hg1)) (NT.In.ok ((him.2.2.2 y hy).grew hg1 (Nat.le_refl _)) (Grew.size hg1)) (by have := T.bulk_kid (n := n.er) (k := x.er) (by rw [NT.er_ks]; exact er_mem hx); omega) (by have := T.bulk_kid (n := m.er) (k := y.er) (by rw [NT.er_ks]; exact er_mem hy); omega))
 have hkn := hin.2.2
 have hkm := him.2.2
 have EI := er_eq_iff n m
 clear ih hin him
 unfold NT.val
 by_cases h1 : n.lf = m.lf
 ·have t1 : (n.lf == m.lf) = true := by simpa using h1
  rw [eq_true h1, true_and] at EI
  clear h1
  cases h2 : decide (n.ps = m.ps) with
  | false =>
   have HN : Hid (decide (n.er = m.er) = false) := by show _ = _; simp only [decide_eq_false_iff_not] at h2 ⊢; rw [EI]; exact fun h => h2 h.1
   rw [h2] at PS
   clear h2 EI
   go_enter Tryz.func16, Tryz.ntmps16
   go_wp2_with fail
   refine (PS.out _ (gb _ _)).mono ?_
   rintro e w1 ⟨rfl, g1⟩
   go_wp2_with fail
   go_ret
   exact ⟨zch (by rw [HN.out]), (gb _ _).trans g1⟩
  | true =>
   rw [eq_true (of_decide_eq_true h2), true_and] at EI
   rw [h2] at PS
   clear h2
   cases h3 : decide (n.ts = m.ts) with
   | false =>
    have HN : Hid (decide (n.er = m.er) = false) := by show _ = _; simp only [decide_eq_false_iff_not] at h3 ⊢; rw [EI]; exact fun h => h3 h.1
    rw [h3] at TS
    clear h3 EI
    go_enter Tryz.func16, Tryz.ntmps16
    go_wp2_with fail
    refine (PS.out _ (gb _ _)).mono ?_
    rintro e w1 ⟨rfl, g1⟩
    obtain ⟨c0, c1, c2, c3, z1⟩ := box4 ((Grew.alloc1 _ _).trans g1)
    obtain ⟨d0, d1, d2, d3⟩ := box2 g1
    go_wp2_with fail
    refine (TS.out _ ((gb _ _).trans g1)).mono ?_
    rintro e w2 ⟨rfl, g2⟩
    go_wp2_with fail
    go_ret
    exact ⟨zch (by rw [HN.out]), (gb _ _).trans (g1.trans g2)⟩
   | true =>
    rw [eq_true (of_decide_eq_true h3), true_and] at EI
    rw [h3] at TS
    clear h3
    by_cases h4 : n.ks.length = m.ks.length
    ·have t4 : ((n.ks.length : Int) != m.ks.length) = false := by simp [h4]
     have hle : n.ks.length ≤ m.ks.length := by omega
     have HL := Lib.hid h4
     have HE := Lib.hid EI
     clear h4 EI
     go_enter Tryz.func16, Tryz.ntmps16
     go_wp2_with fail
     refine (PS.out _ (gb _ _)).mono ?_
     rintro e w1 ⟨rfl, g1⟩
     obtain ⟨c0, c1, c2, c3, z1⟩ := box4 ((Grew.alloc1 _ _).trans g1)
     obtain ⟨d0, d1, d2, d3⟩ := box2 g1
     go_wp2_with fail
     refine (TS.out _ ((gb _ _).trans g1)).mono ?_
     rintro e w2 ⟨rfl, g2⟩
     clear c0 c1 c2 c3 d0 d1 d2 d3
     obtain ⟨c0, c1, c2, c3, z2⟩ := box4 ((Grew.alloc1 _ _).trans (g1.trans g2))
     obtain ⟨d0, d1, d2, d3⟩ := box2 (g1.trans g2)
     have z3 : w.heap.size + 1 < w2.heap.size := by have := (g1.trans g2).size; simp at this; omega
     have G2 := (gb _ _).trans (g1.trans g2)
     generalize n.ka = na at *
     generalize m.ka = ma at *
     go_wp2_with fail
     go_loopw [39] (fun i wr => ∃ (k : Nat), k ≤ n.ks.length ∧ i = .int .i64 k ∧ Grew w2 wr ∧ (n.ks.map NT.er).take k = (m.ks.map NT.er).take k) (fun i _ => n.ks.length - (intOf i).toNat)
     case atStart => exact ⟨0, by omega, rfl, Grew.refl _, by simp⟩
     case round =>
      obtain ⟨k, hk1, rfl, hg, he⟩ := hrel
      have HK := Lib.hid he
      clear he
      by_cases hlt : k < n.ks.length
      ·have GR := G2.trans hg
       obtain ⟨b1, o1, rfl, _, hb1, hc0, hc1, hc2, hc3⟩ := (hkn.grew GR (Nat.le_refl _)).at hlt
       obtain ⟨b2, o2, rfl, _, hb2, hd0, hd1, hd2, hd3⟩ := (hkm.grew GR (Nat.le_refl _)).at (j := k) (by omega)
       have hb1' : b1 < wr.heap.size := by have := GR.size; omega
       have hb2' : b2 < wr.heap.size := by have := GR.size; omega
       have hy1 : (k : Int) < (m.ks.length : Int) := by omega
       have HC1 := Lib.hid (fun w1 hg1 => KC.out _ (za7 n.ks k hlt) _ (za7 m.ks k (by omega)) w1 hg1)
       have HT : Hid ((n.ks.map NT.er).take (k + 1) = (n.ks.map NT.er).take k ++ [(n.ks.getD k default).er] ∧ (m.ks.map NT.er).take (k + 1) = (m.ks.map NT.er).take k ++ [(m.ks.getD k default).er]) := ⟨kids_take n.ks k hlt, kids_take m.ks k (by omega)⟩
       have q3 : ∀ x : Later wr, x.v.cell? ⟨w.heap.size, 3, none⟩ = some (.slice (some ⟨b1, o1, none⟩) n.ks.length n.kc) := fun x => by
        rw [x.g.cell (by have := hg.size; show w.heap.size < _; omega), hg.cell (by exact z2)]; exact c3
       have q7 : ∀ x : Later wr, x.v.cell? ⟨w.heap.size + 1, 3, none⟩ = some (.slice (some ⟨b2, o2, none⟩) m.ks.length m.kc) := fun x => by
        rw [x.g.cell (by have := hg.size; show w.heap.size + 1 < _; omega), hg.cell (by exact z3)]; exact d3
       cases hxy : decide ((n.ks.getD k default).er = (m.ks.getD k default).er) with
       | true =>
        have HX : Hid ((n.ks.map NT.er).take (k + 1) = (m.ks.map NT.er).take (k + 1)) := by
         show _ = _
         rw [HT.out.1, HT.out.2, HK.out, of_decide_eq_true hxy]
        rw [hxy] at HC1
        clear hxy HT
        generalize n.ks.getD k default = p at *
        generalize m.ks.getD k default = q at *
        have e0 : ∀ x : Later wr, x.v.cell? ⟨b1, o1 + k * 4, none⟩ = some (.bool p.lf) := fun x => (x.g.cell (by exact hb1')).trans hc0
        have e1 : ∀ x : Later wr, x.v.cell? ⟨b1, o1 + k * 4 + 1, none⟩ = some (.slice p.pa p.ps.length p.pc) := fun x => (x.g.cell (by exact hb1')).trans hc1
        have e2 : ∀ x : Later wr, x.v.cell? ⟨b1, o1 + k * 4 + 2, none⟩ = some (.slice p.ta p.ts.length p.tc) := fun x => (x.g.cell (by exact hb1')).trans hc2
        have e3 : ∀ x : Later wr, x.v.cell? ⟨b1, o1 + k * 4 + 3, none⟩ = some (.slice p.ka p.ks.length p.kc) := fun x => (x.g.cell (by exact hb1')).trans hc3
        have f0 : ∀ x : Later wr, x.v.cell? ⟨b2, o2 + k * 4, none⟩ = some (.bool q.lf) := fun x => (x.g.cell (by exact hb2')).trans hd0
        have f1 : ∀ x : Later wr, x.v.cell? ⟨b2, o2 + k * 4 + 1, none⟩ = some (.slice q.pa q.ps.length q.pc) := fun x => (x.g.cell (by exact hb2')).trans hd1
        have f2 : ∀ x : Later wr, x.v.cell? ⟨b2, o2 + k * 4 + 2, none⟩ = some (.slice q.ta q.ts.length q.tc) := fun x => (x.g.cell (by exact hb2')).trans hd2
        have f3 : ∀ x : Later wr, x.v.cell? ⟨b2, o2 + k * 4 + 3, none⟩ = some (.slice q.ka q.ks.length q.kc) := fun x => (x.g.cell (by exact hb2')).trans hd3
        have HC2 := Lib.hid (fun x : Later wr => HC1.out x.v (GR.trans x.g))
        unfold NT.val at HC2
        go_wp2_with fail
        refine wp_region_later (by kernel_rfl) (by kernel_rfl) ?_
        repeat (go_big_quiet_step (exact calls_later (HC2.out _)))
        refine wpQuiet_nil ?_
        rintro _ ⟨x, rfl⟩
        go_wp2_with fail
        go_roundw
        case rel => exact ⟨k + 1, by omega, by go_num, hg.trans x.g, HX.out⟩
        case measure => simp [intOf]; omega
       | false =>
        have HN : Hid (decide (n.er = m.er) = false) := by
         show _ = _
         simp only [decide_eq_false_iff_not] at hxy ⊢
         rw [HE.out]
         intro e
         have h1 := congrArg (fun l => l.take (k + 1)) e
         simp only [HT.out.1, HT.out.2, HK.out] at h1
         exact hxy (by simpa using h1)
        rw [hxy] at HC1
        clear hxy HT
        generalize n.ks.getD k default = p at *
        generalize m.ks.getD k default = q at *
        have e0 : ∀ x : Later wr, x.v.cell? ⟨b1, o1 + k * 4, none⟩ = some (.bool p.lf) := fun x => (x.g.cell (by exact hb1')).trans hc0
        have e1 : ∀ x : Later wr, x.v.cell? ⟨b1, o1 + k * 4 + 1, none⟩ = some (.slice p.pa p.ps.length p.pc) := fun x => (x.g.cell (by exact hb1')).trans hc1
        have e2 : ∀ x : Later wr, x.v.cell? ⟨b1, o1 + k * 4 + 2, none⟩ = some (.slice p.ta p.ts.length p.tc) := fun x => (x.g.cell (by exact hb1')).trans hc2
        have e3 : ∀ x : Later wr, x.v.cell? ⟨b1, o1 + k * 4 + 3, none⟩ = some (.slice p.ka p.ks.length p.kc) := fun x => (x.g.cell (by exact hb1')).trans hc3
        have f0 : ∀ x : Later wr, x.v.cell? ⟨b2, o2 + k * 4, none⟩ = some (.bool q.lf) := fun x => (x.g.cell (by exact hb2')).trans hd0
        have f1 : ∀ x : Later wr, x.v.cell? ⟨b2, o2 + k * 4 + 1, none⟩ = some (.slice q.pa q.ps.length q.pc) := fun x => (x.g.cell (by exact hb2')).trans hd1
        have f2 : ∀ x : Later wr, x.v.cell? ⟨b2, o2 + k * 4 + 2, none⟩ = some (.slice q.ta q.ts.length q.tc) := fun x => (x.g.cell (by exact hb2')).trans hd2
        have f3 : ∀ x : Later wr, x.v.cell? ⟨b2, o2 + k * 4 + 3, none⟩ = some (.slice q.ka q.ks.length q.kc) := fun x => (x.g.cell (by exact hb2')).trans hd3
        have HC2 := Lib.hid (fun x : Later wr => HC1.out x.v (GR.trans x.g))
        unfold NT.val at HC2
        go_wp2_with fail
        refine wp_region_later (by kernel_rfl) (by kernel_rfl) ?_
        repeat (go_big_quiet_step (exact calls_later (HC2.out _)))
        refine wpQuiet_nil ?_
        rintro _ ⟨x, rfl⟩
        go_wp2_with fail
        go_ret
        exact ⟨zch (by rw [HN.out]), GR.trans x.g⟩
      ·have HN : Hid (decide (n.er = m.er) = true) := by
        show _ = _
        simp only [decide_eq_true_eq]
        rw [HE.out]
        have := HK.out
        rw [List.take_of_length_le (by simp; omega), List.take_of_length_le (by have := HL.out; simp; omega)] at this
        exact this
       go_wp2_with fail
       go_ret
       exact ⟨zch (by rw [HN.out]), G2.trans hg⟩
    ·have t4 : ((n.ks.length : Int) != m.ks.length) = true := by simp; omega
     have HN : Hid (decide (n.er = m.er) = false) := by
      show _ = _
      simp only [decide_eq_false_iff_not]
      rw [EI]
      intro e
      have := congrArg List.length e
      simp at this
      exact h4 this
     clear h4 EI
     go_enter Tryz.func16, Tryz.ntmps16
     go_wp2_with fail
     refine (PS.out _ (gb _ _)).mono ?_
     rintro e w1 ⟨rfl, g1⟩
     obtain ⟨c0, c1, c2, c3, z1⟩ := box4 ((Grew.alloc1 _ _).trans g1)
     obtain ⟨d0, d1, d2, d3⟩ := box2 g1
     go_wp2_with fail
     refine (TS.out _ ((gb _ _).trans g1)).mono ?_
     rintro e w2 ⟨rfl, g2⟩
     clear c0 c1 c2 c3 d0 d1 d2 d3
     obtain ⟨c0, c1, c2, c3, z2⟩ := box4 ((Grew.alloc1 _ _).trans (g1.trans g2))
     obtain ⟨d0, d1, d2, d3⟩ := box2 (g1.trans g2)
     go_wp2_with fail
     go_ret
     exact ⟨zch (by rw [HN.out]), (gb _ _).trans (g1.trans g2)⟩
 ·have t1 : (n.lf == m.lf) = false := by simpa using h1
  have HN : Hid (decide (n.er = m.er) = false) := by show _ = _; simp only [decide_eq_false_iff_not]; rw [EI]; exact fun h => h1 h.1
  clear h1 EI
  go_enter Tryz.func16, Tryz.ntmps16
  go_wp2_with fail
  go_ret
  exact ⟨zch (by rw [HN.out]), gb _ _⟩
end Go.Proofs.YtbhbekocmpmjfaaGreatDoor
/- BYTES: rows of them, strings told by them; slices.Index, slices.Contains on them. -/
namespace Go.Proofs.YtbhbekocmpmjfaaGreatDoor
open Go Go.RowKit
def BytesIn (w : World) (lo hi : Nat) (a : Option Addr) (c : Nat) (l : List Int) : Prop := RowIn w lo hi a l.length c 1 (fun i _ => .int .u8 (l.getD i 0))
theorem BytesIn.later {w w' : World} {a : Option Addr} {c : Nat} {l : List Int} (h : BytesIn w 0 w.heap.size a c l) (g : Grew w w') : BytesIn w' 0 w'.heap.size a c l := (RowIn.agree h (g.agree (Nat.le_refl _))).mono (Nat.le_refl _) g.size
theorem BytesIn.at {w : World} {lo hi : Nat} {a : Option Addr} {c : Nat} {l : List Int} (h : BytesIn w lo hi a c l) {k : Nat} (hk : k < l.length) : ∃ b o, a = some ⟨b, o, none⟩ ∧ w.cell? ⟨b, o + k, none⟩ = some (.int .u8 (l.getD k 0)) := by
 obtain ⟨b, o, e, _, _, hc⟩ := h.2 (by omega)
 have := hc k hk 0 (by omega)
 rw [show o + k * 1 + 0 = o + k by omega] at this
 exact ⟨b, o, e, this⟩
def Byt (l : List Int) : Prop := ∀ x ∈ l, 0 ≤ x ∧ x < 256
theorem bstr_at {l : List Int} (hb : Byt l) {i : Nat} (hi : i < (strOfNums l).data.size) : ((strOfNums l).data[i].toNat : Int) = l.getD i 0 := by
 have hl : i < l.length := by simpa [strOfNums] using hi
 have h := hb l[i] (List.getElem_mem hl)
 have e : (strOfNums l).data[i] = UInt8.ofNat l[i].toNat := by simp [strOfNums]
 rw [e]
 simp only [List.getD, List.getElem?_eq_getElem hl, Option.getD_some]
 rw [UInt8.toNat_ofNat']
 omega
theorem conv_bytes {P : Program} (w : World) {src dst e : TypeId} (l : List Int) (hb : Byt l) (hs : P.underlying src = some .string) (hd : P.underlying dst = some (.slice e)) (he : P.underlying e = some (.int .u8)) (hl : l.length ≤ 1048576) :
  ∃ c w2, (convert src dst (.string (strOfNums l))).run P w = .ok (.slice (some ⟨w.heap.size, 0, none⟩) l.length c) w2 ∧ BytesIn w2 w.heap.size (w.heap.size + 1) (some ⟨w.heap.size, 0, none⟩) c l ∧ Grew w w2 ∧ w2.heap.size = w.heap.size + 1 := by
 have hrun := run_bytes_of_string (P := P) w src dst e (strOfNums l) hs hd he
 have hlen : (strOfNums l).size = l.length := strOfNums_size l
 refine ⟨_, _, by rw [← hlen]; exact hrun, ⟨⟨by simp, by rw [← hlen]; exact grownCap_ge _ _ _ _, grownCap_le_maxLen _ _ _ _ (by unfold maxLen; omega)⟩, fun _ => ⟨w.heap.size, 0, rfl, Nat.le_refl _, by omega, fun i hi j hj => ?_⟩⟩, (Grew.refl w).drew.alloc _, by simp⟩
 have hz : (w.drew).heap.size = w.heap.size := rfl
 have hd2 : i < (strOfNums l).data.size := by have : (strOfNums l).data.size = l.length := hlen; omega
 rw [show 0 + i * 1 + j = i by omega]
 exact (World.cell?_alloc_mark w.drew _ _ _ _).trans ((bytesRow_at (strOfNums l) (grownCap w (strOfNums l).size 0 e) i hd2).trans (by rw [bstr_at hb hd2]))
theorem bytes_conv {P : Program} (w : World) {src dst e : TypeId} {lo hi : Nat} {a : Option Addr} {c : Nat} {l : List Int} (h : BytesIn w lo hi a c l) (hs : P.underlying src = some (.slice e)) (he : P.underlying e = some (.int .u8)) (hd : P.underlying dst = some .string) :
  (convert src dst (.slice a l.length c)).run P w = .ok (.string (strOfNums l)) w := by
 by_cases h0 : l.length = 0
 ·obtain rfl : l = [] := List.eq_nil_of_length_eq_zero h0
  cases a with
  | none => exact run_convert_bytes_nil w src e hs he _ _ dst hd
  | some p => exact run_convert_bytes_back w src dst e p c [] hs he hd (fun j hj => absurd hj (Nat.not_lt_zero _))
 ·obtain ⟨b, o, rfl, _⟩ := h.at (k := 0) (by omega)
  refine run_convert_bytes_arg w src e hs he b o l.length c l rfl (fun i hi => ?_) dst hd
  obtain ⟨b2, o2, e, hc⟩ := h.at hi
  injection e with e
  injection e with e1 e2
  rw [e1, e2]
  exact hc
theorem idxOf_any {pr : Int → Bool} (l : List Int) : decide ((0 : Int) ≤ zbe pr l) = l.any pr := by
 unfold zbe
 cases h : l.findIdx? pr with
 | none =>
  have := List.findIdx?_eq_none_iff.1 h
  symm
  simp only [show ¬ ((0 : Int) ≤ -1) by omega, decide_false, List.any_eq_false]
  exact fun x hx => by simp [this x hx]
 | some i =>
  obtain ⟨hi, hp, _⟩ := List.findIdx?_eq_some_iff_getElem.1 h
  symm
  simp only [show (0 : Int) ≤ (i : Int) by omega, decide_true, List.any_eq_true]
  exact ⟨l[i], List.getElem_mem hi, hp⟩
set_option maxRecDepth 100000 in
theorem indexBytes_any (L : List Int) (a : Option Addr) (c : Nat) (v : Int) (w : World) (hL : BytesIn w 0 w.heap.size a c L) (hlen : L.length ≤ 1048576) :
  Calls Tryz.prog 213 #[.slice a L.length c, .int .u8 v] w fun e w' => e = .returned (.int .i64 (zbe (fun y => v == y) L)) ∧ w' = w := by
 go_enter Tryz.func213, Tryz.ntmps213
 go_wp2_with fail
 go_loop [8] (fun i => ∃ (k : Nat), k ≤ L.length ∧ i = .int .i64 k ∧ ∀ j, j < k → (fun y => v == y) (L.getD j default) = false) (fun i => L.length - (intOf i).toNat)
 case atStart => exact ⟨0, by omega, rfl, fun j hj => by omega⟩
 case round =>
  obtain ⟨k, hk1, rfl, hall⟩ := hrel
  have HA := Lib.hid hall
  clear hall
  by_cases hlt : k < L.length
  ·obtain ⟨b, o, rfl, c0⟩ := hL.at hlt
   cases hpr : (v == L.getD k 0) with
   | false =>
    have HX : Hid (∀ j, j < k + 1 → (fun y => v == y) (L.getD j default) = false) := fun j hj => by
     rcases Nat.lt_or_ge j k with h | h
     ·exact HA.out j h
     ·obtain rfl : j = k := by omega
      exact hpr
    generalize L.getD k 0 = x at *
    go_wp2_with fail
    go_round
    case rel => exact ⟨k + 1, by omega, by go_num, HX.out⟩
    case measure => simp [intOf]; omega
   | true =>
    have HX := Lib.hid (idxOf_found hlt (pr := fun y => v == y) hpr HA.out)
    generalize L.getD k 0 = x at *
    go_wp2_with fail
    go_ret
    exact ⟨zci (by rw [HX.out]), rfl⟩
  ·have HX := Lib.hid (idxOf_none (pr := fun y => v == y) (l := L) (fun j hj => HA.out j (by omega)))
   go_wp2_with fail
   go_ret
   exact ⟨zci (by rw [HX.out]), rfl⟩
set_option maxRecDepth 100000 in
set_option maxHeartbeats 1000000 in
theorem containsBytes_any (L : List Int) (a : Option Addr) (c : Nat) (v : Int) (w : World) (hL : BytesIn w 0 w.heap.size a c L) (hlen : L.length ≤ 1048576) :
  Calls Tryz.prog 180 #[.slice a L.length c, .int .u8 v] w fun e w' => e = .returned (.bool (decide (v ∈ L))) ∧ w' = w := by
 have C := Lib.hid (indexBytes_any L a c v w hL hlen)
 have HX : Hid (decide ((0 : Int) ≤ zbe (fun y => v == y) L) = decide (v ∈ L)) := by
  show _ = _
  rw [idxOf_any, Bool.eq_iff_iff, List.any_eq_true, decide_eq_true_iff]
  exact ⟨fun ⟨y, hy, h⟩ => by rw [eq_of_beq h]; exact hy, fun h => ⟨v, h, by simp⟩⟩
 clear hL
 generalize zbe (fun y => v == y) L = i at *
 go_enter Tryz.func180, Tryz.ntmps180
 go_wp2_with fail
 refine C.out.mono ?_
 rintro e w1 ⟨rfl, rfl⟩
 go_wp2_with fail
 go_ret
 exact ⟨by rw [← HX.out]; rfl, rfl⟩
end Go.Proofs.YtbhbekocmpmjfaaGreatDoor
/- slices.Grow of nil, slices.Concat, of rows of runes: the contracts. -/
namespace Go.Proofs.YtbhbekocmpmjfaaGreatDoor
open Go Go.RowKit
theorem ints_atR (ts : List Int) : ∀ i, i < ts.length → ∀ j, j < 1 → (ts.map (Value.int .i32))[i * 1 + j]? = some (.int .i32 (ts.getD i 0)) := fun i hi j hj => by
 obtain rfl : j = 0 := by omega
 simp [List.getD, hi]
set_option maxRecDepth 100000 in
set_option maxHeartbeats 1000000 in
theorem growR_any (n : Nat) (w : World) (hn : n ≤ 4194304) : Calls Tryz.prog 246 #[.slice none 0 0, .int .i64 n] w fun e w' => ∃ v, e = .returned v ∧ Grew w w' ∧ w'.ownsRow w.heap.size 21 1 v 0 [] := by
 obtain ⟨i0, hi, hz0, hz1, hz2⟩ := info_parts infoRune
 have h1 : ¬ ((n : Int) < 0) := by omega
 by_cases h0 : n = 0
 ·subst h0
  go_enter Tryz.func246, Tryz.ntmps246
  go_wp2_with fail
  go_ret
  exact ⟨_, rfl, Grew.refl _, World.ownsRow_nil _ _ _ _⟩
 ·have hold : (Builtin.firstCells i0.size 0 (.slice none 0 0)).run Tryz.prog w.drew = .ok ([] : List Value).toArray w.drew := run_firstCells_none w.drew i0.size 0 0 0
  have hGn : n ≤ grownCap w n 0 21 := grownCap_ge w _ _ _
  have hGm := grownCap_le_maxLen w n 0 21 (by unfold maxLen; omega)
  have hrz : ∀ ty, (Builtin.append_ #[23, 3] ty #[.slice none 0 0, .int .i64 (n : Int)]).run Tryz.prog w = .ok (.slice (some ⟨w.heap.size, 0, none⟩) n (grownCap w n 0 21)) (w.drew.alloc (.cells (([] : List Value).toArray ++ Builtin.zeroCells ((Value.int .i32 0).cells) n ++ Builtin.zeroCells ((Value.int .i32 0).cells) (grownCap w n 0 21 - n)) 21)) := fun ty => by
   have h := Lib.run_append_grow_zeros w 23 3 ty 21 i0 _ .i64 .i64 Tryz.underlying23 Tryz.underlying3 hi hz0 none 0 0 [] hold n (by omega) (by rw [hz1]; omega) (by omega) (by omega) (by rw [hz2]; omega) (growslice_fits (by omega) (by rw [hz2]; omega))
   rw [Nat.zero_add] at h
   exact h
  have hown := World.ownsRow_made (base := w.heap.size) (e := 21) (size := 1) w.drew (([] : List Value).toArray ++ Builtin.zeroCells ((Value.int .i32 0).cells) n ++ Builtin.zeroCells ((Value.int .i32 0).cells) (grownCap w n 0 21 - n)) (grownCap w n 0 21) (Nat.le_refl _) hGm (madeZ_size rfl _ _ hGn)
  have hG : Grew w (w.drew.alloc (.cells (([] : List Value).toArray ++ Builtin.zeroCells ((Value.int .i32 0).cells) n ++ Builtin.zeroCells ((Value.int .i32 0).cells) (grownCap w n 0 21 - n)) 21)) := (Grew.refl w).drew.alloc _
  have h2 : ((n : Int) - 0) = n := by omega
  have h3 : (0 : Int) < n := by omega
  have h5 : decide ((0 : Int) < n) = true := by simpa using h3
  have h4 : wrap64 (n : Int) = n := by unfold wrap64; omega
  unfold maxLen at hGm
  have hGi : ((grownCap w n 0 21 : Nat) : Int) ≤ 9223372036854775807 := by omega
  generalize grownCap w n 0 21 = G at *
  generalize w.drew.alloc _ = w1 at *
  go_enter Tryz.func246, Tryz.ntmps246
  go_wp2_with (at_builtin; refine Lib.wpList_append_run _ rfl _ _ _ _ rfl _ _ rfl rfl _ _ (hrz _) ?_)
  go_ret
  exact ⟨_, rfl, hG, hown⟩
def RowsR (w : World) (lo hi : Nat) (a : Option Addr) (c : Nat) (ls : List PN) : Prop := RowIn w lo hi a ls.length c 1 (fun i _ => .slice (ls.getD i default).a (ls.getD i default).l.length (ls.getD i default).c)
theorem RowsR.at {w : World} {lo hi : Nat} {a : Option Addr} {c : Nat} {ls : List PN} (h : RowsR w lo hi a c ls) {k : Nat} (hk : k < ls.length) : ∃ b o, a = some ⟨b, o, none⟩ ∧ lo ≤ b ∧ b < hi ∧ w.cell? ⟨b, o + k, none⟩ = some (.slice (ls.getD k default).a (ls.getD k default).l.length (ls.getD k default).c) := by
 obtain ⟨b, o, h1, h2, h3, hc⟩ := h.2 (by omega)
 exact ⟨b, o, h1, h2, h3, by simpa using hc k hk 0 (by omega)⟩
def sumR (ls : List PN) : Nat := (ls.map fun p => p.l.length).sum
theorem sumR_next (ls : List PN) {k : Nat} (hk : k < ls.length) : sumR (ls.take (k + 1)) = sumR (ls.take k) + (ls.getD k default).l.length := by
 unfold sumR
 rw [List.take_succ_eq_append_getElem hk, List.map_append, List.sum_append]
 simp [List.getD, List.getElem?_eq_getElem hk]
theorem sumR_le (ls : List PN) (k : Nat) : sumR (ls.take k) ≤ sumR ls := by
 unfold sumR
 conv => rhs; rw [← List.take_append_drop k ls, List.map_append, List.sum_append]
 omega
def za4 (ls : List PN) : List Int := ls.flatMap PN.l
theorem flatR_len (ls : List PN) : (za4 ls).length = sumR ls := by unfold za4 sumR; rw [List.length_flatMap]
theorem flatR_next (ls : List PN) {k : Nat} (hk : k < ls.length) : za4 (ls.take (k + 1)) = za4 (ls.take k) ++ (ls.getD k default).l := by
 unfold za4
 rw [List.take_succ_eq_append_getElem hk, List.flatMap_append]
 simp [List.getD, List.getElem?_eq_getElem hk]
set_option maxRecDepth 100000 in
set_option maxHeartbeats 4000000 in
theorem concatR_any (a : Option Addr) (c : Nat) (ls : List PN) (w : World) (hr : RowsR w 0 w.heap.size a c ls) (hin : ∀ p ∈ ls, RunesIn w 0 w.heap.size p.a p.c p.l) (hl : ls.length ≤ 1048576) (hs : sumR ls ≤ 4194304) :
  Calls Tryz.prog 222 #[.slice a ls.length c] w fun e w' => ∃ v, e = .returned v ∧ Grew w w' ∧ w'.ownsRow w.heap.size 21 1 v (za4 ls).length ((za4 ls).map (Value.int .i32)) := by
 have HI := Lib.hid hin
 have HS := Lib.hid hs
 clear hin hs
 go_enter Tryz.func222, Tryz.ntmps222
 go_wp2_with fail
 go_loopw [3, 11] (fun s i wr => ∃ (k m : Nat), k ≤ ls.length ∧ s = .int .i64 m ∧ i = .int .i64 k ∧ Grew w wr ∧ Hid (m = sumR (ls.take k))) (fun _ i _ => ls.length - (intOf i).toNat)
 case atStart => exact ⟨0, 0, by omega, rfl, rfl, Grew.refl _, by show _ = _; simp [sumR]⟩
 case round =>
  obtain ⟨k, m, hk, rfl, rfl, hg, hm⟩ := hrel
  by_cases hlt : k < ls.length
  ·obtain ⟨b, o, rfl, _, hb, c0⟩ := RowsR.at (RowIn.agree hr (hg.agree (Nat.le_refl _))) hlt
   have HM : Hid (m + (ls.getD k default).l.length = sumR (ls.take (k + 1))) := by show _ = _; rw [sumR_next ls hlt, hm.out]
   have hle : m + (ls.getD k default).l.length ≤ 4194304 := by rw [HM.out]; exact Nat.le_trans (sumR_le ls _) HS.out
   generalize ls.getD k default = x at *
   have hw : IntKind.i64.wrap ((m : Int) + x.l.length) = ((m + x.l.length : Nat) : Int) := by rw [IntKind.wrap_i64]; omega
   have hnn : ¬ (((m + x.l.length : Nat) : Int) < 0) := by omega
   go_wp2_with fail
   go_roundw
   case rel => exact ⟨k + 1, m + x.l.length, by omega, rfl, by go_num, hg, HM⟩
   case measure => simp [intOf]; omega
  ·obtain rfl : k = ls.length := by omega
   have HM : Hid (m = sumR ls) := by show _ = _; rw [hm.out, List.take_length]
   have hmle : m ≤ 4194304 := by rw [HM.out]; exact HS.out
   have GR := Lib.hid (growR_any m wr hmle)
   clear hm
   go_wp2_with fail
   refine GR.out.mono ?_
   rintro e w2 ⟨v, rfl, g2, hown⟩
   have hown' : w2.ownsRow w.heap.size 21 1 v 0 [] := ownsRow_lower hown hg.size
   obtain ⟨va, vc, rfl⟩ := zbO hown'
   have G2 := Lib.hid (hg.trans g2)
   have HO := Lib.hid hown'
   clear hown hown' GR HM hmle
   go_wp2_with fail
   go_loopw [6, 27] (fun s i wr2 => ∃ (k : Nat) (va : Option Addr) (vc : Nat), k ≤ ls.length ∧ s = .slice va (za4 (ls.take k)).length vc ∧ i = .int .i64 k ∧ Grew w wr2 ∧ wr2.ownsRow w.heap.size 21 1 (.slice va (za4 (ls.take k)).length vc) (za4 (ls.take k)).length ((za4 (ls.take k)).map (Value.int .i32))) (fun _ i _ => ls.length - (intOf i).toNat)
   case atStart => exact ⟨0, va, vc, by omega, by simp [za4], rfl, G2.out, by simpa [za4] using HO.out⟩
   case round =>
    obtain ⟨k, xa, xc, hk, rfl, rfl, hg2, hown2⟩ := hrel
    by_cases hlt : k < ls.length
    ·obtain ⟨b, o, rfl, _, hb, c0⟩ := RowsR.at (RowIn.agree hr (hg2.agree (Nat.le_refl _))) hlt
     have hxin := (HI.out _ (za7 ls k hlt)).grew hg2 (Nat.le_refl _)
     have HF := Lib.hid (flatR_next ls hlt)
     have hbound : (za4 (ls.take k)).length + (ls.getD k default).l.length ≤ 4194304 := by
      rw [flatR_len, ← sumR_next ls hlt]; exact Nat.le_trans (sumR_le ls _) HS.out
     generalize ls.getD k default = x at *
     have hsz := hg2.size
     generalize za4 (ls.take k) = cur at *
     go_wp2_with (at_builtin; refine zcU rfl (.tmp 31) (.tmp 32) 23 rfl w.heap.size 21 Tryz.underlying23 infoRune rfl (by decide) (.slice xa cur.length xc) cur.length (cur.map (Value.int .i32)) rfl hown2 x.a x.l.length x.c _ _ _ rfl hxin.1 (x.l.map (Value.int .i32)) (by simp) (ints_atR x.l) (ints_oneCell _ _) (by unfold maxLen; omega) (by omega) hsz ?_; intro v' w4 hown' hgrow _; obtain ⟨va', vc', rfl⟩ := zbO hown')
     have G4 := Lib.hid (hg2.grown hgrow (fun k hk => (hown2.lt k hk).1))
     have HO4 := Lib.hid hown'
     clear hown2 hown' hgrow
     go_roundw
     case rel =>
      refine ⟨k + 1, va', vc', by omega, ?_, by go_num, G4.out, ?_⟩
      ·rw [HF.out, List.length_append]
      ·rw [HF.out, List.length_append, List.map_append]; exact HO4.out
     case measure => simp [intOf]; omega
    ·obtain rfl : k = ls.length := by omega
     rw [List.take_length] at hown2
     rw [List.take_length]
     go_wp2_with fail
     go_ret
     exact ⟨_, rfl, hg2, hown2⟩
end Go.Proofs.YtbhbekocmpmjfaaGreatDoor
