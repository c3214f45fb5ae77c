/- redlineref01.Same, slices.EqualFunc on nodes, node.Same, redlineref04.Same: the contracts. A region that draws its order and whose callees make memory of their own alone: one walk. -/
import Derived.Test.YtdobncickipjjaaProps
import Derived.Test.YtdobncickipjjaaGlyph
import Derived.Test.YtdobncickipjjaaLater
namespace Go.Proofs.Ytdobncickipjjaa
open Go Go.RowKit

set_option maxHeartbeats 400000 in
theorem refSame01_any (a b : Option Addr) (c d : Nat) (xs ys : List PropL) (w : World) (lo hi lo' hi' : Nat) (hx : PropsIn w lo hi a c xs) (hy : PropsIn w lo' hi' b d ys) (hl : xs.length ≤ 1048576) (hl2 : ys.length ≤ 1048576) (hh : hi ≤ w.heap.size) (hh' : hi' ≤ w.heap.size) :
    Calls Try.prog 30 #[.slice a xs.length c, .slice b ys.length d] w fun e w' => e = .returned (.bool (decide (xs = ys))) ∧ Grew w w' := by
  by_cases hne : xs.length = ys.length
  · have heq : ((xs.length : Int) != ys.length) = false := by simp [hne]
    have HL := Lib.hid hne
    have hle : xs.length ≤ ys.length := by omega
    clear hne
    go_enter Try.func30, Try.ntmps30
    go_wp2_with fail
    go_loopw [13] (fun i wr => ∃ (k : Nat), k ≤ xs.length ∧ i = .int .i64 k ∧ Grew w wr ∧ xs.take k = ys.take k) (fun i _ => xs.length - (intOf i).toNat)
    case atStart => exact ⟨0, by omega, rfl, Grew.refl _, by simp⟩
    case round =>
      obtain ⟨k, hk1, rfl, hg, he⟩ := hrel
      have HE := Lib.hid he
      clear he
      by_cases hlt : k < xs.length
      · obtain ⟨b1, o1, rfl, _, _, hc1, hd1⟩ := (hx.grew hg hh).at hlt
        obtain ⟨b2, o2, rfl, _, _, hc2, hd2⟩ := (hy.grew hg hh').at (j := k) (by omega)
        have hy1 : (k : Int) < (ys.length : Int) := by omega
        by_cases hxy : xs.getD k default = ys.getD k default
        · have ht1 : ((xs.getD k default).1.toList == (ys.getD k default).1.toList) = true := by rw [hxy]; simp
          have ht2 : ((xs.getD k default).2.toList == (ys.getD k default).2.toList) = true := by rw [hxy]; simp
          have HX : Hid (xs.take (k + 1) = ys.take (k + 1)) := by
            show _ = _
            rw [take_next xs k hlt, take_next ys k (by omega), HE.out, hxy]
          clear hxy
          generalize xs.getD k default = p at *
          generalize ys.getD k default = q at *
          go_wp2_with fail
          go_quiet (fail)
          go_wp2_with fail
          go_roundw
          case rel => exact ⟨k + 1, by omega, by go_num, hg.drewN _, HX.out⟩
          case measure => simp [intOf]; omega
        · have hne := ne_of_getD hxy
          have HN : Hid (decide (xs = ys) = false) := by show _ = _; simp [hne]
          clear hne
          by_cases h1 : (xs.getD k default).1 = (ys.getD k default).1
          · have h2 : ¬ (xs.getD k default).2 = (ys.getD k default).2 := fun e => hxy (Prod.ext h1 e)
            have ht1 : ((xs.getD k default).1.toList == (ys.getD k default).1.toList) = true := by rw [toList_beq]; simpa using h1
            have ht2 : ((xs.getD k default).2.toList == (ys.getD k default).2.toList) = false := by rw [toList_beq]; simpa using h2
            clear hxy h1 h2
            generalize xs.getD k default = p at *
            generalize ys.getD k default = q at *
            go_wp2_with fail
            go_quiet (fail)
            go_wp2_with fail
            go_ret
            exact ⟨ret_bool (by rw [HN.out]), hg.drewN _⟩
          · have ht1 : ((xs.getD k default).1.toList == (ys.getD k default).1.toList) = false := by rw [toList_beq]; simpa using h1
            clear hxy h1
            generalize xs.getD k default = p at *
            generalize ys.getD k default = q at *
            go_wp2_with fail
            go_quiet (fail)
            go_wp2_with fail
            go_ret
            exact ⟨ret_bool (by rw [HN.out]), hg.drewN _⟩
      · have HN : Hid (decide (xs = ys) = true) := by
          show _ = _
          have := HE.out
          rw [List.take_of_length_le (by omega), List.take_of_length_le (by have := HL.out; omega)] at this
          simp [this]
        go_wp2_with fail
        go_ret
        exact ⟨ret_bool (by rw [HN.out]), hg⟩
  · have heq : ((xs.length : Int) != ys.length) = true := by simp; omega
    have HN : Hid (decide (xs = ys) = false) := by
      show _ = _
      simp only [decide_eq_false_iff_not]
      intro e; exact hne (by rw [e])
    clear hne
    go_enter Try.func30, Try.ntmps30
    go_wp2_with fail
    go_ret
    exact ⟨ret_bool (by rw [HN.out]), Grew.refl _⟩


/-- two lists of trees are the same, read side by side from the k-th on -/
theorem take_ne {α : Type} [Inhabited α] {xs ys : List α} {k : Nat} (h : xs.getD k default ≠ ys.getD k default) : xs ≠ ys := fun e => h (by rw [e])

set_option maxHeartbeats 400000 in
theorem equalNodes_any (xs ys : List NT) (a b : Option Addr) (c d : Nat) (pf : FuncId) (w : World)
    (eg : ∀ args w, (callFunc pf args).run Try.prog w = .ok (.enter pf args) w)
    (hcall : ∀ x ∈ xs, ∀ y ∈ ys, ∀ w1, Grew w w1 → Calls Try.prog pf #[x.val, y.val] w1 fun e w' => e = .returned (.bool (decide (x.er = y.er))) ∧ Grew w1 w')
    (lo hi lo' hi' : Nat) (hx : KidsIn w lo hi a c xs) (hy : KidsIn w lo' hi' b d ys) (hl : xs.length ≤ 1048576) (hl2 : ys.length ≤ 1048576) (hh : hi ≤ w.heap.size) (hh' : hi' ≤ w.heap.size) :
    Calls Try.prog 29 #[.slice a xs.length c, .slice b ys.length d, .func (.func pf) #[] #[]] w fun e w' => e = .returned (.bool (decide (xs.map NT.er = ys.map NT.er))) ∧ Grew w w' := by
  have HC := Lib.hid hcall
  clear hcall
  by_cases hne : xs.length = ys.length
  · have heq : ((xs.length : Int) != ys.length) = false := by simp [hne]
    have HL := Lib.hid hne
    have hle : xs.length ≤ ys.length := by omega
    clear hne
    go_enter Try.func29, Try.ntmps29
    go_wp2_with fail
    go_loopw [17] (fun i wr => ∃ (k : Nat), k ≤ xs.length ∧ i = .int .i64 k ∧ Grew w wr ∧ (xs.map NT.er).take k = (ys.map NT.er).take k) (fun i _ => xs.length - (intOf i).toNat)
    case atStart => exact ⟨0, by omega, rfl, Grew.refl _, by simp⟩
    case round =>
      obtain ⟨k, hk1, rfl, hg, he⟩ := hrel
      have HE := Lib.hid he
      clear he
      by_cases hlt : k < xs.length
      · obtain ⟨b1, o1, rfl, _, _, hc0, hc1, hc2, hc3⟩ := (hx.grew hg hh).at hlt
        obtain ⟨b2, o2, rfl, _, hb2, hd0, hd1, hd2, hd3⟩ := (hy.grew hg hh').at (j := k) (by omega)
        have hb2' : b2 < wr.heap.size := by have := hg.size; omega
        have hy1 : (k : Int) < (ys.length : Int) := by omega
        have HC1 := Lib.hid (fun w1 hg1 => HC.out _ (getD_mem xs k hlt) _ (getD_mem ys k (by omega)) w1 hg1)
        have HT : Hid ((xs.map NT.er).take (k + 1) = (xs.map NT.er).take k ++ [(xs.getD k default).er] ∧ (ys.map NT.er).take (k + 1) = (ys.map NT.er).take k ++ [(ys.getD k default).er]) := ⟨kids_take xs k hlt, kids_take ys k (by omega)⟩
        cases hxy : decide ((xs.getD k default).er = (ys.getD k default).er) with
        | true =>
          have HX : Hid ((xs.map NT.er).take (k + 1) = (ys.map NT.er).take (k + 1)) := by
            show _ = _
            rw [HT.out.1, HT.out.2, HE.out, of_decide_eq_true hxy]
          rw [hxy] at HC1
          clear hxy HT
          generalize xs.getD k default = p at *
          generalize ys.getD k default = q at *
          go_wp2_with fail
          refine (HC1.out _ ((hg.alloc _).alloc _)).mono ?_
          rintro e w' ⟨rfl, hg2⟩
          go_wp2_with fail
          go_roundw
          case rel => exact ⟨k + 1, by omega, by go_num, ((hg.alloc _).alloc _).trans hg2, HX.out⟩
          case measure => simp [intOf]; omega
        | false =>
          have HN : Hid (decide (xs.map NT.er = ys.map NT.er) = false) := by
            show _ = _
            simp only [decide_eq_false_iff_not] at hxy ⊢
            intro e
            have h1 := congrArg (fun l => l.take (k + 1)) e
            simp only [HT.out.1, HT.out.2, HE.out] at h1
            exact hxy (by simpa using h1)
          rw [hxy] at HC1
          clear hxy HT
          generalize xs.getD k default = p at *
          generalize ys.getD k default = q at *
          go_wp2_with fail
          refine (HC1.out _ ((hg.alloc _).alloc _)).mono ?_
          rintro e w' ⟨rfl, hg2⟩
          go_wp2_with fail
          go_ret
          exact ⟨ret_bool (by rw [HN.out]), ((hg.alloc _).alloc _).trans hg2⟩
      · have HN : Hid (decide (xs.map NT.er = ys.map NT.er) = true) := by
          show _ = _
          have := HE.out
          rw [List.take_of_length_le (by simp; omega), List.take_of_length_le (by have := HL.out; simp; omega)] at this
          simp [this]
        go_wp2_with fail
        go_ret
        exact ⟨ret_bool (by rw [HN.out]), hg⟩
  · have heq : ((xs.length : Int) != ys.length) = true := by simp; omega
    have HN : Hid (decide (xs.map NT.er = ys.map NT.er) = false) := by
      show _ = _
      simp only [decide_eq_false_iff_not]
      intro e
      have := congrArg List.length e
      simp at this
      exact hne this
    clear hne
    go_enter Try.func29, Try.ntmps29
    go_wp2_with fail
    go_ret
    exact ⟨ret_bool (by rw [HN.out]), Grew.refl _⟩

theorem er_eq_iff (n m : NT) : n.er = m.er ↔ n.lf = m.lf ∧ n.ps = m.ps ∧ n.ts = m.ts ∧ n.ks.map NT.er = m.ks.map NT.er := by
  rw [NT.er_eq, NT.er_eq, T.mk.injEq]

set_option maxHeartbeats 1000000 in
theorem nodeSame_any (n : NT) : ∀ (m : NT) (w : World), n.Ok w → m.Ok w → n.er.bulk ≤ 1048576 → m.er.bulk ≤ 1048576 →
    Calls Try.prog 15 #[n.val, m.val] w fun e w' => e = .returned (.bool (decide (n.er = m.er))) ∧ Grew w w' := by
  induction n using NT.ind with
  | h n ih =>
  intro m w hn hm hbn hbm
  have hin := NT.In_iff.1 hn
  have him := NT.In_iff.1 hm
  have hl1 := n.lens
  have hl2 := m.lens
  have l1 : n.ps.length ≤ 1048576 := by omega
  have l2 : m.ps.length ≤ 1048576 := by omega
  have l3 : n.ts.length ≤ 1048576 := by omega
  have l4 : m.ts.length ≤ 1048576 := by omega
  have l5 : n.ks.length ≤ 1048576 := by omega
  have l6 : m.ks.length ≤ 1048576 := by omega
  clear hl1 hl2
  have gb : ∀ o1 o2, Grew w ((w.alloc o1).alloc o2) := fun o1 o2 => ((Grew.refl w).alloc o1).alloc o2
  have PS := Lib.hid (fun w' (hg : Grew w w') => propSame_any n.pa m.pa n.pc m.pc n.ps m.ps w' _ _ _ _ (hin.1.grew hg (Nat.le_refl _)) (him.1.grew hg (Nat.le_refl _)) l1 l2 hg.size hg.size)
  have TS := Lib.hid (fun w' (hg : Grew w w') => glyphSame_any n.ta m.ta n.tc m.tc n.ts m.ts w' _ _ _ _ (hin.2.1.grew hg (Nat.le_refl _)) (him.2.1.grew hg (Nat.le_refl _)) l3 l4 hg.size hg.size)
  have KS := Lib.hid (fun w' (hg : Grew w w') => equalNodes_any n.ks m.ks n.ka m.ka n.kc m.kc 15 w' Try.call15 (fun x hx y hy w1 hg1 => ih x hx y w1 (NT.In.ok ((hin.2.2.2 x hx).grew (hg.trans hg1) (Nat.le_refl _)) (hg.trans hg1).size) (NT.In.ok ((him.2.2.2 y hy).grew (hg.trans hg1) (Nat.le_refl _)) (hg.trans hg1).size) (by have := T.bulk_kid (n := n.er) (k := x.er) (by rw [NT.er_ks]; exact er_mem hx); omega) (by have := T.bulk_kid (n := m.er) (k := y.er) (by rw [NT.er_ks]; exact er_mem hy); omega)) _ _ _ _ (hin.2.2.grew hg (Nat.le_refl _)) (him.2.2.grew hg (Nat.le_refl _)) l5 l6 hg.size hg.size)
  have EI := er_eq_iff n m
  clear ih hin him
  unfold NT.val
  by_cases h1 : n.lf = m.lf
  · have t1 : (n.lf == m.lf) = true := by simpa using h1
    rw [eq_true h1, true_and] at EI
    clear h1
    cases h2 : decide (n.ps = m.ps) with
    | false =>
      have HN : Hid (decide (n.er = m.er) = false) := by show _ = _; simp only [decide_eq_false_iff_not] at h2 ⊢; rw [EI]; exact fun h => h2 h.1
      rw [h2] at PS
      clear h2 EI
      go_enter Try.func15, Try.ntmps15
      go_wp2_with fail
      refine (PS.out _ (gb _ _)).mono ?_
      rintro e w1 ⟨rfl, g1⟩
      go_wp2_with fail
      go_ret
      exact ⟨ret_bool (by rw [HN.out]), (gb _ _).trans g1⟩
    | true =>
      rw [eq_true (of_decide_eq_true h2), true_and] at EI
      rw [h2] at PS
      clear h2
      cases h3 : decide (n.ts = m.ts) with
      | false =>
        have HN : Hid (decide (n.er = m.er) = false) := by show _ = _; simp only [decide_eq_false_iff_not] at h3 ⊢; rw [EI]; exact fun h => h3 h.1
        rw [h3] at TS
        clear h3 EI
        go_enter Try.func15, Try.ntmps15
        go_wp2_with fail
        refine (PS.out _ (gb _ _)).mono ?_
        rintro e w1 ⟨rfl, g1⟩
        obtain ⟨c0, c1, c2, c3, z1⟩ := box4 ((Grew.alloc1 _ _).trans g1)
        obtain ⟨d0, d1, d2, d3⟩ := box2 g1
        go_wp2_with fail
        refine (TS.out _ ((gb _ _).trans g1)).mono ?_
        rintro e w2 ⟨rfl, g2⟩
        go_wp2_with fail
        go_ret
        exact ⟨ret_bool (by rw [HN.out]), (gb _ _).trans (g1.trans g2)⟩
      | true =>
        rw [eq_true (of_decide_eq_true h3), true_and] at EI
        rw [h3] at TS
        clear h3
        have HN : Hid (decide (n.er = m.er) = decide (n.ks.map NT.er = m.ks.map NT.er)) := by show _ = _; rw [decide_eq_decide]; exact EI
        clear EI
        generalize decide (n.ks.map NT.er = m.ks.map NT.er) = kk at *
        go_enter Try.func15, Try.ntmps15
        go_wp2_with fail
        refine (PS.out _ (gb _ _)).mono ?_
        rintro e w1 ⟨rfl, g1⟩
        obtain ⟨c0, c1, c2, c3, z1⟩ := box4 ((Grew.alloc1 _ _).trans g1)
        obtain ⟨d0, d1, d2, d3⟩ := box2 g1
        go_wp2_with fail
        refine (TS.out _ ((gb _ _).trans g1)).mono ?_
        rintro e w2 ⟨rfl, g2⟩
        clear c0 c1 c2 c3 d0 d1 d2 d3
        obtain ⟨c0, c1, c2, c3, z2⟩ := box4 ((Grew.alloc1 _ _).trans (g1.trans g2))
        obtain ⟨d0, d1, d2, d3⟩ := box2 (g1.trans g2)
        go_wp2_with fail
        refine (KS.out _ ((gb _ _).trans (g1.trans g2))).mono ?_
        rintro e w3 ⟨rfl, g3⟩
        go_wp2_with fail
        go_ret
        exact ⟨ret_bool (by rw [HN.out]), (gb _ _).trans (g1.trans (g2.trans g3))⟩
  · have t1 : (n.lf == m.lf) = false := by simpa using h1
    have HN : Hid (decide (n.er = m.er) = false) := by show _ = _; simp only [decide_eq_false_iff_not]; rw [EI]; exact fun h => h1 h.1
    clear h1 EI
    go_enter Try.func15, Try.ntmps15
    go_wp2_with fail
    go_ret
    exact ⟨ret_bool (by rw [HN.out]), gb _ _⟩

set_option maxHeartbeats 2000000 in
theorem refSame04_any (n : NT) : ∀ (m : NT) (w : World), n.Ok w → m.Ok w → n.er.bulk ≤ 1048576 → m.er.bulk ≤ 1048576 →
    Calls Try.prog 16 #[n.val, m.val] w fun e w' => e = .returned (.bool (decide (n.er = m.er))) ∧ Grew w w' := by
  induction n using NT.ind with
  | h n ih =>
  intro m w hn hm hbn hbm
  have hin := NT.In_iff.1 hn
  have him := NT.In_iff.1 hm
  have hl1 := n.lens
  have hl2 := m.lens
  have l1 : n.ps.length ≤ 1048576 := by omega
  have l2 : m.ps.length ≤ 1048576 := by omega
  have l3 : n.ts.length ≤ 1048576 := by omega
  have l4 : m.ts.length ≤ 1048576 := by omega
  have l5 : n.ks.length ≤ 1048576 := by omega
  have l6 : m.ks.length ≤ 1048576 := by omega
  clear hl1 hl2
  have gb : ∀ o1 o2, Grew w ((w.alloc o1).alloc o2) := fun o1 o2 => ((Grew.refl w).alloc o1).alloc o2
  have PS := Lib.hid (fun w' (hg : Grew w w') => refSame01_any n.pa m.pa n.pc m.pc n.ps m.ps w' _ _ _ _ (hin.1.grew hg (Nat.le_refl _)) (him.1.grew hg (Nat.le_refl _)) l1 l2 hg.size hg.size)
  have TS := Lib.hid (fun w' (hg : Grew w w') => same03_any n.ta m.ta n.tc m.tc n.ts m.ts w' _ _ _ _ (hin.2.1.grew hg (Nat.le_refl _)) (him.2.1.grew hg (Nat.le_refl _)) l3 l4 hg.size hg.size)
  have KC := Lib.hid (fun x hx y hy w1 hg1 => ih x hx y w1 (NT.In.ok ((hin.2.2.2 x hx).grew hg1 (Nat.le_refl _)) (Grew.size hg1)) (NT.In.ok ((him.2.2.2 y hy).grew hg1 (Nat.le_refl _)) (Grew.size hg1)) (by have := T.bulk_kid (n := n.er) (k := x.er) (by rw [NT.er_ks]; exact er_mem hx); omega) (by have := T.bulk_kid (n := m.er) (k := y.er) (by rw [NT.er_ks]; exact er_mem hy); omega))
  have hkn := hin.2.2
  have hkm := him.2.2
  have EI := er_eq_iff n m
  clear ih hin him
  unfold NT.val
  by_cases h1 : n.lf = m.lf
  · have t1 : (n.lf == m.lf) = true := by simpa using h1
    rw [eq_true h1, true_and] at EI
    clear h1
    cases h2 : decide (n.ps = m.ps) with
    | false =>
      have HN : Hid (decide (n.er = m.er) = false) := by show _ = _; simp only [decide_eq_false_iff_not] at h2 ⊢; rw [EI]; exact fun h => h2 h.1
      rw [h2] at PS
      clear h2 EI
      go_enter Try.func16, Try.ntmps16
      go_wp2_with fail
      refine (PS.out _ (gb _ _)).mono ?_
      rintro e w1 ⟨rfl, g1⟩
      go_wp2_with fail
      go_ret
      exact ⟨ret_bool (by rw [HN.out]), (gb _ _).trans g1⟩
    | true =>
      rw [eq_true (of_decide_eq_true h2), true_and] at EI
      rw [h2] at PS
      clear h2
      cases h3 : decide (n.ts = m.ts) with
      | false =>
        have HN : Hid (decide (n.er = m.er) = false) := by show _ = _; simp only [decide_eq_false_iff_not] at h3 ⊢; rw [EI]; exact fun h => h3 h.1
        rw [h3] at TS
        clear h3 EI
        go_enter Try.func16, Try.ntmps16
        go_wp2_with fail
        refine (PS.out _ (gb _ _)).mono ?_
        rintro e w1 ⟨rfl, g1⟩
        obtain ⟨c0, c1, c2, c3, z1⟩ := box4 ((Grew.alloc1 _ _).trans g1)
        obtain ⟨d0, d1, d2, d3⟩ := box2 g1
        go_wp2_with fail
        refine (TS.out _ ((gb _ _).trans g1)).mono ?_
        rintro e w2 ⟨rfl, g2⟩
        go_wp2_with fail
        go_ret
        exact ⟨ret_bool (by rw [HN.out]), (gb _ _).trans (g1.trans g2)⟩
      | true =>
        rw [eq_true (of_decide_eq_true h3), true_and] at EI
        rw [h3] at TS
        clear h3
        by_cases h4 : n.ks.length = m.ks.length
        · have t4 : ((n.ks.length : Int) != m.ks.length) = false := by simp [h4]
          have hle : n.ks.length ≤ m.ks.length := by omega
          have HL := Lib.hid h4
          have HE := Lib.hid EI
          clear h4 EI
          go_enter Try.func16, Try.ntmps16
          go_wp2_with fail
          refine (PS.out _ (gb _ _)).mono ?_
          rintro e w1 ⟨rfl, g1⟩
          obtain ⟨c0, c1, c2, c3, z1⟩ := box4 ((Grew.alloc1 _ _).trans g1)
          obtain ⟨d0, d1, d2, d3⟩ := box2 g1
          go_wp2_with fail
          refine (TS.out _ ((gb _ _).trans g1)).mono ?_
          rintro e w2 ⟨rfl, g2⟩
          clear c0 c1 c2 c3 d0 d1 d2 d3
          obtain ⟨c0, c1, c2, c3, z2⟩ := box4 ((Grew.alloc1 _ _).trans (g1.trans g2))
          obtain ⟨d0, d1, d2, d3⟩ := box2 (g1.trans g2)
          have z3 : w.heap.size + 1 < w2.heap.size := by have := (g1.trans g2).size; simp at this; omega
          have G2 := (gb _ _).trans (g1.trans g2)
          generalize n.ka = na at *
          generalize m.ka = ma at *
          go_wp2_with fail
          go_loopw [39] (fun i wr => ∃ (k : Nat), k ≤ n.ks.length ∧ i = .int .i64 k ∧ Grew w2 wr ∧ (n.ks.map NT.er).take k = (m.ks.map NT.er).take k) (fun i _ => n.ks.length - (intOf i).toNat)
          case atStart => exact ⟨0, by omega, rfl, Grew.refl _, by simp⟩
          case round =>
            obtain ⟨k, hk1, rfl, hg, he⟩ := hrel
            have HK := Lib.hid he
            clear he
            by_cases hlt : k < n.ks.length
            · have GR := G2.trans hg
              obtain ⟨b1, o1, rfl, _, hb1, hc0, hc1, hc2, hc3⟩ := (hkn.grew GR (Nat.le_refl _)).at hlt
              obtain ⟨b2, o2, rfl, _, hb2, hd0, hd1, hd2, hd3⟩ := (hkm.grew GR (Nat.le_refl _)).at (j := k) (by omega)
              have hb1' : b1 < wr.heap.size := by have := GR.size; omega
              have hb2' : b2 < wr.heap.size := by have := GR.size; omega
              have hy1 : (k : Int) < (m.ks.length : Int) := by omega
              have HC1 := Lib.hid (fun w1 hg1 => KC.out _ (getD_mem n.ks k hlt) _ (getD_mem m.ks k (by omega)) w1 hg1)
              have HT : Hid ((n.ks.map NT.er).take (k + 1) = (n.ks.map NT.er).take k ++ [(n.ks.getD k default).er] ∧ (m.ks.map NT.er).take (k + 1) = (m.ks.map NT.er).take k ++ [(m.ks.getD k default).er]) := ⟨kids_take n.ks k hlt, kids_take m.ks k (by omega)⟩
              have q3 : ∀ x : Later wr, x.v.cell? ⟨w.heap.size, 3, none⟩ = some (.slice (some ⟨b1, o1, none⟩) n.ks.length n.kc) := fun x => by
                rw [x.g.cell (by have := hg.size; show w.heap.size < _; omega), hg.cell (by exact z2)]; exact c3
              have q7 : ∀ x : Later wr, x.v.cell? ⟨w.heap.size + 1, 3, none⟩ = some (.slice (some ⟨b2, o2, none⟩) m.ks.length m.kc) := fun x => by
                rw [x.g.cell (by have := hg.size; show w.heap.size + 1 < _; omega), hg.cell (by exact z3)]; exact d3
              cases hxy : decide ((n.ks.getD k default).er = (m.ks.getD k default).er) with
              | true =>
                have HX : Hid ((n.ks.map NT.er).take (k + 1) = (m.ks.map NT.er).take (k + 1)) := by
                  show _ = _
                  rw [HT.out.1, HT.out.2, HK.out, of_decide_eq_true hxy]
                rw [hxy] at HC1
                clear hxy HT
                generalize n.ks.getD k default = p at *
                generalize m.ks.getD k default = q at *
                have e0 : ∀ x : Later wr, x.v.cell? ⟨b1, o1 + k * 4, none⟩ = some (.bool p.lf) := fun x => (x.g.cell (by exact hb1')).trans hc0
                have e1 : ∀ x : Later wr, x.v.cell? ⟨b1, o1 + k * 4 + 1, none⟩ = some (.slice p.pa p.ps.length p.pc) := fun x => (x.g.cell (by exact hb1')).trans hc1
                have e2 : ∀ x : Later wr, x.v.cell? ⟨b1, o1 + k * 4 + 2, none⟩ = some (.slice p.ta p.ts.length p.tc) := fun x => (x.g.cell (by exact hb1')).trans hc2
                have e3 : ∀ x : Later wr, x.v.cell? ⟨b1, o1 + k * 4 + 3, none⟩ = some (.slice p.ka p.ks.length p.kc) := fun x => (x.g.cell (by exact hb1')).trans hc3
                have f0 : ∀ x : Later wr, x.v.cell? ⟨b2, o2 + k * 4, none⟩ = some (.bool q.lf) := fun x => (x.g.cell (by exact hb2')).trans hd0
                have f1 : ∀ x : Later wr, x.v.cell? ⟨b2, o2 + k * 4 + 1, none⟩ = some (.slice q.pa q.ps.length q.pc) := fun x => (x.g.cell (by exact hb2')).trans hd1
                have f2 : ∀ x : Later wr, x.v.cell? ⟨b2, o2 + k * 4 + 2, none⟩ = some (.slice q.ta q.ts.length q.tc) := fun x => (x.g.cell (by exact hb2')).trans hd2
                have f3 : ∀ x : Later wr, x.v.cell? ⟨b2, o2 + k * 4 + 3, none⟩ = some (.slice q.ka q.ks.length q.kc) := fun x => (x.g.cell (by exact hb2')).trans hd3
                have HC2 := Lib.hid (fun x : Later wr => HC1.out x.v (GR.trans x.g))
                unfold NT.val at HC2
                go_wp2_with fail
                refine wp_region_later (by kernel_rfl) (by kernel_rfl) ?_
                repeat (go_big_quiet_step (exact calls_later (HC2.out _)))
                refine wpQuiet_nil ?_
                rintro _ ⟨x, rfl⟩
                go_wp2_with fail
                go_roundw
                case rel => exact ⟨k + 1, by omega, by go_num, hg.trans x.g, HX.out⟩
                case measure => simp [intOf]; omega
              | false =>
                have HN : Hid (decide (n.er = m.er) = false) := by
                  show _ = _
                  simp only [decide_eq_false_iff_not] at hxy ⊢
                  rw [HE.out]
                  intro e
                  have h1 := congrArg (fun l => l.take (k + 1)) e
                  simp only [HT.out.1, HT.out.2, HK.out] at h1
                  exact hxy (by simpa using h1)
                rw [hxy] at HC1
                clear hxy HT
                generalize n.ks.getD k default = p at *
                generalize m.ks.getD k default = q at *
                have e0 : ∀ x : Later wr, x.v.cell? ⟨b1, o1 + k * 4, none⟩ = some (.bool p.lf) := fun x => (x.g.cell (by exact hb1')).trans hc0
                have e1 : ∀ x : Later wr, x.v.cell? ⟨b1, o1 + k * 4 + 1, none⟩ = some (.slice p.pa p.ps.length p.pc) := fun x => (x.g.cell (by exact hb1')).trans hc1
                have e2 : ∀ x : Later wr, x.v.cell? ⟨b1, o1 + k * 4 + 2, none⟩ = some (.slice p.ta p.ts.length p.tc) := fun x => (x.g.cell (by exact hb1')).trans hc2
                have e3 : ∀ x : Later wr, x.v.cell? ⟨b1, o1 + k * 4 + 3, none⟩ = some (.slice p.ka p.ks.length p.kc) := fun x => (x.g.cell (by exact hb1')).trans hc3
                have f0 : ∀ x : Later wr, x.v.cell? ⟨b2, o2 + k * 4, none⟩ = some (.bool q.lf) := fun x => (x.g.cell (by exact hb2')).trans hd0
                have f1 : ∀ x : Later wr, x.v.cell? ⟨b2, o2 + k * 4 + 1, none⟩ = some (.slice q.pa q.ps.length q.pc) := fun x => (x.g.cell (by exact hb2')).trans hd1
                have f2 : ∀ x : Later wr, x.v.cell? ⟨b2, o2 + k * 4 + 2, none⟩ = some (.slice q.ta q.ts.length q.tc) := fun x => (x.g.cell (by exact hb2')).trans hd2
                have f3 : ∀ x : Later wr, x.v.cell? ⟨b2, o2 + k * 4 + 3, none⟩ = some (.slice q.ka q.ks.length q.kc) := fun x => (x.g.cell (by exact hb2')).trans hd3
                have HC2 := Lib.hid (fun x : Later wr => HC1.out x.v (GR.trans x.g))
                unfold NT.val at HC2
                go_wp2_with fail
                refine wp_region_later (by kernel_rfl) (by kernel_rfl) ?_
                repeat (go_big_quiet_step (exact calls_later (HC2.out _)))
                refine wpQuiet_nil ?_
                rintro _ ⟨x, rfl⟩
                go_wp2_with fail
                go_ret
                exact ⟨ret_bool (by rw [HN.out]), GR.trans x.g⟩
            · have HN : Hid (decide (n.er = m.er) = true) := by
                show _ = _
                simp only [decide_eq_true_eq]
                rw [HE.out]
                have := HK.out
                rw [List.take_of_length_le (by simp; omega), List.take_of_length_le (by have := HL.out; simp; omega)] at this
                exact this
              go_wp2_with fail
              go_ret
              exact ⟨ret_bool (by rw [HN.out]), G2.trans hg⟩
        · have t4 : ((n.ks.length : Int) != m.ks.length) = true := by simp; omega
          have HN : Hid (decide (n.er = m.er) = false) := by
            show _ = _
            simp only [decide_eq_false_iff_not]
            rw [EI]
            intro e
            have := congrArg List.length e
            simp at this
            exact h4 this
          clear h4 EI
          go_enter Try.func16, Try.ntmps16
          go_wp2_with fail
          refine (PS.out _ (gb _ _)).mono ?_
          rintro e w1 ⟨rfl, g1⟩
          obtain ⟨c0, c1, c2, c3, z1⟩ := box4 ((Grew.alloc1 _ _).trans g1)
          obtain ⟨d0, d1, d2, d3⟩ := box2 g1
          go_wp2_with fail
          refine (TS.out _ ((gb _ _).trans g1)).mono ?_
          rintro e w2 ⟨rfl, g2⟩
          clear c0 c1 c2 c3 d0 d1 d2 d3
          obtain ⟨c0, c1, c2, c3, z2⟩ := box4 ((Grew.alloc1 _ _).trans (g1.trans g2))
          obtain ⟨d0, d1, d2, d3⟩ := box2 (g1.trans g2)
          go_wp2_with fail
          go_ret
          exact ⟨ret_bool (by rw [HN.out]), (gb _ _).trans (g1.trans g2)⟩
  · have t1 : (n.lf == m.lf) = false := by simpa using h1
    have HN : Hid (decide (n.er = m.er) = false) := by show _ = _; simp only [decide_eq_false_iff_not]; rw [EI]; exact fun h => h1 h.1
    clear h1 EI
    go_enter Try.func16, Try.ntmps16
    go_wp2_with fail
    go_ret
    exact ⟨ret_bool (by rw [HN.out]), gb _ _⟩
end Go.Proofs.Ytdobncickipjjaa
