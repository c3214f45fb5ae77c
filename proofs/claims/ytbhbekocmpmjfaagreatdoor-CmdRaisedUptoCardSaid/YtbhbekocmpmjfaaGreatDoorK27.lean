/- redlineref04.left, redlineref04.Few: the contracts. -/
import Derived.Test.YtbhbekocmpmjfaaGreatDoorK01
import Derived.Test.YtbhbekocmpmjfaaGreatDoorChecked
import Derived.Outline
import Derived.Test.YtbhbekocmpmjfaaGreatDoorK21
import Derived.Test.YtbhbekocmpmjfaaGreatDoorK18
import Derived.Test.YtbhbekocmpmjfaaGreatDoorK26
import Derived.Test.YtbhbekocmpmjfaaGreatDoorK23
import Derived.Test.YtbhbekocmpmjfaaGreatDoorK19
import Derived.MapKept
namespace Go.Proofs.YtbhbekocmpmjfaaGreatDoor
open Go Go.RowKit

set_option maxHeartbeats 400000 in
theorem leftMost_any (n : NT) : ∀ (w : World) (most : Int), n.Ok w → n.er.bulk ≤ 1048576 → 0 ≤ most → most ≤ 200 →
    Calls Tryz.prog 105 #[n.val, .int .i64 most] w fun e w' => e = .returned (.int .i64 (leftT n.er most)) ∧ Grew w w' := by
  induction n using NT.ind with
  | h n ih =>
  intro w most hn hbulk hm hm2
  have hlens := n.lens
  have hn := NT.In_iff.1 hn
  obtain ⟨hp, _, hk⟩ := hn
  have hpb : propsBulk n.ps ≤ 1048576 := by have := n.er.bulk_eq; simp only [NT.er_ps, NT.er_ts, NT.er_ks] at this; omega
  have hkb : T.bulkAll (n.ks.map NT.er) ≤ 1048576 := by have := n.er.bulk_eq; simp only [NT.er_ps, NT.er_ts, NT.er_ks] at this; omega
  have h1 : n.ps.length ≤ 1048576 := by omega
  have h2 : n.ts.length ≤ 1048576 := by omega
  have h3 : n.ks.length ≤ 1048576 := by omega
  clear hlens
  unfold NT.val
  have HT := Lib.hid (leftT_er n most)
  generalize leftT n.er most = tot at *
  generalize n.pa = pa at *
  generalize n.ta = ta at *
  generalize n.ka = ka at *
  go_enter Tryz.func105, Tryz.ntmps105
  go_wp2_with fail
  obtain ⟨w1, hw1⟩ : ∃ w1, w1 = w.alloc (Obj.cells #[Value.bool n.lf, Value.slice pa n.ps.length n.pc, Value.slice ta n.ts.length n.tc, Value.slice ka n.ks.length n.kc] 26) := ⟨_, rfl⟩
  have b1 : Grew w w1 := by rw [hw1]; exact Grew.alloc1 _ _
  have c3 : w1.cell? ⟨w.heap.size, 3, none⟩ = some (.slice ka n.ks.length n.kc) := by rw [hw1]; go_simp
  have z1 : w.heap.size < w1.heap.size := by rw [hw1]; simp
  rw [← hw1]; clear hw1
  go_loopw [1, 22] (fun m i wr => ∃ (k : Nat) (mm : Int), k ≤ n.ps.length ∧ i = .int .i64 k ∧ m = .int .i64 mm ∧ -3200000 + (propsBulk (n.ps.drop k) : Int) ≤ mm ∧ mm ≤ 200 ∧ Grew w1 wr ∧ leftP n.ps (most - (1 + n.ts.length + n.ps.length)) = leftP (n.ps.drop k) mm) (fun _ i _ => n.ps.length - (intOf i).toNat)
  case atStart => exact ⟨0, _, by omega, rfl, rfl, by simp; omega, by omega, Grew.refl _, by simp⟩
  case round =>
    obtain ⟨k, mm, hk1, rfl, rfl, hmm, hmm2, hb, he⟩ := hrel
    have HE := Lib.hid he
    clear he
    by_cases hlt : k < n.ps.length
    · obtain ⟨b, o, rfl, _, hbh, hc⟩ := hp.2 (by omega)
      have HD := Lib.hid (drop_cons n.ps k hlt)
      have hmem := propsBulk_mem (getD_mem n.ps k hlt)
      have e0 : wr.cell? ⟨b, o + k * 2, none⟩ = some (.string (n.ps.getD k default).1) := by
        rw [hb.cell (by simp; omega), b1.cell (by simp; omega)]; exact hc k hlt 0 (by omega)
      have e1 : wr.cell? ⟨b, o + k * 2 + 1, none⟩ = some (.string (n.ps.getD k default).2) := by
        rw [hb.cell (by simp; omega), b1.cell (by simp; omega)]; exact hc k hlt 1 (by omega)
      generalize n.ps.getD k default = p at *
      rw [HD.out] at hmm
      simp only [propsBulk] at hmm
      have hp1 : p.1.size ≤ 1048576 := by omega
      have hp2 : p.2.size ≤ 1048576 := by omega
      clear hc hp hmem
      go_wp2_with fail
      go_roundw
      case rel => exact ⟨k + 1, _, by omega, by go_num, rfl, by omega, by omega, hb.alloc _, by rw [HE.out, HD.out, leftP]; congr 1⟩
      case measure => simp [intOf]; omega
    · have cw3 : wr.cell? ⟨w.heap.size, 3, none⟩ = some (.slice ka n.ks.length n.kc) := by rw [hb.cell z1]; exact c3
      have hge : n.ps.length ≤ k := by omega
      have HF : Hid (leftP n.ps (most - (1 + n.ts.length + n.ps.length)) = mm) := by
        have := HE.out; rw [List.drop_of_length_le hge] at this; exact this
      have hd1 : decide (k < n.ps.length) = false := by simp; omega
      clear HE hlt hmm
      by_cases hneg : mm < 0
      · go_wp2_with fail
        go_ret
        exact ⟨ret_int (by rw [HT.out, HF.out, if_pos hneg]), b1.trans hb⟩
      have hpos : 0 ≤ mm := by omega
      have hd2 : decide (mm < 0) = false := by simp; omega
      clear hneg
      have HG : Hid (tot = leftK (n.ks.map NT.er) mm) := by show tot = _; rw [HT.out, HF.out, if_neg (by omega)]
      clear HT HF
      go_wp2_with fail
      have zr := hb.size
      obtain ⟨wo, rfl⟩ : ∃ wo : World, wo = wr := ⟨_, rfl⟩
      go_loopw [1, 43] (fun m i wr => ∃ (k : Nat) (mq : Int), k ≤ n.ks.length ∧ i = .int .i64 k ∧ m = .int .i64 mq ∧ 0 ≤ mq ∧ mq ≤ 200 ∧ Grew wo wr ∧ tot = leftK ((n.ks.map NT.er).drop k) mq) (fun _ i _ => n.ks.length - (intOf i).toNat)
      case atStart => exact ⟨0, _, by omega, rfl, rfl, by omega, by omega, Grew.refl _, by simp [HG.out]⟩
      case round =>
        clear HG
        obtain ⟨j, mq, hj, rfl, rfl, hmq, hmq2, hg, he⟩ := hrel
        have HE := Lib.hid he
        clear he
        by_cases hlt : j < n.ks.length
        · have hgr := b1.trans (hb.trans hg)
          obtain ⟨b, o, rfl, _, hbh, hc0, hc1, hc2, hc3⟩ := (hk.grew hgr (Nat.le_refl _)).at hlt
          have HD := Lib.hid (kids_drop n.ks j hlt)
          have hmem := getD_mem n.ks j hlt
          have hkx := NT.Ok.grew (hk.2 _ hmem) hgr
          have hbx := T.bulk_mem (er_mem hmem)
          have IH := Lib.hid (ih _ hmem)
          clear ih
          generalize n.ks.getD j default = x at *
          have hbo := leftT_both x.er mq hmq
          by_cases hneg : leftT x.er mq < 0
          · go_wp2_with fail
            refine (IH.out _ mq (hkx.grew (Grew.alloc1 _ _)) (by omega) hmq hmq2).mono ?_
            rintro e w' ⟨rfl, hg2⟩
            go_wp2_with fail
            go_ret
            exact ⟨ret_int (by rw [HE.out, HD.out, leftK, if_pos hneg]), (hgr.alloc _).trans hg2⟩
          · have hpos : 0 ≤ leftT x.er mq := by omega
            go_wp2_with fail
            refine (IH.out _ mq (hkx.grew (Grew.alloc1 _ _)) (by omega) hmq hmq2).mono ?_
            rintro e w' ⟨rfl, hg2⟩
            go_wp2_with fail
            go_roundw
            case rel => exact ⟨j + 1, _, by omega, by go_num, rfl, by omega, by omega, (hg.alloc _).trans hg2, by rw [HE.out, HD.out, leftK, if_neg (by omega)]⟩
            case measure => simp [intOf]; omega
        · have hge : n.ks.length ≤ j := by omega
          rw [kids_drop_end _ _ hge] at HE
          clear hlt
          go_wp2_with fail
          go_ret
          exact ⟨ret_int (by rw [HE.out, leftK]), b1.trans (hb.trans hg)⟩

theorem few_any (n : NT) (w : World) (most : Int) (hn : n.Ok w) (hb : n.er.bulk ≤ 1048576) (h0 : 0 ≤ most) (h1 : most ≤ 200) :
    Calls Tryz.prog 39 #[n.val, .int .i64 most] w fun e w' => e = .returned (.bool (few n.er most)) ∧ Grew w w' := by
  unfold NT.val
  have hbo := leftT_both n.er most h0
  have L := Lib.hid (fun w hn => leftMost_any n w most hn hb h0 h1)
  go_enter Tryz.func39, Tryz.ntmps39
  go_wp2_with fail
  refine (L.out _ (hn.grew (Grew.alloc1 _ _))).mono ?_
  rintro e w' ⟨rfl, hg⟩
  go_wp2_with fail
  go_ret
  exact ⟨ret_bool (by simp [few]), (Grew.alloc1 _ _).trans hg⟩
end Go.Proofs.YtbhbekocmpmjfaaGreatDoor
/- WHAT IS FEW is small; plain. -/
namespace Go.Proofs.YtbhbekocmpmjfaaGreatDoor
open Go Go.RowKit

theorem leftP_bulk (ps : List PropL) : ∀ m : Int, (propsBulk ps : Int) ≤ 127 * ps.length + 64 * (m - leftP ps m) := by
  induction ps with
  | nil => intro m; simp [leftP, propsBulk]
  | cons p r ih =>
    intro m
    have := ih (m - ((p.1.size / 64 : Nat) + (p.2.size / 64 : Nat) : Int))
    simp only [leftP, propsBulk, List.length_cons]
    omega
theorem leftT_bulk (n : T) : ∀ m, 0 ≤ leftT n m → (n.bulk : Int) ≤ 127 * (m - leftT n m) := by
  induction n using T.ind with
  | h n ih =>
    have hk : ∀ (ks : List T), (∀ k ∈ ks, ∀ m, 0 ≤ leftT k m → (k.bulk : Int) ≤ 127 * (m - leftT k m)) → ∀ m, 0 ≤ leftK ks m → (T.bulkAll ks : Int) ≤ 127 * (m - leftK ks m) := by
      intro ks
      induction ks with
      | nil => intro _ m _; simp [leftK, T.bulkAll]
      | cons x r ihr =>
        intro h m hm
        simp only [leftK] at hm ⊢
        split at hm
        · omega
        · rename_i h0
          rw [if_neg h0]
          have h1 := h x (by simp) m (by omega)
          have h2 := ihr (fun k hk => h k (by simp [hk])) _ hm
          simp only [T.bulkAll]
          omega
    intro m hm
    rw [leftT_eq] at hm ⊢
    split at hm
    · omega
    · rename_i h0
      rw [if_neg h0]
      have h1 := leftP_bulk n.ps (m - (1 + n.ts.length + n.ps.length))
      have h2 := leftP_le n.ps (m - (1 + n.ts.length + n.ps.length))
      have h3 := hk n.ks ih _ hm
      rw [T.bulk_eq]
      omega
theorem few_bulk {t : T} {m : Int} (h : few t m = true) : (t.bulk : Int) ≤ 127 * m := by
  unfold few at h
  have h0 : 0 ≤ leftT t m := of_decide_eq_true h
  have := leftT_bulk t m h0
  omega
theorem few_props {l : List PropL} {m : Int} (h : few (.mk false l [] []) m = true) : (propsBulk l : Int) + 1 ≤ 127 * m := by
  have := few_bulk h
  rw [T.bulk_eq] at this
  simp [T.bulkAll] at this
  omega
end Go.Proofs.YtbhbekocmpmjfaaGreatDoor
/- slices.EqualFunc on nodes, node.Same, redlineref04.Same: the contracts. A region that draws its order and whose callees make memory of their own alone: one walk. -/
namespace Go.Proofs.YtbhbekocmpmjfaaGreatDoor
open Go Go.RowKit

set_option maxHeartbeats 400000 in
theorem equalNodes_any (xs ys : List NT) (a b : Option Addr) (c d : Nat) (pf : FuncId) (w : World)
    (eg : ∀ args w, (callFunc pf args).run Tryz.prog w = .ok (.enter pf args) w)
    (hcall : ∀ x ∈ xs, ∀ y ∈ ys, ∀ w1, Grew w w1 → Calls Tryz.prog pf #[x.val, y.val] w1 fun e w' => e = .returned (.bool (decide (x.er = y.er))) ∧ Grew w1 w')
    (lo hi lo' hi' : Nat) (hx : KidsIn w lo hi a c xs) (hy : KidsIn w lo' hi' b d ys) (hl : xs.length ≤ 1048576) (hl2 : ys.length ≤ 1048576) (hh : hi ≤ w.heap.size) (hh' : hi' ≤ w.heap.size) :
    Calls Tryz.prog 104 #[.slice a xs.length c, .slice b ys.length d, .func (.func pf) #[] #[]] w fun e w' => e = .returned (.bool (decide (xs.map NT.er = ys.map NT.er))) ∧ Grew w w' := by
  have HC := Lib.hid hcall
  clear hcall
  by_cases hne : xs.length = ys.length
  · have heq : ((xs.length : Int) != ys.length) = false := by simp [hne]
    have HL := Lib.hid hne
    have hle : xs.length ≤ ys.length := by omega
    clear hne
    go_enter Tryz.func104, Tryz.ntmps104
    go_wp2_with fail
    go_loopw [17] (fun i wr => ∃ (k : Nat), k ≤ xs.length ∧ i = .int .i64 k ∧ Grew w wr ∧ (xs.map NT.er).take k = (ys.map NT.er).take k) (fun i _ => xs.length - (intOf i).toNat)
    case atStart => exact ⟨0, by omega, rfl, Grew.refl _, by simp⟩
    case round =>
      obtain ⟨k, hk1, rfl, hg, he⟩ := hrel
      have HE := Lib.hid he
      clear he
      by_cases hlt : k < xs.length
      · obtain ⟨b1, o1, rfl, _, _, hc0, hc1, hc2, hc3⟩ := (hx.grew hg hh).at hlt
        obtain ⟨b2, o2, rfl, _, hb2, hd0, hd1, hd2, hd3⟩ := (hy.grew hg hh').at (j := k) (by omega)
        have hb2' : b2 < wr.heap.size := by have := hg.size; omega
        have hy1 : (k : Int) < (ys.length : Int) := by omega
        have HC1 := Lib.hid (fun w1 hg1 => HC.out _ (getD_mem xs k hlt) _ (getD_mem ys k (by omega)) w1 hg1)
        have HT : Hid ((xs.map NT.er).take (k + 1) = (xs.map NT.er).take k ++ [(xs.getD k default).er] ∧ (ys.map NT.er).take (k + 1) = (ys.map NT.er).take k ++ [(ys.getD k default).er]) := ⟨kids_take xs k hlt, kids_take ys k (by omega)⟩
        cases hxy : decide ((xs.getD k default).er = (ys.getD k default).er) with
        | true =>
          have HX : Hid ((xs.map NT.er).take (k + 1) = (ys.map NT.er).take (k + 1)) := by
            show _ = _
            rw [HT.out.1, HT.out.2, HE.out, of_decide_eq_true hxy]
          rw [hxy] at HC1
          clear hxy HT
          generalize xs.getD k default = p at *
          generalize ys.getD k default = q at *
          go_wp2_with fail
          refine (HC1.out _ ((hg.alloc _).alloc _)).mono ?_
          rintro e w' ⟨rfl, hg2⟩
          go_wp2_with fail
          go_roundw
          case rel => exact ⟨k + 1, by omega, by go_num, ((hg.alloc _).alloc _).trans hg2, HX.out⟩
          case measure => simp [intOf]; omega
        | false =>
          have HN : Hid (decide (xs.map NT.er = ys.map NT.er) = false) := by
            show _ = _
            simp only [decide_eq_false_iff_not] at hxy ⊢
            intro e
            have h1 := congrArg (fun l => l.take (k + 1)) e
            simp only [HT.out.1, HT.out.2, HE.out] at h1
            exact hxy (by simpa using h1)
          rw [hxy] at HC1
          clear hxy HT
          generalize xs.getD k default = p at *
          generalize ys.getD k default = q at *
          go_wp2_with fail
          refine (HC1.out _ ((hg.alloc _).alloc _)).mono ?_
          rintro e w' ⟨rfl, hg2⟩
          go_wp2_with fail
          go_ret
          exact ⟨ret_bool (by rw [HN.out]), ((hg.alloc _).alloc _).trans hg2⟩
      · have HN : Hid (decide (xs.map NT.er = ys.map NT.er) = true) := by
          show _ = _
          have := HE.out
          rw [List.take_of_length_le (by simp; omega), List.take_of_length_le (by have := HL.out; simp; omega)] at this
          simp [this]
        go_wp2_with fail
        go_ret
        exact ⟨ret_bool (by rw [HN.out]), hg⟩
  · have heq : ((xs.length : Int) != ys.length) = true := by simp; omega
    have HN : Hid (decide (xs.map NT.er = ys.map NT.er) = false) := by
      show _ = _
      simp only [decide_eq_false_iff_not]
      intro e
      have := congrArg List.length e
      simp at this
      exact hne this
    clear hne
    go_enter Tryz.func104, Tryz.ntmps104
    go_wp2_with fail
    go_ret
    exact ⟨ret_bool (by rw [HN.out]), Grew.refl _⟩

theorem er_eq_iff (n m : NT) : n.er = m.er ↔ n.lf = m.lf ∧ n.ps = m.ps ∧ n.ts = m.ts ∧ n.ks.map NT.er = m.ks.map NT.er := by
  rw [NT.er_eq, NT.er_eq, T.mk.injEq]

set_option maxHeartbeats 1000000 in
theorem nodeSame_any (n : NT) : ∀ (m : NT) (w : World), n.Ok w → m.Ok w → n.er.bulk ≤ 1048576 → m.er.bulk ≤ 1048576 →
    Calls Tryz.prog 38 #[n.val, m.val] w fun e w' => e = .returned (.bool (decide (n.er = m.er))) ∧ Grew w w' := by
  induction n using NT.ind with
  | h n ih =>
  intro m w hn hm hbn hbm
  have hin := NT.In_iff.1 hn
  have him := NT.In_iff.1 hm
  have hl1 := n.lens
  have hl2 := m.lens
  have l1 : n.ps.length ≤ 1048576 := by omega
  have l2 : m.ps.length ≤ 1048576 := by omega
  have l3 : n.ts.length ≤ 1048576 := by omega
  have l4 : m.ts.length ≤ 1048576 := by omega
  have l5 : n.ks.length ≤ 1048576 := by omega
  have l6 : m.ks.length ≤ 1048576 := by omega
  clear hl1 hl2
  have gb : ∀ o1 o2, Grew w ((w.alloc o1).alloc o2) := fun o1 o2 => ((Grew.refl w).alloc o1).alloc o2
  have PS := Lib.hid (fun w' (hg : Grew w w') => propSame_any n.pa m.pa n.pc m.pc n.ps m.ps w' _ _ _ _ (hin.1.grew hg (Nat.le_refl _)) (him.1.grew hg (Nat.le_refl _)) l1 l2 hg.size hg.size)
  have TS := Lib.hid (fun w' (hg : Grew w w') => glyphSame_any n.ta m.ta n.tc m.tc n.ts m.ts w' _ _ _ _ (hin.2.1.grew hg (Nat.le_refl _)) (him.2.1.grew hg (Nat.le_refl _)) l3 l4 hg.size hg.size)
  have KS := Lib.hid (fun w' (hg : Grew w w') => equalNodes_any n.ks m.ks n.ka m.ka n.kc m.kc 38 w' Tryz.call38 (fun x hx y hy w1 hg1 => ih x hx y w1 (NT.In.ok ((hin.2.2.2 x hx).grew (hg.trans hg1) (Nat.le_refl _)) (hg.trans hg1).size) (NT.In.ok ((him.2.2.2 y hy).grew (hg.trans hg1) (Nat.le_refl _)) (hg.trans hg1).size) (by have := T.bulk_kid (n := n.er) (k := x.er) (by rw [NT.er_ks]; exact er_mem hx); omega) (by have := T.bulk_kid (n := m.er) (k := y.er) (by rw [NT.er_ks]; exact er_mem hy); omega)) _ _ _ _ (hin.2.2.grew hg (Nat.le_refl _)) (him.2.2.grew hg (Nat.le_refl _)) l5 l6 hg.size hg.size)
  have EI := er_eq_iff n m
  clear ih hin him
  unfold NT.val
  by_cases h1 : n.lf = m.lf
  · have t1 : (n.lf == m.lf) = true := by simpa using h1
    rw [eq_true h1, true_and] at EI
    clear h1
    cases h2 : decide (n.ps = m.ps) with
    | false =>
      have HN : Hid (decide (n.er = m.er) = false) := by show _ = _; simp only [decide_eq_false_iff_not] at h2 ⊢; rw [EI]; exact fun h => h2 h.1
      rw [h2] at PS
      clear h2 EI
      go_enter Tryz.func38, Tryz.ntmps38
      go_wp2_with fail
      refine (PS.out _ (gb _ _)).mono ?_
      rintro e w1 ⟨rfl, g1⟩
      go_wp2_with fail
      go_ret
      exact ⟨ret_bool (by rw [HN.out]), (gb _ _).trans g1⟩
    | true =>
      rw [eq_true (of_decide_eq_true h2), true_and] at EI
      rw [h2] at PS
      clear h2
      cases h3 : decide (n.ts = m.ts) with
      | false =>
        have HN : Hid (decide (n.er = m.er) = false) := by show _ = _; simp only [decide_eq_false_iff_not] at h3 ⊢; rw [EI]; exact fun h => h3 h.1
        rw [h3] at TS
        clear h3 EI
        go_enter Tryz.func38, Tryz.ntmps38
        go_wp2_with fail
        refine (PS.out _ (gb _ _)).mono ?_
        rintro e w1 ⟨rfl, g1⟩
        obtain ⟨c0, c1, c2, c3, z1⟩ := box4 ((Grew.alloc1 _ _).trans g1)
        obtain ⟨d0, d1, d2, d3⟩ := box2 g1
        go_wp2_with fail
        refine (TS.out _ ((gb _ _).trans g1)).mono ?_
        rintro e w2 ⟨rfl, g2⟩
        go_wp2_with fail
        go_ret
        exact ⟨ret_bool (by rw [HN.out]), (gb _ _).trans (g1.trans g2)⟩
      | true =>
        rw [eq_true (of_decide_eq_true h3), true_and] at EI
        rw [h3] at TS
        clear h3
        have HN : Hid (decide (n.er = m.er) = decide (n.ks.map NT.er = m.ks.map NT.er)) := by show _ = _; rw [decide_eq_decide]; exact EI
        clear EI
        generalize decide (n.ks.map NT.er = m.ks.map NT.er) = kk at *
        go_enter Tryz.func38, Tryz.ntmps38
        go_wp2_with fail
        refine (PS.out _ (gb _ _)).mono ?_
        rintro e w1 ⟨rfl, g1⟩
        obtain ⟨c0, c1, c2, c3, z1⟩ := box4 ((Grew.alloc1 _ _).trans g1)
        obtain ⟨d0, d1, d2, d3⟩ := box2 g1
        go_wp2_with fail
        refine (TS.out _ ((gb _ _).trans g1)).mono ?_
        rintro e w2 ⟨rfl, g2⟩
        clear c0 c1 c2 c3 d0 d1 d2 d3
        obtain ⟨c0, c1, c2, c3, z2⟩ := box4 ((Grew.alloc1 _ _).trans (g1.trans g2))
        obtain ⟨d0, d1, d2, d3⟩ := box2 (g1.trans g2)
        go_wp2_with fail
        refine (KS.out _ ((gb _ _).trans (g1.trans g2))).mono ?_
        rintro e w3 ⟨rfl, g3⟩
        go_wp2_with fail
        go_ret
        exact ⟨ret_bool (by rw [HN.out]), (gb _ _).trans (g1.trans (g2.trans g3))⟩
  · have t1 : (n.lf == m.lf) = false := by simpa using h1
    have HN : Hid (decide (n.er = m.er) = false) := by show _ = _; simp only [decide_eq_false_iff_not]; rw [EI]; exact fun h => h1 h.1
    clear h1 EI
    go_enter Tryz.func38, Tryz.ntmps38
    go_wp2_with fail
    go_ret
    exact ⟨ret_bool (by rw [HN.out]), gb _ _⟩

end Go.Proofs.YtbhbekocmpmjfaaGreatDoor
/- back.set: the contract. -/
namespace Go.Proofs.YtbhbekocmpmjfaaGreatDoor
open Go Go.RowKit

theorem infoByte : (Tryz.prog.info? 5).map (fun i => (i.zero, i.size, i.bytes)) = some (some (.int .u8 0), 1, 1) := by kernel_rfl
theorem bytes_at (l : List Int) : ∀ i, i < l.length → ∀ j, j < 1 → (l.map (Value.int .u8))[i * 1 + j]? = some (.int .u8 (l.getD i 0)) := fun i hi j hj => by
  obtain rfl : j = 0 := by omega
  simp [List.getElem?_map, List.getElem?_eq_getElem hi, List.getD]
theorem bytes_one (l : List Int) : ∀ u ∈ l.map (Value.int .u8), u.oneCell' = true := by
  intro u hu
  obtain ⟨x, _, rfl⟩ := List.mem_map.1 hu
  rfl
/-- a field's cells -/
def fsCell (fs : List (Int × Bool)) (i j : Nat) : Value := if j = 0 then .int .u8 (fs.getD i (0, false)).1 else .bool (fs.getD i (0, false)).2
theorem fsRow_new {w : World} {t : TypeId} {fs : List (Int × Bool)} {b1 b2 b3 b4 b5 b6 b7 b8 b9 : Bool} (h : fs = [(112, b1), (116, b2), (97, b3), (110, b4), (111, b5), (119, b6), (120, b7), (115, b8), (115, b9)]) :
    RowIn (w.alloc (.cells #[.int .u8 112, .bool b1, .int .u8 116, .bool b2, .int .u8 97, .bool b3, .int .u8 110, .bool b4, .int .u8 111, .bool b5, .int .u8 119, .bool b6, .int .u8 120, .bool b7, .int .u8 115, .bool b8, .int .u8 115, .bool b9] t)) w.heap.size (w.heap.size + 1) (some ⟨w.heap.size, 0, none⟩) 9 9 2 (fsCell fs) :=
  rowIn_new (Nat.le_refl _) (by unfold maxLen; omega) (fun i hi j hj => by
    subst h
    have hi' : i = 0 ∨ i = 1 ∨ i = 2 ∨ i = 3 ∨ i = 4 ∨ i = 5 ∨ i = 6 ∨ i = 7 ∨ i = 8 := by omega
    have hj' : j = 0 ∨ j = 1 := by omega
    rcases hj' with rfl | rfl <;> rcases hi' with rfl | rfl | rfl | rfl | rfl | rfl | rfl | rfl | rfl <;> rfl)
theorem setOf_snoc {fs : List (Int × Bool)} {k : Nat} (h : k < fs.length) : setOf (fs.take (k + 1)) = setOf (fs.take k) ++ (if (fs.getD k (0, false)).2 = true then [(fs.getD k (0, false)).1] else []) := by
  unfold setOf
  rw [List.take_succ_eq_append_getElem h, List.filter_append, List.map_append]
  congr 1
  have e : fs.getD k (0, false) = fs[k] := by simp [List.getD, List.getElem?_eq_getElem h]
  rw [e]
  cases hb : fs[k].2 <;> simp [hb]
theorem setOf_len (fs : List (Int × Bool)) (k : Nat) : (setOf (fs.take k)).length ≤ k := by
  unfold setOf
  have h1 := List.length_filter_le (·.2) (fs.take k)
  have h2 := List.length_take_le k fs
  simp only [List.length_map]
  omega
theorem pn_nil : PN.nil.l.length ≤ 1048576 := Nat.zero_le _
theorem sel_nil_in {w : World} {lo hi : Nat} : SelL.nil.In w lo hi := ⟨intsIn_nil, intsIn_nil⟩
set_option maxRecDepth 100000 in
set_option maxHeartbeats 4000000 in
theorem set_any (o : OpL) (w : World) (ho : o.In w 0 w.heap.size) (hb : o.er.Small) :
    Calls Tryz.prog 179 #[o.val] w fun e w' => e = .returned (.string (strOfNums (setE o.er))) ∧ Grew w w' := by
  have later : ∀ {w1}, Grew w w1 → o.In w1 0 w1.heap.size := fun g => (ho.grew g (Nat.le_refl _)).mono (Nat.le_refl _) g.size
  have NS := Lib.hid (fun w1 (g : Grew w w1) => nodeSame_any o.node NT.zero w1 (NT.In.ok (later g).2.1 (Nat.le_refl _)) (NT.In.ok (NT.zero_in (lo := 0) (hi := 0)) (Nat.zero_le _)) hb.2.1 (by rw [NT.zero_er]; decide))
  have S1 := Lib.hid (fun w1 (g : Grew w w1) => sameSel_any o.src SelL.nil w1 (later g).2.2.2.2.2.1 sel_nil_in hb.2.2.2.2.2.1.1 hb.2.2.2.2.2.1.2 pn_nil pn_nil)
  have S2 := Lib.hid (fun w1 (g : Grew w w1) => sameSel_any o.dst SelL.nil w1 (later g).2.2.2.2.2.2 sel_nil_in hb.2.2.2.2.2.2.1 hb.2.2.2.2.2.2.2 pn_nil pn_nil)
  have HF : Hid (fieldsE o.er = [(112, decide (0 < o.path.l.length)), (116, decide (0 < o.dest.l.length)), (97, decide (o.pos ≠ 0)), (110, decide (o.node.er ≠ T.zero)), (111, decide (0 < o.old.length)), (119, decide (0 < o.new.length)), (120, decide (0 < o.text.length)), (115, !sameSelP o.src.er SelE.nil), (115, !sameSelP o.dst.er SelE.nil)]) := rfl
  have HE : Hid (setE o.er = setOf (fieldsE o.er)) := rfl
  generalize setE o.er = res at *
  generalize fieldsE o.er = fs at *
  clear later ho hb
  unfold OpL.val
  go_enter Tryz.func179, Tryz.ntmps179
  go_upto_region 2 with fail
  generalize hW : w.alloc _ = w1
  obtain ⟨g1, rO, _, z1⟩ := boxes1 w o.cells _ w1 hW
  clear hW
  have KB := fun (w' : World) (g : Grew w1 w') => (have h := rangeAt_grew rO g (by omega); ⟨rangeAt_at0 h (j := 1) rfl, rangeAt_at0 h (j := 2) rfl, rangeAt_at0 h (j := 3) rfl, rangeAt_at0 h (j := 4) rfl, rangeAt_at0 h (j := 5) rfl, rangeAt_at0 h (j := 6) rfl, rangeAt_at0 h (j := 7) rfl, rangeAt_at0 h (j := 8) rfl, rangeAt_at0 h (j := 9) rfl, rangeAt_at0 h (j := 10) rfl, rangeAt_at0 h (j := 11) rfl, rangeAt_at0 h (j := 12) rfl, rangeAt_at0 h (j := 13) rfl, rangeAt_at0 h (j := 14) rfl, rangeAt_at0 h (j := 15) rfl, rangeAt_at0 h (j := 16) rfl, rangeAt_at0 h (j := 17) rfl, rangeAt_at0 h (j := 18) rfl, rangeAt_at0 h (j := 19) rfl, rangeAt_at0 h (j := 20) rfl⟩ :
    w'.cell? ⟨w.heap.size, 1, none⟩ = some (.slice o.path.a o.path.l.length o.path.c) ∧ w'.cell? ⟨w.heap.size, 2, none⟩ = some (.slice o.dest.a o.dest.l.length o.dest.c) ∧ w'.cell? ⟨w.heap.size, 3, none⟩ = some (.int .i64 o.pos) ∧ w'.cell? ⟨w.heap.size, 4, none⟩ = some (.bool o.node.lf) ∧ w'.cell? ⟨w.heap.size, 5, none⟩ = some (.slice o.node.pa o.node.ps.length o.node.pc) ∧ w'.cell? ⟨w.heap.size, 6, none⟩ = some (.slice o.node.ta o.node.ts.length o.node.tc) ∧ w'.cell? ⟨w.heap.size, 7, none⟩ = some (.slice o.node.ka o.node.ks.length o.node.kc) ∧
    w'.cell? ⟨w.heap.size, 8, none⟩ = some (.slice o.oa o.old.length o.oc) ∧ w'.cell? ⟨w.heap.size, 9, none⟩ = some (.slice o.na o.new.length o.nc) ∧ w'.cell? ⟨w.heap.size, 10, none⟩ = some (.slice o.xa o.text.length o.xc) ∧
    w'.cell? ⟨w.heap.size, 11, none⟩ = some (.bool o.src.is) ∧ w'.cell? ⟨w.heap.size, 12, none⟩ = some (.slice o.src.a.p.a o.src.a.p.l.length o.src.a.p.c) ∧ w'.cell? ⟨w.heap.size, 13, none⟩ = some (.int .i64 o.src.a.o) ∧ w'.cell? ⟨w.heap.size, 14, none⟩ = some (.slice o.src.f.p.a o.src.f.p.l.length o.src.f.p.c) ∧ w'.cell? ⟨w.heap.size, 15, none⟩ = some (.int .i64 o.src.f.o) ∧
    w'.cell? ⟨w.heap.size, 16, none⟩ = some (.bool o.dst.is) ∧ w'.cell? ⟨w.heap.size, 17, none⟩ = some (.slice o.dst.a.p.a o.dst.a.p.l.length o.dst.a.p.c) ∧ w'.cell? ⟨w.heap.size, 18, none⟩ = some (.int .i64 o.dst.a.o) ∧ w'.cell? ⟨w.heap.size, 19, none⟩ = some (.slice o.dst.f.p.a o.dst.f.p.l.length o.dst.f.p.c) ∧ w'.cell? ⟨w.heap.size, 20, none⟩ = some (.int .i64 o.dst.f.o))
  have G1 := Lib.hid g1
  clear rO z1 g1
  go_cut [53, 54, 55] (fun s53 s54 s55 wx => ∃ B, s53 = .slice (some ⟨B, 0, none⟩) 9 9 ∧ s54 = .int .i64 9 ∧ s55 = .int .i64 0 ∧ Grew w wx ∧ RowIn wx B (B + 1) (some ⟨B, 0, none⟩) 9 9 2 (fsCell fs) ∧ B < wx.heap.size)
  case first =>
    have g10 : Grew w1 w1.drew := (Grew.refl _).drew
    unfold NT.val at NS
    go_region_held3 (fun w' => Grew w1 w') ((first | assumption | exact Grew.trans (by assumption) (by assumption) | exact Grew.trans (by assumption) (Grew.alloc1 _ _)))
      ((first | (go_at_call 38; refine (NS.out _ (G1.out.trans (by assumption))).mono ?_; rintro e w7 ⟨rfl, g7⟩) | (go_at_call 65; refine (S1.out _ (G1.out.trans (by assumption))).mono ?_; rintro e w8 ⟨rfl, g8⟩; clear S1) | (go_at_call 65; refine (S2.out _ (G1.out.trans (by assumption))).mono ?_; rintro e w9 ⟨rfl, g9⟩)))
    have GZ := G1.out.trans (g10.trans (g7.trans (g8.trans g9)))
    have HR := fsRow_new (w := w9) (t := 207) (fs := fs) (b1 := decide (0 < o.path.l.length)) (b2 := decide (0 < o.dest.l.length)) (b3 := (o.pos != 0)) (b4 := !decide (o.node.er = NT.zero.er)) (b5 := decide (0 < o.old.length)) (b6 := decide (0 < o.new.length)) (b7 := decide (0 < o.text.length)) (b8 := !sameSelP o.src.er SelL.nil.er) (b9 := !sameSelP o.dst.er SelL.nil.er) (by
      rw [HF.out, NT.zero_er]
      have e1 : decide (o.pos ≠ 0) = (o.pos != 0) := by by_cases h : o.pos = 0 <;> simp [h]
      have e2 : decide (o.node.er ≠ T.zero) = !decide (o.node.er = T.zero) := by by_cases h : o.node.er = T.zero <;> simp [h]
      rw [e1, e2]; rfl)
    clear KB NS S2 HF
    go_wp2_with fail
    go_meet
    exact ⟨w9.heap.size, rfl, rfl, rfl, GZ.alloc _, HR, by simp⟩
  case rest =>
    obtain ⟨B, rfl, rfl, rfl, gx, hrow, hB⟩ := hcut
    have GX := Lib.hid gx
    have HL : Hid (fs.length = 9) := by show _ = _; rw [HF.out]; rfl
    clear KB NS S1 S2 G1 HF gx
    go_wp2_with fail
    go_loopw [3, 55] (fun s3 i wr => ∃ (k : Nat) (l : List Int), k ≤ 9 ∧ i = .int .i64 k ∧ Grew wc wr ∧ wr.ownsRow wc.heap.size 5 1 s3 l.length (l.map (Value.int .u8)) ∧ Hid (l = setOf (fs.take k))) (fun _ i _ => 9 - (intOf i).toNat)
    case atStart => exact ⟨0, [], by omega, rfl, Grew.refl _, World.ownsRow_nil _ _ _ _, by show _ = _; rfl⟩
    case round =>
      obtain ⟨k, l, hk, rfl, g, hown, HLL⟩ := hrel
      have hll : l.length ≤ 9 := by rw [HLL.out]; exact Nat.le_trans (setOf_len _ _) hk
      by_cases hlt : k < 9
      · obtain ⟨b0, o0, hab, _, hb0, hc⟩ := (RowIn.agree hrow (g.agree (show B + 1 ≤ wc.heap.size by omega))).2 (show 0 < 9 by decide)
        injection hab with hab
        injection hab with e1 e2
        subst e1
        subst e2
        have c0 := hc k hlt 0 (by decide)
        have c1 := hc k hlt 1 (by decide)
        simp only [Nat.zero_add, Nat.add_zero] at c0 c1
        have HS := Lib.hid (setOf_snoc (fs := fs) (k := k) (by rw [HL.out]; exact hlt))
        unfold fsCell at c0 c1
        rw [if_pos rfl] at c0
        rw [if_neg (by decide)] at c1
        generalize fs.getD k (0, false) = f at *
        obtain ⟨fc, fb⟩ := f
        simp only at c0 c1
        obtain ⟨va, vc, rfl⟩ := owned_shape hown
        cases fb with
        | true =>
          have HN : Hid (l ++ [fc] = setOf (fs.take (k + 1))) := by show _ = _; rw [HS.out, HLL.out]; simp
          clear HS HLL hc
          have hone : RowIn ((wr.alloc (.cells #[.int .u8 fc, .bool true] 207)).alloc (.cells #[.int .u8 fc] 5)) (wr.alloc (.cells #[.int .u8 fc, .bool true] 207)).heap.size ((wr.alloc (.cells #[.int .u8 fc, .bool true] 207)).heap.size + 1) (some ⟨(wr.alloc (.cells #[.int .u8 fc, .bool true] 207)).heap.size, 0, none⟩) 1 1 1 (fun i _ => .int .u8 ([fc].getD i 0)) :=
            rowIn_new (Nat.le_refl _) (by unfold maxLen; omega) (fun i hi j hj => by
              obtain rfl : i = 0 := by omega
              obtain rfl : j = 0 := by omega
              rfl)
          simp only [World.size_alloc] at hone
          have gA : Grew wr ((wr.alloc (.cells #[.int .u8 fc, .bool true] 207)).alloc (.cells #[.int .u8 fc] 5)) := (Grew.alloc1 _ _).alloc _
          have zg := g.size
          go_wp2_with (at_builtin; refine wpList_append_row rfl (.tmp 61) (.tmp 64) 181 rfl wc.heap.size 5 Tryz.underlying181 infoByte rfl (by decide) (.slice va l.length vc) l.length (l.map (Value.int .u8)) rfl (ownsRow_grew hown gA) (some ⟨wr.heap.size + 1, 0, none⟩) 1 1 (wr.heap.size + 1) (wr.heap.size + 1 + 1) _ rfl hone ([fc].map (Value.int .u8)) (by simp) (bytes_at [fc]) (bytes_one [fc]) (by unfold maxLen; omega) (by omega) (by simp; omega) ?_; intro v' w' hown' hgrow hblk)
          go_roundw
          case rel => exact ⟨k + 1, l ++ [fc], by omega, by go_num, (g.trans gA).grown hgrow (fun k hk => (hown.lt k hk).1), by rw [List.length_append, List.map_append]; exact hown', HN⟩
          case measure => simp [intOf]; omega
        | false =>
          have HN : Hid (l = setOf (fs.take (k + 1))) := by show _ = _; rw [HS.out, HLL.out]; simp
          clear HS HLL hc
          go_wp2_with fail
          go_roundw
          case rel => exact ⟨k + 1, l, by omega, by go_num, g.trans (Grew.alloc1 _ _), ownsRow_grew hown (Grew.alloc1 _ _), HN⟩
          case measure => simp [intOf]; omega
      · obtain rfl : k = 9 := by omega
        have HN : Hid (res = l) := by show _ = _; rw [HE.out, HLL.out, List.take_of_length_le (by rw [HL.out]; exact Nat.le_refl _)]
        clear HLL HE
        obtain ⟨va, vc, rfl⟩ := owned_shape hown
        have hB2 : BytesIn wr wc.heap.size wr.heap.size va vc l := (ownRow_owned hown (bytes_at l)).1
        have hcv := bytes_conv (P := Tryz.prog) wr hB2 Tryz.underlying181 Tryz.underlying5 Tryz.underlying9
        have G := Lib.hid (GX.out.trans g)
        clear hB2 hown g
        go_wp2_with fail
        go_ret
        exact ⟨by rw [HN.out]; rfl, G.out⟩
end Go.Proofs.YtbhbekocmpmjfaaGreatDoor
/- MAPS WITH INTEGER KEYS that are written out: the laws. -/
namespace Go.Proofs.YtbhbekocmpmjfaaGreatDoor
open Go Go.RowKit

theorem run_insert_int {P : Program} (w : World) (mty kt et : TypeId) (r clock : Nat) (es : Array MapEntry) (k : Int) (val : Value) (hm : P.underlying mty = some (.map kt et)) (hk : P.underlying kt = some (.int .i64)) (hb : w.heap[r]? = some (.map es clock))
    (hf : Instr.findNow (.int .i64) (.int .i64 k) es.toList 0 = some none) : (Instr.mapUpdate mty (.map (some r)) (.int .i64 k) val).run P w = .ok () { w with heap := w.heap.setIfInBounds r (.map (es.push { key := .int .i64 k, val := val, born := clock }) (clock + 1)) } := by
  have hc : (Instr.checkKey false 10000 kt (.int .i64 k)).run P w = .ok () w := MapKept.run_checkKey (k := .int .i64 k) hk (by simp [MapKept.IsKey]) false 9999
  simp [Instr.mapUpdate, run_underlying hm, MapKept.run_getObj_map hb, hc, MapKept.run_findKey hk hf, MapKept.run_setObj_map _ hb, Result.andThen]
/-- a new map, one entry more -/
theorem alloc_insert (w : World) (o o' : Obj) : ({ (w.alloc o) with heap := (w.alloc o).heap.setIfInBounds w.heap.size o' } : World) = w.alloc o' := by
  unfold World.alloc
  have e : (w.heap.push o).setIfInBounds w.heap.size o' = w.heap.push o' := by
    refine Array.ext (by simp) (fun i h1 h2 => ?_)
    rw [Array.getElem_setIfInBounds (by simpa using h1), Array.getElem_push, Array.getElem_push]
    by_cases h : i < w.heap.size
    · rw [if_neg (by omega), dif_pos h, dif_pos h]
    · have : i = w.heap.size := by simp at h1; omega
      subst this
      simp
  simp [-World.alloc_eq, e]
end Go.Proofs.YtbhbekocmpmjfaaGreatDoor
