/- redlineref04.left, redlineref04.Few: the contracts. -/
import Derived.Test.YtgnlgfkolbecmaaFew
import Derived.Test.YtgnlgfkolbecmaaChecked
import Derived.Outline
namespace Go.Proofs.Ytgnlgfkolbecmaa
open Go Go.RowKit

set_option maxHeartbeats 400000 in
theorem left_any (n : NT) : ∀ (w : World) (most : Int), n.Ok w → n.er.bulk ≤ 1048576 → 0 ≤ most → most ≤ 200 →
    Calls Try.prog 21 #[n.val, .int .i64 most] w fun e w' => e = .returned (.int .i64 (leftT n.er most)) ∧ Grew w w' := by
  induction n using NT.ind with
  | h n ih =>
  intro w most hn hbulk hm hm2
  have hlens := n.lens
  have hn := NT.In_iff.1 hn
  obtain ⟨hp, _, hk⟩ := hn
  have hpb : propsBulk n.ps ≤ 1048576 := by have := n.er.bulk_eq; simp only [NT.er_ps, NT.er_ts, NT.er_ks] at this; omega
  have hkb : T.bulkAll (n.ks.map NT.er) ≤ 1048576 := by have := n.er.bulk_eq; simp only [NT.er_ps, NT.er_ts, NT.er_ks] at this; omega
  have h1 : n.ps.length ≤ 1048576 := by omega
  have h2 : n.ts.length ≤ 1048576 := by omega
  have h3 : n.ks.length ≤ 1048576 := by omega
  clear hlens
  unfold NT.val
  have HT := Lib.hid (leftT_er n most)
  generalize leftT n.er most = tot at *
  generalize n.pa = pa at *
  generalize n.ta = ta at *
  generalize n.ka = ka at *
  go_enter Try.func21, Try.ntmps21
  go_wp2_with fail
  obtain ⟨w1, hw1⟩ : ∃ w1, w1 = w.alloc (Obj.cells #[Value.bool n.lf, Value.slice pa n.ps.length n.pc, Value.slice ta n.ts.length n.tc, Value.slice ka n.ks.length n.kc] 26) := ⟨_, rfl⟩
  have b1 : Grew w w1 := by rw [hw1]; exact Grew.alloc1 _ _
  have c3 : w1.cell? ⟨w.heap.size, 3, none⟩ = some (.slice ka n.ks.length n.kc) := by rw [hw1]; go_simp
  have z1 : w.heap.size < w1.heap.size := by rw [hw1]; simp
  rw [← hw1]; clear hw1
  go_loopw [1, 22] (fun m i wr => ∃ (k : Nat) (mm : Int), k ≤ n.ps.length ∧ i = .int .i64 k ∧ m = .int .i64 mm ∧ -3200000 + (propsBulk (n.ps.drop k) : Int) ≤ mm ∧ mm ≤ 200 ∧ Grew w1 wr ∧ leftP n.ps (most - (1 + n.ts.length + n.ps.length)) = leftP (n.ps.drop k) mm) (fun _ i _ => n.ps.length - (intOf i).toNat)
  case atStart => exact ⟨0, _, by omega, rfl, rfl, by simp; omega, by omega, Grew.refl _, by simp⟩
  case round =>
    obtain ⟨k, mm, hk1, rfl, rfl, hmm, hmm2, hb, he⟩ := hrel
    have HE := Lib.hid he
    clear he
    by_cases hlt : k < n.ps.length
    · obtain ⟨b, o, rfl, _, hbh, hc⟩ := hp.2 (by omega)
      have HD := Lib.hid (drop_cons n.ps k hlt)
      have hmem := propsBulk_mem (getD_mem n.ps k hlt)
      have e0 : wr.cell? ⟨b, o + k * 2, none⟩ = some (.string (n.ps.getD k default).1) := by
        rw [hb.cell (by simp; omega), b1.cell (by simp; omega)]; exact hc k hlt 0 (by omega)
      have e1 : wr.cell? ⟨b, o + k * 2 + 1, none⟩ = some (.string (n.ps.getD k default).2) := by
        rw [hb.cell (by simp; omega), b1.cell (by simp; omega)]; exact hc k hlt 1 (by omega)
      generalize n.ps.getD k default = p at *
      rw [HD.out] at hmm
      simp only [propsBulk] at hmm
      have hp1 : p.1.size ≤ 1048576 := by omega
      have hp2 : p.2.size ≤ 1048576 := by omega
      clear hc hp hmem
      go_wp2_with fail
      go_roundw
      case rel => exact ⟨k + 1, _, by omega, by go_num, rfl, by omega, by omega, hb.alloc _, by rw [HE.out, HD.out, leftP]; congr 1⟩
      case measure => simp [intOf]; omega
    · have cw3 : wr.cell? ⟨w.heap.size, 3, none⟩ = some (.slice ka n.ks.length n.kc) := by rw [hb.cell z1]; exact c3
      have hge : n.ps.length ≤ k := by omega
      have HF : Hid (leftP n.ps (most - (1 + n.ts.length + n.ps.length)) = mm) := by
        have := HE.out; rw [List.drop_of_length_le hge] at this; exact this
      have hd1 : decide (k < n.ps.length) = false := by simp; omega
      clear HE hlt hmm
      by_cases hneg : mm < 0
      · go_wp2_with fail
        go_ret
        exact ⟨ret_int (by rw [HT.out, HF.out, if_pos hneg]), b1.trans hb⟩
      have hpos : 0 ≤ mm := by omega
      have hd2 : decide (mm < 0) = false := by simp; omega
      clear hneg
      have HG : Hid (tot = leftK (n.ks.map NT.er) mm) := by show tot = _; rw [HT.out, HF.out, if_neg (by omega)]
      clear HT HF
      go_wp2_with fail
      have zr := hb.size
      obtain ⟨wo, rfl⟩ : ∃ wo : World, wo = wr := ⟨_, rfl⟩
      go_loopw [1, 43] (fun m i wr => ∃ (k : Nat) (mq : Int), k ≤ n.ks.length ∧ i = .int .i64 k ∧ m = .int .i64 mq ∧ 0 ≤ mq ∧ mq ≤ 200 ∧ Grew wo wr ∧ tot = leftK ((n.ks.map NT.er).drop k) mq) (fun _ i _ => n.ks.length - (intOf i).toNat)
      case atStart => exact ⟨0, _, by omega, rfl, rfl, by omega, by omega, Grew.refl _, by simp [HG.out]⟩
      case round =>
        clear HG
        obtain ⟨j, mq, hj, rfl, rfl, hmq, hmq2, hg, he⟩ := hrel
        have HE := Lib.hid he
        clear he
        by_cases hlt : j < n.ks.length
        · have hgr := b1.trans (hb.trans hg)
          obtain ⟨b, o, rfl, _, hbh, hc0, hc1, hc2, hc3⟩ := (hk.grew hgr (Nat.le_refl _)).at hlt
          have HD := Lib.hid (kids_drop n.ks j hlt)
          have hmem := getD_mem n.ks j hlt
          have hkx := NT.Ok.grew (hk.2 _ hmem) hgr
          have hbx := T.bulk_mem (er_mem hmem)
          have IH := Lib.hid (ih _ hmem)
          clear ih
          generalize n.ks.getD j default = x at *
          have hbo := leftT_both x.er mq hmq
          by_cases hneg : leftT x.er mq < 0
          · go_wp2_with fail
            refine (IH.out _ mq (hkx.grew (Grew.alloc1 _ _)) (by omega) hmq hmq2).mono ?_
            rintro e w' ⟨rfl, hg2⟩
            go_wp2_with fail
            go_ret
            exact ⟨ret_int (by rw [HE.out, HD.out, leftK, if_pos hneg]), (hgr.alloc _).trans hg2⟩
          · have hpos : 0 ≤ leftT x.er mq := by omega
            go_wp2_with fail
            refine (IH.out _ mq (hkx.grew (Grew.alloc1 _ _)) (by omega) hmq hmq2).mono ?_
            rintro e w' ⟨rfl, hg2⟩
            go_wp2_with fail
            go_roundw
            case rel => exact ⟨j + 1, _, by omega, by go_num, rfl, by omega, by omega, (hg.alloc _).trans hg2, by rw [HE.out, HD.out, leftK, if_neg (by omega)]⟩
            case measure => simp [intOf]; omega
        · have hge : n.ks.length ≤ j := by omega
          rw [kids_drop_end _ _ hge] at HE
          clear hlt
          go_wp2_with fail
          go_ret
          exact ⟨ret_int (by rw [HE.out, leftK]), b1.trans (hb.trans hg)⟩

theorem few_any (n : NT) (w : World) (most : Int) (hn : n.Ok w) (hb : n.er.bulk ≤ 1048576) (h0 : 0 ≤ most) (h1 : most ≤ 200) :
    Calls Try.prog 7 #[n.val, .int .i64 most] w fun e w' => e = .returned (.bool (few n.er most)) ∧ Grew w w' := by
  unfold NT.val
  have hbo := leftT_both n.er most h0
  have L := Lib.hid (fun w hn => left_any n w most hn hb h0 h1)
  go_enter Try.func7, Try.ntmps7
  go_wp2_with fail
  refine (L.out _ (hn.grew (Grew.alloc1 _ _))).mono ?_
  rintro e w' ⟨rfl, hg⟩
  go_wp2_with fail
  go_ret
  exact ⟨ret_bool (by simp [few]), (Grew.alloc1 _ _).trans hg⟩
end Go.Proofs.Ytgnlgfkolbecmaa
