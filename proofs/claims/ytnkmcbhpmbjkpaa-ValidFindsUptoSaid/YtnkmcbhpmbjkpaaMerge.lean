/- valid's element: merge: the contract. -/
import Derived.Test.YtnkmcbhpmbjkpaaElem
namespace Go.Proofs.Ytnkmcbhpmbjkpaa
open Go Go.RowKit

def mergeAt (ks : List T) (i : Nat) : Bool := (ks.getD (i - 1) default).lf && (ks.getD i default).lf && decide ((ks.getD (i - 1) default).ps = (ks.getD i default).ps)
/-- the first leaf that has the same properties as the one ahead of it -/
def mergeOf (ks : List T) : Int := idxOf (fun i => decide (1 ≤ i) && mergeAt ks i) (List.range ks.length)

set_option maxHeartbeats 1000000 in
theorem merge_any (e : EN) (w : World) (hn : e.n.Ok w) (hb : e.n.er.bulk ≤ 1048576) :
    Calls Try.prog 51 #[e.val] w fun e' w' => e' = .returned (.tuple #[.int .i64 (mergeOf (e.n.ks.map NT.er)), .int .i64 1]) ∧ Grew w w' := by
  have hlens := e.n.lens
  have hk := (NT.In_iff.1 hn).2.2
  have hl : e.n.ks.length ≤ 1048576 := by omega
  clear hlens
  unfold EN.val
  go_enter Try.func51, Try.ntmps51
  go_wp2_with fail
  have hG : Grew w (w.alloc (.cells #[.bool e.n.lf, .slice e.n.pa e.n.ps.length e.n.pc, .slice e.n.ta e.n.ts.length e.n.tc, .slice e.n.ka e.n.ks.length e.n.kc, .string e.r.ty, .int .i64 e.r.td, .string e.r.tt, .int .i64 e.r.od, .string e.r.ot, .slice e.r.ka e.r.kids.length e.r.kc, .int .i64 e.r.fill, .string e.r.ft, .slice e.aa e.acts.length e.ac] 59)) := Grew.alloc1 _ _
  have hb3 : (w.alloc (.cells #[.bool e.n.lf, .slice e.n.pa e.n.ps.length e.n.pc, .slice e.n.ta e.n.ts.length e.n.tc, .slice e.n.ka e.n.ks.length e.n.kc, .string e.r.ty, .int .i64 e.r.td, .string e.r.tt, .int .i64 e.r.od, .string e.r.ot, .slice e.r.ka e.r.kids.length e.r.kc, .int .i64 e.r.fill, .string e.r.ft, .slice e.aa e.acts.length e.ac] 59)).cell? ⟨w.heap.size, 3, none⟩ = some (.slice e.n.ka e.n.ks.length e.n.kc) := by go_simp
  have hz1 : w.heap.size < (w.alloc (.cells #[.bool e.n.lf, .slice e.n.pa e.n.ps.length e.n.pc, .slice e.n.ta e.n.ts.length e.n.tc, .slice e.n.ka e.n.ks.length e.n.kc, .string e.r.ty, .int .i64 e.r.td, .string e.r.tt, .int .i64 e.r.od, .string e.r.ot, .slice e.r.ka e.r.kids.length e.r.kc, .int .i64 e.r.fill, .string e.r.ft, .slice e.aa e.acts.length e.ac] 59)).heap.size := by simp
  generalize (w.alloc (.cells #[.bool e.n.lf, .slice e.n.pa e.n.ps.length e.n.pc, .slice e.n.ta e.n.ts.length e.n.tc, .slice e.n.ka e.n.ks.length e.n.kc, .string e.r.ty, .int .i64 e.r.td, .string e.r.tt, .int .i64 e.r.od, .string e.r.ot, .slice e.r.ka e.r.kids.length e.r.kc, .int .i64 e.r.fill, .string e.r.ft, .slice e.aa e.acts.length e.ac] 59)) = w1 at *
  go_loopw [4] (fun i wr => ∃ (m : Nat), (m + 1 ≤ e.n.ks.length ∨ m = 0) ∧ i = .int .i64 ((m : Int) + 1) ∧ Grew w1 wr ∧ ∀ j, j < m + 1 → (decide (1 ≤ j) && mergeAt (e.n.ks.map NT.er) j) = false) (fun i _ => e.n.ks.length + 1 - (intOf i).toNat)
  case atStart => exact ⟨0, by omega, rfl, Grew.refl _, fun j hj => by obtain rfl : j = 0 := by omega
                                                                       rfl⟩
  obtain ⟨m, hm1, rfl, hg, hall⟩ := hrel
  have HA := Lib.hid hall
  clear hall
  have hc3 := (hg.cell (p := ⟨w.heap.size, 3, none⟩) hz1).trans hb3
  by_cases hlt : m + 1 < e.n.ks.length
  · have hlt' : (m : Int) + 1 < e.n.ks.length := by omega
    obtain ⟨b, o, hka, _, hbh, c0, c1, c2, c3⟩ := (hk.grew (hG.trans hg) (Nat.le_refl _)).at (j := m) (by omega)
    obtain ⟨b2, o2, hka2, _, hbh2, d0, d1, d2, d3⟩ := (hk.grew (hG.trans hg) (Nat.le_refl _)).at hlt
    rw [hka] at hka2
    injection hka2 with h1
    injection h1 with h1 h2
    subst h1 h2
    generalize e.n.ka = ka at *
    subst hka
    generalize hx : e.n.ks.getD m default = x at *
    generalize hy : e.n.ks.getD (m + 1) default = y at *
    have hzr : w.heap.size < wr.heap.size := Nat.lt_of_lt_of_le hz1 hg.size
    have hbr : b < wr.heap.size := by omega
    have HM : Hid (mergeAt (e.n.ks.map NT.er) (m + 1) = (x.lf && y.lf && decide (x.ps = y.ps))) := by
      show _ = _
      have q : ∀ i, i < e.n.ks.length → (e.n.ks.map NT.er).getD i default = (e.n.ks.getD i default).er := fun i hi => by simp [List.getD, List.getElem?_eq_getElem hi]
      unfold mergeAt
      rw [Nat.add_sub_cancel, q m (by omega), q (m + 1) hlt, hx, hy]
      simp
    have HO : Hid (x.Ok w ∧ y.Ok w ∧ x.ps.length ≤ 1048576 ∧ y.ps.length ≤ 1048576) := by
      show _ ∧ _
      have mx : x ∈ e.n.ks := hx ▸ getD_mem e.n.ks m (by omega)
      have my : y ∈ e.n.ks := hy ▸ getD_mem e.n.ks (m + 1) hlt
      have b1 := T.bulk_kid (n := e.n.er) (k := x.er) (by rw [NT.er_ks]; exact er_mem mx)
      have b2 := T.bulk_kid (n := e.n.er) (k := y.er) (by rw [NT.er_ks]; exact er_mem my)
      have := x.lens
      have := y.lens
      exact ⟨hk.2 x mx, hk.2 y my, by omega, by omega⟩
    have HP := Lib.hid (fun w2 (hg2 : Grew wr w2) => propSame_any x.pa y.pa x.pc y.pc x.ps y.ps w2 _ _ _ _ (NT.In_iff.1 (HO.out.1.grew ((hG.trans hg).trans hg2))).1 (NT.In_iff.1 (HO.out.2.1.grew ((hG.trans hg).trans hg2))).1 HO.out.2.2.1 HO.out.2.2.2 (Nat.le_refl _) (Nat.le_refl _))
    have HF : Hid (mergeAt (e.n.ks.map NT.er) (m + 1) = true → mergeOf (e.n.ks.map NT.er) = ((m + 1 : Nat) : Int)) := fun ht => by
      unfold mergeOf
      refine idxOf_found (k := m + 1) (by simpa using hlt) ?_ (fun j hj => ?_)
      · simp [List.getD, hlt, ht]
      · have := HA.out j hj
        have hjl : j < e.n.ks.length := by omega
        simpa [List.getD, hjl] using this
    have HX : Hid (mergeAt (e.n.ks.map NT.er) (m + 1) = false → ∀ j, j < m + 1 + 1 → (decide (1 ≤ j) && mergeAt (e.n.ks.map NT.er) j) = false) := fun hf j hj => by
      rcases Nat.lt_or_ge j (m + 1) with h | h
      · exact HA.out j h
      · obtain rfl : j = m + 1 := by omega
        rw [hf, Bool.and_false]
    have hzr : w.heap.size < wr.heap.size := Nat.lt_of_lt_of_le hz1 hg.size
    have hbr : b < wr.heap.size := by omega
    clear hx hy hn hb
    have G2 := hG.trans hg
    have gb : ∀ o1 o2, Grew wr ((wr.alloc o1).alloc o2).drew := fun o1 o2 => (((Grew.refl wr).alloc o1).alloc o2).drew
    cases hxl : x.lf with
    | false =>
      have HV := Lib.hid (HX.out (by rw [HM.out, hxl]; rfl))
      clear HM HF HX HP
      rw [hxl] at c0
      go_wp2_with fail
      go_region
      all_goals
        go_wp2_with fail
        go_roundw
        case rel => exact ⟨m + 1, by omega, by go_num, hg.trans (gb _ _), HV.out⟩
        case measure => simp [intOf]; omega
    | true =>
      rw [hxl] at c0
      cases hyl : y.lf with
      | false =>
        have HV := Lib.hid (HX.out (by rw [HM.out, hxl, hyl]; rfl))
        clear HM HF HX HP
        rw [hyl] at d0
        go_wp2_with fail
        go_region
        all_goals
          go_wp2_with fail
          go_roundw
          case rel => exact ⟨m + 1, by omega, by go_num, hg.trans (gb _ _), HV.out⟩
          case measure => simp [intOf]; omega
      | true =>
        rw [hyl] at d0
        cases hps : decide (x.ps = y.ps) with
        | false =>
          have HV := Lib.hid (HX.out (by rw [HM.out, hxl, hyl, hps]; rfl))
          rw [hps] at HP
          clear HM HF HX hps
          go_wp2_with fail
          go_region
          all_goals
            go_wp2_with fail
            refine (HP.out _ (gb _ _)).mono ?_
            rintro e' w2 ⟨rfl, g2⟩
            go_wp2_with fail
            go_roundw
            case rel => exact ⟨m + 1, by omega, by go_num, hg.trans ((gb _ _).trans g2), HV.out⟩
            case measure => simp [intOf]; omega
        | true =>
          have HV := Lib.hid (HF.out (by rw [HM.out, hxl, hyl, hps]; rfl))
          rw [hps] at HP
          clear HM HF HX hps
          go_wp2_with fail
          go_region
          all_goals
            go_wp2_with fail
            refine (HP.out _ (gb _ _)).mono ?_
            rintro e' w2 ⟨rfl, g2⟩
            go_wp2_with fail
            go_ret2
            exact ⟨ret_val (by rw [HV.out]; rfl), G2.trans ((gb _ _).trans g2)⟩
  · have HV : Hid (mergeOf (e.n.ks.map NT.er) = -1) := by
      show _ = _
      unfold mergeOf
      refine idxOf_none (fun j hj => ?_)
      simp only [List.length_range, List.length_map] at hj
      have := HA.out j (by omega)
      simpa [List.getD, hj] using this
    have hlt' : ¬ (m : Int) + 1 < e.n.ks.length := by omega
    go_wp2_with fail
    go_ret2
    exact ⟨ret_val (by rw [HV.out]; rfl), hG.trans hg⟩
end Go.Proofs.Ytnkmcbhpmbjkpaa
