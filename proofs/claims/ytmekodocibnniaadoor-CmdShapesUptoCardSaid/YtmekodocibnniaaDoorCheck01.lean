/- prop.Check: the contract. -/
import Derived.Test.YtmekodocibnniaaDoorKey
import Derived.Laws.Cover1
namespace Go.Proofs.YtmekodocibnniaaDoor
open Go Go.RowKit

theorem checkPs_long {ps : List PropL} (h : 16 < ps.length) : checkPs ps = 2 := by simp [checkPs, h]
theorem checkPs_short {ps : List PropL} (h : ¬ 16 < ps.length) : checkPs ps = chkPs .empty (ps.drop 0) := by simp [checkPs, h]
theorem chkPs_next (ls : ByteArray) (ps : List PropL) (k : Nat) (h : k < ps.length) : chkPs ls (ps.drop k) = if isKey (ps.getD k default).1 && isVal (ps.getD k default).2 then (if leS (ps.getD k default).1 ls then 1 else chkPs (ps.getD k default).1 (ps.drop (k + 1))) else 3 := by
  rw [drop_cons ps k h]; rfl
theorem props_str {ps : List PropL} (hb : propsBulk ps ≤ 1048576) {k : Nat} (h : k < ps.length) : (ps.getD k default).1.size ≤ 1048576 ∧ (ps.getD k default).2.size ≤ 1048576 := by
  have := propsBulk_mem (getD_mem ps k h)
  omega

theorem pbox {w w1 : World} {c0 c1 : Value} {t : TypeId} (g : Grew (w.alloc (.cells #[c0, c1] t)) w1) :
    w1.cell? ⟨w.heap.size, 0, none⟩ = some c0 ∧ w1.cell? ⟨w.heap.size, 1, none⟩ = some c1 ∧ w.heap.size < w1.heap.size := by
  have hz : w.heap.size < (w.alloc (.cells #[c0, c1] t)).heap.size := by simp
  refine ⟨?_, ?_, Nat.lt_of_lt_of_le hz g.size⟩
  all_goals
    rw [g.cell (by exact hz), World.cell?_alloc_new]
    rfl

set_option maxHeartbeats 1000000 in
theorem check01_any (ps : List PropL) (pa : Option Addr) (pc : Nat) (w : World) (lo hi : Nat) (hp : PropsIn w lo hi pa pc ps) (hh : hi ≤ w.heap.size) (hb : propsBulk ps ≤ 1048576) :
    Calls Tryd.prog 19 #[.slice pa ps.length pc] w fun e w' => e = .returned (.int .i64 (checkPs ps)) ∧ Grew w w' := by
  have hlen := propsBulk_len ps
  by_cases hlong : 16 < ps.length
  · have HC := Lib.hid (checkPs_long hlong)
    go_enter Tryd.func19, Tryd.ntmps19
    go_wp2_with fail
    go_ret
    exact ⟨ret_int HC.out.symm, Grew.refl _⟩
  · have HC := Lib.hid (checkPs_short hlong)
    have hl : ps.length ≤ 16 := by omega
    clear hlong hlen
    go_enter Tryd.func19, Tryd.ntmps19
    go_wp2_with fail
    go_loopw [3, 11] (fun last i wr => ∃ (k : Nat) (ls : ByteArray), k ≤ ps.length ∧ i = .int .i64 k ∧ last = .string ls ∧ Grew w wr ∧ Hid (checkPs ps = chkPs ls (ps.drop k))) (fun _ i _ => ps.length - (intOf i).toNat)
    case atStart => exact ⟨0, .empty, by omega, rfl, rfl, Grew.refl _, HC⟩
    case round =>
      obtain ⟨k, ls, hk, rfl, rfl, hg, hc⟩ := hrel
      by_cases hlt : k < ps.length
      · obtain ⟨b, o, rfl, _, hbh, c0, c1⟩ := (hp.grew hg hh).at hlt
        have hs := props_str hb hlt
        have HN := Lib.hid (hc.out.trans (chkPs_next ls ps k hlt))
        clear hc HC
        generalize ps.getD k default = p at *
        have KA := Lib.hid (fun w => key_any p.1 w hs.1)
        have VA := Lib.hid (fun w => val_any p.2 w hs.2)
        go_wp2_with fail
        refine (KA.out _).mono ?_
        rintro e w1 ⟨rfl, g1⟩
        obtain ⟨d0, d1, z1⟩ := pbox g1
        cases hk1 : isKey p.1 with
        | false =>
          have HE : Hid (checkPs ps = 3) := by show _ = _; rw [HN.out, hk1]; rfl
          go_wp2_with fail
          go_ret
          exact ⟨ret_int HE.out.symm, hg.trans ((Grew.alloc1 _ _).trans g1)⟩
        | true =>
          go_wp2_with fail
          refine (VA.out _).mono ?_
          rintro e w2 ⟨rfl, g2⟩
          obtain ⟨d2, d3, z2⟩ := pbox (g1.trans g2)
          clear d0 d1
          cases hk2 : isVal p.2 with
          | false =>
            have HE : Hid (checkPs ps = 3) := by show _ = _; rw [HN.out, hk1, hk2]; rfl
            go_wp2_with fail
            go_ret
            exact ⟨ret_int HE.out.symm, hg.trans ((Grew.alloc1 _ _).trans (g1.trans g2))⟩
          | true =>
            cases hk3 : leS p.1 ls with
            | true =>
              have HE : Hid (checkPs ps = 1) := by show _ = _; rw [HN.out, hk1, hk2, hk3]; rfl
              have hx := (show (Op.bytesLess p.1.toList ls.toList || p.1.toList == ls.toList) = leS p.1 ls from rfl).trans hk3
              go_wp2_with fail
              go_ret
              exact ⟨ret_int HE.out.symm, hg.trans ((Grew.alloc1 _ _).trans (g1.trans g2))⟩
            | false =>
              have HE : Hid (checkPs ps = chkPs p.1 (ps.drop (k + 1))) := by show _ = _; rw [HN.out, hk1, hk2, hk3]; rfl
              have hx := (show (Op.bytesLess p.1.toList ls.toList || p.1.toList == ls.toList) = leS p.1 ls from rfl).trans hk3
              go_wp2_with fail
              go_roundw
              case rel => exact ⟨k + 1, p.1, by omega, by go_num, rfl, hg.trans ((Grew.alloc1 _ _).trans (g1.trans g2)), HE⟩
              case measure => simp [intOf]; omega
      · have HE : Hid (checkPs ps = 0) := by
          show _ = _
          rw [hc.out, List.drop_eq_nil_of_le (by omega)]; rfl
        have hge : k = ps.length := by omega
        subst hge
        go_wp2_with fail
        go_ret
        exact ⟨ret_int HE.out.symm, hg⟩
end Go.Proofs.YtmekodocibnniaaDoor
