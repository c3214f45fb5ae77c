/- redlinelaw23.short, live: the contracts. -/
import Derived.Test.YtmekodocibnniaaDoorRaise
import Derived.Test.YtmekodocibnniaaDoorLaid
import Derived.Test.YtmekodocibnniaaDoorLeft
namespace Go.Proofs.YtmekodocibnniaaDoor
open Go Go.RowKit

/-- a row of paths -/
def PathRow (w : World) (a : Option Addr) (c : Nat) (ls : List PN) : Prop := RowIn w 0 w.heap.size a ls.length c 1 (fun i _ => (ls.getD i ⟨none, 0, []⟩).val)
theorem PathRow.grew {w w' : World} {a : Option Addr} {c : Nat} {ls : List PN} (h : PathRow w a c ls) (hg : Grew w w') : PathRow w' a c ls := (RowIn.agree h (hg.agree (Nat.le_refl _))).mono (Nat.le_refl _) hg.size
theorem PathRow.at {w : World} {a : Option Addr} {c : Nat} {ls : List PN} (h : PathRow w a c ls) {i : Nat} (hi : i < ls.length) : ∃ b o, a = some ⟨b, o, none⟩ ∧ b < w.heap.size ∧ w.cell? ⟨b, o + i, none⟩ = some (.slice (ls.getD i ⟨none, 0, []⟩).a (ls.getD i ⟨none, 0, []⟩).l.length (ls.getD i ⟨none, 0, []⟩).c) := by
  obtain ⟨b, o, h1, _, h3, hc⟩ := h.2 (by omega)
  exact ⟨b, o, h1, h3, by simpa [PN.val] using hc i hi 0 (by omega)⟩
def shortT (n : T) (ls : List (List Int)) : Bool := ls.all (fun p => decide (p.length ≤ 40)) && few n 100

set_option maxHeartbeats 1000000 in
theorem short23_any (n : NT) (a : Option Addr) (c : Nat) (ls : List PN) (w : World) (hn : n.Ok w) (hb : n.er.bulk ≤ 1048576) (hr : PathRow w a c ls) (hl : ls.length ≤ 1048576) (hll : ∀ p ∈ ls, p.l.length ≤ 1048576) :
    Calls Tryd.prog 5 #[n.val, .slice a ls.length c] w fun e w' => e = .returned (.bool (shortT n.er (ls.map PN.l))) ∧ Grew w w' := by
  have FW := Lib.hid (fun w1 (hg : Grew w w1) => few_any n w1 100 (NT.Ok.grew hn hg) hb (by omega) (by omega))
  unfold NT.val at FW ⊢
  have g1 := Grew.alloc1 w (.cells #[.bool n.lf, .slice n.pa n.ps.length n.pc, .slice n.ta n.ts.length n.tc, .slice n.ka n.ks.length n.kc] 26)
  have HB := Lib.hid (fun w1 (g : Grew (w.alloc (.cells #[.bool n.lf, .slice n.pa n.ps.length n.pc, .slice n.ta n.ts.length n.tc, .slice n.ka n.ks.length n.kc] 26)) w1) => box4 g)
  have HLL := Lib.hid hll
  clear hll
  go_enter Tryd.func5, Tryd.ntmps5
  go_wp2_with fail
  generalize w.alloc (.cells #[.bool n.lf, .slice n.pa n.ps.length n.pc, .slice n.ta n.ts.length n.tc, .slice n.ka n.ks.length n.kc] 26) = w1 at *
  go_loop [9] (fun i => ∃ (k : Nat), k ≤ ls.length ∧ i = .int .i64 k ∧ (ls.take k).all (fun p => decide (p.l.length ≤ 40)) = true) (fun i => ls.length - (intOf i).toNat)
  case atStart => exact ⟨0, by omega, rfl, by simp⟩
  case round =>
    obtain ⟨k, hk, rfl, he⟩ := hrel
    have HE := Lib.hid he
    clear he
    by_cases hlt : k < ls.length
    · obtain ⟨b, o, rfl, _, hc⟩ := (hr.grew g1).at hlt
      have hm : ls.getD k ⟨none, 0, []⟩ ∈ ls := by simp [List.getD, List.getElem?_eq_getElem hlt]
      have htk : ls.take (k + 1) = ls.take k ++ [ls.getD k ⟨none, 0, []⟩] := by
        rw [List.take_succ_eq_append_getElem hlt]; simp [List.getD, List.getElem?_eq_getElem hlt]
      have hq := HLL.out _ hm
      have HM := Lib.hid hm
      have HT := Lib.hid htk
      clear hm htk
      generalize ls.getD k ⟨none, 0, []⟩ = q at *
      by_cases h40 : q.l.length ≤ 40
      · have t1 : decide (40 < (q.l.length : Int)) = false := by simp; omega
        have HX : Hid ((ls.take (k + 1)).all (fun p => decide (p.l.length ≤ 40)) = true) := by
          show _ = _
          rw [HT.out, List.all_append, HE.out]; simp [h40]
        go_wp2_with fail
        go_round
        case rel => exact ⟨k + 1, by omega, by go_num, HX.out⟩
        case measure => simp [intOf]; omega
      · have t1 : decide (40 < (q.l.length : Int)) = true := by simp; omega
        have HX : Hid (shortT n.er (ls.map PN.l) = false) := by
          show _ = _
          unfold shortT
          rw [Bool.and_eq_false_iff]
          refine Or.inl (List.all_eq_false.2 ⟨q.l, List.mem_map_of_mem HM.out, by simpa using h40⟩)
        clear h40
        go_wp2_with fail
        go_ret
        exact ⟨ret_bool (by rw [HX.out]), g1⟩
    · have HX : Hid (shortT n.er (ls.map PN.l) = few n.er 100) := by
        show _ = _
        unfold shortT
        have := HE.out
        rw [List.take_of_length_le (by omega)] at this
        rw [List.all_map]
        have e : (ls.all ((fun p => decide (p.length ≤ 40)) ∘ PN.l)) = true := this
        rw [e, Bool.true_and]
      obtain ⟨b0, b1, b2, b3, _⟩ := HB.out w1 (Grew.refl _)
      go_wp2_with fail
      refine (FW.out w1 g1).mono ?_
      rintro e w2 ⟨rfl, g2⟩
      go_wp2_with fail
      go_ret
      exact ⟨ret_bool (by rw [HX.out]), g1.trans g2⟩
end Go.Proofs.YtmekodocibnniaaDoor
