/- slices.Grow of nil, slices.Concat, of rows of ints: the contracts. -/
import Derived.Test.YtbhbekocmpmjfaaGreatDoorK09
import Derived.Lib.AppendZerosOnto
import Derived.Lib.SliceRun
import Derived.Laws.OwnMore
namespace Go.Proofs.YtbhbekocmpmjfaaGreatDoor
open Go Go.RowKit

theorem madeZ_size {z : Value} (hz : z.cells.size = 1) (n G : Nat) (h : n ≤ G) : (([] : List Value).toArray ++ Builtin.zeroCells z.cells n ++ Builtin.zeroCells z.cells (G - n)).size = G * 1 := by
  simp only [Array.size_append, size_zeroCells, hz]
  simp
  omega
theorem ownsRow_lower {w : World} {B B' : Nat} {e : TypeId} {size n : Nat} {v : Value} {xs : List Value} (h : w.ownsRow B e size v n xs) (hb : B' ≤ B) : w.ownsRow B' e size v n xs := by
  refine ⟨h.1, ?_⟩
  rcases h.2 with h | ⟨g, cap, cur, h1, h2, h3⟩
  · exact .inl h
  · exact .inr ⟨g, cap, cur, h1, Nat.le_trans hb h2, h3⟩
set_option maxRecDepth 100000 in
set_option maxHeartbeats 1000000 in
theorem growI_any (n : Nat) (w : World) (hn : n ≤ 4194304) : Calls Tryz.prog 156 #[.slice none 0 0, .int .i64 n] w fun e w' => ∃ v, e = .returned v ∧ Grew w w' ∧ w'.ownsRow w.heap.size 3 1 v 0 [] := by
  obtain ⟨i0, hi, hz0, hz1, hz2⟩ := info_parts infoInt
  have h1 : ¬ ((n : Int) < 0) := by omega
  by_cases h0 : n = 0
  · subst h0
    go_enter Tryz.func156, Tryz.ntmps156
    go_wp2_with fail
    go_ret
    exact ⟨_, rfl, Grew.refl _, World.ownsRow_nil _ _ _ _⟩
  · have hold : (Builtin.firstCells i0.size 0 (.slice none 0 0)).run Tryz.prog w.drew = .ok ([] : List Value).toArray w.drew := run_firstCells_none w.drew i0.size 0 0 0
    have hGn : n ≤ grownCap w n 0 3 := grownCap_ge w _ _ _
    have hGm := grownCap_le_maxLen w n 0 3 (by unfold maxLen; omega)
    have hrz : ∀ ty, (Builtin.append_ #[27, 3] ty #[.slice none 0 0, .int .i64 (n : Int)]).run Tryz.prog w = .ok (.slice (some ⟨w.heap.size, 0, none⟩) n (grownCap w n 0 3)) (w.drew.alloc (.cells (([] : List Value).toArray ++ Builtin.zeroCells ((Value.int .i64 0).cells) n ++ Builtin.zeroCells ((Value.int .i64 0).cells) (grownCap w n 0 3 - n)) 3)) := fun ty => by
      have h := Lib.run_append_grow_zeros w 27 3 ty 3 i0 _ .i64 .i64 Tryz.underlying27 Tryz.underlying3 hi hz0 none 0 0 [] hold n (by omega) (by rw [hz1]; omega) (by omega) (by omega) (by rw [hz2]; omega) (growslice_fits (by omega) (by rw [hz2]; omega))
      rw [Nat.zero_add] at h
      exact h
    have hown := World.ownsRow_made (base := w.heap.size) (e := 3) (size := 1) w.drew (([] : List Value).toArray ++ Builtin.zeroCells ((Value.int .i64 0).cells) n ++ Builtin.zeroCells ((Value.int .i64 0).cells) (grownCap w n 0 3 - n)) (grownCap w n 0 3) (Nat.le_refl _) hGm (madeZ_size rfl _ _ hGn)
    have hG : Grew w (w.drew.alloc (.cells (([] : List Value).toArray ++ Builtin.zeroCells ((Value.int .i64 0).cells) n ++ Builtin.zeroCells ((Value.int .i64 0).cells) (grownCap w n 0 3 - n)) 3)) := (Grew.refl w).drew.alloc _
    have h2 : ((n : Int) - 0) = n := by omega
    have h3 : (0 : Int) < n := by omega
    have h5 : decide ((0 : Int) < n) = true := by simpa using h3
    have h4 : wrap64 (n : Int) = n := by unfold wrap64; omega
    unfold maxLen at hGm
    have hGi : ((grownCap w n 0 3 : Nat) : Int) ≤ 9223372036854775807 := by omega
    generalize grownCap w n 0 3 = G at *
    generalize w.drew.alloc _ = w1 at *
    go_enter Tryz.func156, Tryz.ntmps156
    go_wp2_with (at_builtin; refine Lib.wpList_append_run _ rfl _ _ _ _ rfl _ _ rfl rfl _ _ (hrz _) ?_)
    go_ret
    exact ⟨_, rfl, hG, hown⟩
/-- a row of rows -/
def RowsI (w : World) (lo hi : Nat) (a : Option Addr) (c : Nat) (ls : List PN) : Prop := RowIn w lo hi a ls.length c 1 (fun i _ => .slice (ls.getD i default).a (ls.getD i default).l.length (ls.getD i default).c)
theorem RowsI.at {w : World} {lo hi : Nat} {a : Option Addr} {c : Nat} {ls : List PN} (h : RowsI w lo hi a c ls) {k : Nat} (hk : k < ls.length) : ∃ b o, a = some ⟨b, o, none⟩ ∧ lo ≤ b ∧ b < hi ∧ w.cell? ⟨b, o + k, none⟩ = some (.slice (ls.getD k default).a (ls.getD k default).l.length (ls.getD k default).c) := by
  obtain ⟨b, o, h1, h2, h3, hc⟩ := h.2 (by omega)
  exact ⟨b, o, h1, h2, h3, by simpa using hc k hk 0 (by omega)⟩
def sumI (ls : List PN) : Nat := (ls.map fun p => p.l.length).sum
theorem sumI_next (ls : List PN) {k : Nat} (hk : k < ls.length) : sumI (ls.take (k + 1)) = sumI (ls.take k) + (ls.getD k default).l.length := by
  unfold sumI
  rw [List.take_succ_eq_append_getElem hk, List.map_append, List.sum_append]
  simp [List.getD, List.getElem?_eq_getElem hk]
theorem sumI_le (ls : List PN) (k : Nat) : sumI (ls.take k) ≤ sumI ls := by
  unfold sumI
  conv => rhs; rw [← List.take_append_drop k ls, List.map_append, List.sum_append]
  omega
def flatI (ls : List PN) : List Int := ls.flatMap PN.l
theorem flatI_len (ls : List PN) : (flatI ls).length = sumI ls := by unfold flatI sumI; rw [List.length_flatMap]
theorem flatI_next (ls : List PN) {k : Nat} (hk : k < ls.length) : flatI (ls.take (k + 1)) = flatI (ls.take k) ++ (ls.getD k default).l := by
  unfold flatI
  rw [List.take_succ_eq_append_getElem hk, List.flatMap_append]
  simp [List.getD, List.getElem?_eq_getElem hk]
set_option maxRecDepth 100000 in
set_option maxHeartbeats 4000000 in
theorem concatI_any (a : Option Addr) (c : Nat) (ls : List PN) (w : World) (hr : RowsI w 0 w.heap.size a c ls) (hin : ∀ p ∈ ls, IntsIn w 0 w.heap.size p.a p.c p.l) (hl : ls.length ≤ 1048576) (hs : sumI ls ≤ 4194304) :
    Calls Tryz.prog 92 #[.slice a ls.length c] w fun e w' => ∃ v, e = .returned v ∧ Grew w w' ∧ w'.ownsRow w.heap.size 3 1 v (flatI ls).length ((flatI ls).map (Value.int .i64)) := by
  have HI := Lib.hid hin
  have HS := Lib.hid hs
  clear hin hs
  go_enter Tryz.func92, Tryz.ntmps92
  go_wp2_with fail
  go_loopw [3, 11] (fun s i wr => ∃ (k m : Nat), k ≤ ls.length ∧ s = .int .i64 m ∧ i = .int .i64 k ∧ Grew w wr ∧ Hid (m = sumI (ls.take k))) (fun _ i _ => ls.length - (intOf i).toNat)
  case atStart => exact ⟨0, 0, by omega, rfl, rfl, Grew.refl _, by show _ = _; simp [sumI]⟩
  case round =>
    obtain ⟨k, m, hk, rfl, rfl, hg, hm⟩ := hrel
    by_cases hlt : k < ls.length
    · obtain ⟨b, o, rfl, _, hb, c0⟩ := RowsI.at (RowIn.agree hr (hg.agree (Nat.le_refl _))) hlt
      have HM : Hid (m + (ls.getD k default).l.length = sumI (ls.take (k + 1))) := by show _ = _; rw [sumI_next ls hlt, hm.out]
      have hle : m + (ls.getD k default).l.length ≤ 4194304 := by rw [HM.out]; exact Nat.le_trans (sumI_le ls _) HS.out
      generalize ls.getD k default = x at *
      have hw : IntKind.i64.wrap ((m : Int) + x.l.length) = ((m + x.l.length : Nat) : Int) := by rw [IntKind.wrap_i64]; omega
      have hnn : ¬ (((m + x.l.length : Nat) : Int) < 0) := by omega
      go_wp2_with fail
      go_roundw
      case rel => exact ⟨k + 1, m + x.l.length, by omega, rfl, by go_num, hg, HM⟩
      case measure => simp [intOf]; omega
    · obtain rfl : k = ls.length := by omega
      have HM : Hid (m = sumI ls) := by show _ = _; rw [hm.out, List.take_length]
      have hmle : m ≤ 4194304 := by rw [HM.out]; exact HS.out
      have GR := Lib.hid (growI_any m wr hmle)
      clear hm
      go_wp2_with fail
      refine GR.out.mono ?_
      rintro e w2 ⟨v, rfl, g2, hown⟩
      have hown' : w2.ownsRow w.heap.size 3 1 v 0 [] := ownsRow_lower hown hg.size
      obtain ⟨va, vc, rfl⟩ := owned_shape hown'
      have G2 := Lib.hid (hg.trans g2)
      have HO := Lib.hid hown'
      clear hown hown' GR HM hmle
      go_wp2_with fail
      go_loopw [6, 27] (fun s i wr2 => ∃ (k : Nat) (va : Option Addr) (vc : Nat), k ≤ ls.length ∧ s = .slice va (flatI (ls.take k)).length vc ∧ i = .int .i64 k ∧ Grew w wr2 ∧ wr2.ownsRow w.heap.size 3 1 (.slice va (flatI (ls.take k)).length vc) (flatI (ls.take k)).length ((flatI (ls.take k)).map (Value.int .i64))) (fun _ i _ => ls.length - (intOf i).toNat)
      case atStart => exact ⟨0, va, vc, by omega, by simp [flatI], rfl, G2.out, by simpa [flatI] using HO.out⟩
      case round =>
        obtain ⟨k, xa, xc, hk, rfl, rfl, hg2, hown2⟩ := hrel
        by_cases hlt : k < ls.length
        · obtain ⟨b, o, rfl, _, hb, c0⟩ := RowsI.at (RowIn.agree hr (hg2.agree (Nat.le_refl _))) hlt
          have hxin := (HI.out _ (getD_mem ls k hlt)).grew hg2 (Nat.le_refl _)
          have HF := Lib.hid (flatI_next ls hlt)
          have hbound : (flatI (ls.take k)).length + (ls.getD k default).l.length ≤ 4194304 := by
            rw [flatI_len, ← sumI_next ls hlt]; exact Nat.le_trans (sumI_le ls _) HS.out
          generalize ls.getD k default = x at *
          have hsz := hg2.size
          generalize flatI (ls.take k) = cur at *
          go_wp2_with (at_builtin; refine wpList_append_row rfl (.tmp 31) (.tmp 32) 27 rfl w.heap.size 3 Tryz.underlying27 infoInt rfl (by decide) (.slice xa cur.length xc) cur.length (cur.map (Value.int .i64)) rfl hown2 x.a x.l.length x.c _ _ _ rfl hxin (x.l.map (Value.int .i64)) (by simp) (ints_at x.l) (ints_oneCell _ _) (by unfold maxLen; omega) (by omega) hsz ?_; intro v' w4 hown' hgrow _; obtain ⟨va', vc', rfl⟩ := owned_shape hown')
          have G4 := Lib.hid (hg2.grown hgrow (fun k hk => (hown2.lt k hk).1))
          have HO4 := Lib.hid hown'
          clear hown2 hown' hgrow
          go_roundw
          case rel =>
            refine ⟨k + 1, va', vc', by omega, ?_, by go_num, G4.out, ?_⟩
            · rw [HF.out, List.length_append]
            · rw [HF.out, List.length_append, List.map_append]; exact HO4.out
          case measure => simp [intOf]; omega
        · obtain rfl : k = ls.length := by omega
          rw [List.take_length] at hown2
          rw [List.take_length]
          go_wp2_with fail
          go_ret
          exact ⟨_, rfl, hg2, hown2⟩
end Go.Proofs.YtbhbekocmpmjfaaGreatDoor
