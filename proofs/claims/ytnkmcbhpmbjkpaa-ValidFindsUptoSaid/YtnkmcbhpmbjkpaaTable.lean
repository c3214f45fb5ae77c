/- slices.IndexFunc on rules and pairs, slices.Clone on pairs; table.RuleOf, table.ActOf: the contracts. -/
import Derived.Test.YtnkmcbhpmbjkpaaSch
import Derived.Test.YtnkmcbhpmbjkpaaProps
import Derived.Test.YtnkmcbhpmbjkpaaClone
namespace Go.Proofs.Ytnkmcbhpmbjkpaa
open Go Go.RowKit

set_option maxHeartbeats 400000 in
theorem indexRules_any (ps : List RN) (pa : Option Addr) (pc : Nat) (pf : FuncId) (caps : Array Value) (pr : RN → Bool) (w : World)
    (eg : ∀ args w, (callFunc pf args).run Try.prog w = .ok (.enter pf args) w)
    (hcall : ∀ p ∈ ps, ∀ w1, Grew w w1 → Calls Try.prog pf (#[.agg #[.string p.ty, .int .i64 p.td, .string p.tt, .int .i64 p.od, .string p.ot, .slice p.ka p.kids.length p.kc, .int .i64 p.fill, .string p.ft]] ++ caps) w1 fun e w' => e = .returned (.bool (pr p)) ∧ Grew w1 w')
    (lo hi : Nat) (hp : RulesIn w lo hi pa pc ps) (hh : hi ≤ w.heap.size) (hlen : ps.length ≤ 1048576) :
    Calls Try.prog 29 #[.slice pa ps.length pc, .func (.func pf) #[] caps] w fun e w' =>
      e = .returned (.int .i64 (idxOf pr ps)) ∧ Grew w w' := by
  have HC := Lib.hid hcall
  clear hcall
  go_enter Try.func29, Try.ntmps29
  go_wp2_with fail
  go_loopw [8] (fun i wr => ∃ (k : Nat), k ≤ ps.length ∧ i = .int .i64 k ∧ Grew w wr ∧ ∀ j, j < k → pr (ps.getD j default) = false) (fun i _ => ps.length - (intOf i).toNat)
  case atStart => exact ⟨0, by omega, rfl, Grew.refl _, fun j hj => by omega⟩
  case round =>
    obtain ⟨k, hk1, rfl, hg, hall⟩ := hrel
    have HA := Lib.hid hall
    clear hall
    by_cases hlt : k < ps.length
    · obtain ⟨b, o, rfl, _, hbh, hc0, hc1, hc2, hc3, hc4, hc5, hc6, hc7⟩ := (hp.grew hg hh).at hlt
      have HC1 := Lib.hid (HC.out _ (getD_mem ps k hlt) wr hg)
      cases hpr : pr (ps.getD k default) with
      | false =>
        have HX : Hid (∀ j, j < k + 1 → pr (ps.getD j default) = false) := fun j hj => by
          rcases Nat.lt_or_ge j k with h | h
          · exact HA.out j h
          · obtain rfl : j = k := by omega
            exact hpr
        rw [hpr] at HC1
        clear hpr
        generalize ps.getD k default = x at *
        go_wp2_with fail
        refine HC1.out.mono ?_
        rintro e w' ⟨rfl, hg2⟩
        go_wp2_with fail
        go_roundw
        case rel => exact ⟨k + 1, by omega, by go_num, hg.trans hg2, HX.out⟩
        case measure => simp [intOf]; omega
      | true =>
        have HX := Lib.hid (idxOf_found hlt hpr HA.out)
        rw [hpr] at HC1
        clear hpr
        generalize ps.getD k default = x at *
        go_wp2_with fail
        refine HC1.out.mono ?_
        rintro e w' ⟨rfl, hg2⟩
        go_wp2_with fail
        go_ret
        exact ⟨ret_int (by rw [HX.out]), hg.trans hg2⟩
    · have HX := Lib.hid (idxOf_none (pr := pr) (l := ps) (fun j hj => HA.out j (by omega)))
      go_wp2_with fail
      go_ret
      exact ⟨ret_int (by rw [HX.out]), hg⟩

set_option maxHeartbeats 400000 in
theorem indexPairs_any (ps : List PairL) (pa : Option Addr) (pc : Nat) (pf : FuncId) (caps : Array Value) (pr : PairL → Bool) (w : World)
    (eg : ∀ args w, (callFunc pf args).run Try.prog w = .ok (.enter pf args) w)
    (hcall : ∀ p ∈ ps, ∀ w1, Grew w w1 → Calls Try.prog pf (#[.agg #[.string p.1, .int .i64 p.2.1, .string p.2.2]] ++ caps) w1 fun e w' => e = .returned (.bool (pr p)) ∧ Grew w1 w')
    (lo hi : Nat) (hp : PairsIn w lo hi pa pc ps) (hh : hi ≤ w.heap.size) (hlen : ps.length ≤ 1048576) :
    Calls Try.prog 68 #[.slice pa ps.length pc, .func (.func pf) #[] caps] w fun e w' =>
      e = .returned (.int .i64 (idxOf pr ps)) ∧ Grew w w' := by
  have HC := Lib.hid hcall
  clear hcall
  go_enter Try.func68, Try.ntmps68
  go_wp2_with fail
  go_loopw [8] (fun i wr => ∃ (k : Nat), k ≤ ps.length ∧ i = .int .i64 k ∧ Grew w wr ∧ ∀ j, j < k → pr (ps.getD j default) = false) (fun i _ => ps.length - (intOf i).toNat)
  case atStart => exact ⟨0, by omega, rfl, Grew.refl _, fun j hj => by omega⟩
  case round =>
    obtain ⟨k, hk1, rfl, hg, hall⟩ := hrel
    have HA := Lib.hid hall
    clear hall
    by_cases hlt : k < ps.length
    · obtain ⟨b, o, rfl, _, hbh, hc0, hc1, hc2⟩ := (hp.grew hg hh).at hlt
      have HC1 := Lib.hid (HC.out _ (getD_mem ps k hlt) wr hg)
      cases hpr : pr (ps.getD k default) with
      | false =>
        have HX : Hid (∀ j, j < k + 1 → pr (ps.getD j default) = false) := fun j hj => by
          rcases Nat.lt_or_ge j k with h | h
          · exact HA.out j h
          · obtain rfl : j = k := by omega
            exact hpr
        rw [hpr] at HC1
        clear hpr
        generalize ps.getD k default = x at *
        go_wp2_with fail
        refine HC1.out.mono ?_
        rintro e w' ⟨rfl, hg2⟩
        go_wp2_with fail
        go_roundw
        case rel => exact ⟨k + 1, by omega, by go_num, hg.trans hg2, HX.out⟩
        case measure => simp [intOf]; omega
      | true =>
        have HX := Lib.hid (idxOf_found hlt hpr HA.out)
        rw [hpr] at HC1
        clear hpr
        generalize ps.getD k default = x at *
        go_wp2_with fail
        refine HC1.out.mono ?_
        rintro e w' ⟨rfl, hg2⟩
        go_wp2_with fail
        go_ret
        exact ⟨ret_int (by rw [HX.out]), hg.trans hg2⟩
    · have HX := Lib.hid (idxOf_none (pr := pr) (l := ps) (fun j hj => HA.out j (by omega)))
      go_wp2_with fail
      go_ret
      exact ⟨ret_int (by rw [HX.out]), hg⟩

theorem infoPairC : (Try.prog.info? 73).map (fun i => (i.zero, i.size, i.bytes)) = some (some (.agg #[.string .empty, .int .i64 0, .string .empty]), 3, 40) := by kernel_rfl
def cellsOfPairs (ps : List PairL) : List Value := ps.flatMap fun p => [.string p.1, .int .i64 p.2.1, .string p.2.2]
theorem cellsOfPairs_len (ps : List PairL) : (cellsOfPairs ps).length = ps.length * 3 := by
  induction ps with
  | nil => rfl
  | cons p r ih => simp [cellsOfPairs] at ih ⊢; omega
theorem cellsOfPairs_at (ps : List PairL) : ∀ i, i < ps.length → ∀ j, j < 3 → (cellsOfPairs ps)[i * 3 + j]? = some (pairCell (ps.getD i default) j) := by
  induction ps with
  | nil => intro i hi; cases hi
  | cons p r ih =>
    intro i hi j hj
    cases i with
    | zero =>
      match j, hj with
      | 0, _ => rfl
      | 1, _ => rfl
      | 2, _ => rfl
    | succ i =>
      have := ih i (by simpa using hi) j hj
      have e : (i + 1) * 3 + j = (i * 3 + j) + 1 + 1 + 1 := by omega
      rw [e]
      simpa [cellsOfPairs] using this
theorem cellsOfPairs_one (ps : List PairL) : ∀ u ∈ cellsOfPairs ps, u.oneCell' = true := by
  intro u hu
  simp only [cellsOfPairs, List.mem_flatMap, List.mem_cons, List.mem_nil_iff, or_false] at hu
  obtain ⟨p, _, rfl | rfl | rfl⟩ := hu <;> rfl

set_option maxHeartbeats 400000 in
theorem clonePairs_any (a : Option Addr) (c : Nat) (l : List PairL) (w : World) (lo hi : Nat) (hr : PairsIn w lo hi a c l) (hh : hi ≤ w.heap.size) (hl : l.length ≤ 1048576) :
    Calls Try.prog 31 #[.slice a l.length c] w fun e w' => ∃ v, e = .returned v ∧ Grew w w' ∧ w'.ownsRow w.heap.size 73 3 v l.length (cellsOfPairs l) := by
  have qT : ∀ (w : World) (a : Option Addr) (n c n' c' : Nat), (binOp .eql 25 (.slice a n c) (.slice none n' c')).run Try.prog w = .ok (.bool a.isNone) w := fun w a n c n' c' => Lib.run_eql_slice_nil w _ _ a n c n' c' Try.underlying25
  cases a with
  | none =>
    obtain ⟨hz, rfl⟩ := hr.1.1 rfl
    obtain rfl : l = [] := List.length_eq_zero_iff.1 hz
    clear hr
    go_enter Try.func31, Try.ntmps31
    go_wp2_with fail
    go_ret
    exact ⟨_, rfl, Grew.refl _, World.ownsRow_nil _ _ _ _⟩
  | some ad =>
    have hr' := hr.grew (Grew.alloc1 w (.cells #[] 73)) hh
    go_enter Try.func31, Try.ntmps31
    go_wp2_with (at_builtin; refine wpList_append_row rfl (.tmp 5) (.tmp 6) 25 rfl w.heap.size 73 Try.underlying25 infoPairC rfl (by decide) (.slice (some ⟨w.heap.size, 0, none⟩) 0 0) 0 [] rfl (ownsRow_empty w 73 3) (some ad) l.length c lo hi _ rfl hr' (cellsOfPairs l) (cellsOfPairs_len l) (cellsOfPairs_at l) (cellsOfPairs_one l) (by unfold maxLen; omega) (by omega) (by simp) ?_; intro v' w1 hown' hgrow hblk; obtain ⟨va', vc', rfl⟩ := owned_shape hown')
    go_ret
    rw [Nat.zero_add, List.nil_append] at hown'
    exact ⟨_, rfl, (Grew.alloc1 _ _).grown hgrow (fun k hk => by simp only [Value.ownBlock, Option.some.injEq] at hk; omega), hown'⟩
end Go.Proofs.Ytnkmcbhpmbjkpaa
