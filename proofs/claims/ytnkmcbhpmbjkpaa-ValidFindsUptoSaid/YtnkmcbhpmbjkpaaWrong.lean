/- slices.IndexFunc and slices.DeleteFunc on paths: the contracts, for whatever function value is handed in. -/
import Derived.Test.YtnkmcbhpmbjkpaaInts
import Derived.Test.YtnkmcbhpmbjkpaaProps
import Derived.Test.YtnkmcbhpmbjkpaaOwn
import Derived.Deep.DeepCutAuto
import Derived.Laws.OwnMore
import Derived.Laws.EntriesVeiled
import Derived.Lib.SliceRun
namespace Go.Proofs.Ytnkmcbhpmbjkpaa
open Go Go.RowKit

/-- a row of paths -/
def PathRow (w : World) (lo hi : Nat) (a : Option Addr) (c : Nat) (ls : List PN) : Prop := RowIn w lo hi a ls.length c 1 (fun i _ => (ls.getD i default).val)
theorem PathRow.agree {w w' : World} {lo hi : Nat} {a : Option Addr} {c : Nat} {ls : List PN} (h : PathRow w lo hi a c ls) (hag : Agree lo hi w w') : PathRow w' lo hi a c ls := RowIn.agree h hag
theorem PathRow.grew {w w' : World} {lo hi : Nat} {a : Option Addr} {c : Nat} {ls : List PN} (h : PathRow w lo hi a c ls) (hg : Grew w w') (hB : hi ≤ w.heap.size) : PathRow w' lo hi a c ls := h.agree (hg.agree hB)
theorem PathRow.at {w : World} {lo hi : Nat} {a : Option Addr} {c : Nat} {ls : List PN} (h : PathRow w lo hi a c ls) {j : Nat} (hj : j < ls.length) :
    ∃ b o, a = some ⟨b, o, none⟩ ∧ lo ≤ b ∧ b < hi ∧ w.cell? ⟨b, o + j, none⟩ = some (.slice (ls.getD j default).a (ls.getD j default).l.length (ls.getD j default).c) := by
  obtain ⟨b, o, ha, h1, h2, hc⟩ := h.2 (by omega)
  exact ⟨b, o, ha, h1, h2, by simpa [PN.val] using hc j hj 0 (by omega)⟩

set_option maxHeartbeats 400000 in
theorem indexPaths_any (ls : List PN) (a : Option Addr) (c : Nat) (pf : FuncId) (caps : Array Value) (pr : PN → Bool) (w : World)
    (eg : ∀ args w, (callFunc pf args).run Try.prog w = .ok (.enter pf args) w)
    (hcall : ∀ p ∈ ls, ∀ w1, Grew w w1 → Calls Try.prog pf (#[p.val] ++ caps) w1 fun e w' => e = .returned (.bool (pr p)) ∧ Grew w1 w')
    (lo hi : Nat) (hp : PathRow w lo hi a c ls) (hh : hi ≤ w.heap.size) (hlen : ls.length ≤ 1048576) :
    Calls Try.prog 58 #[.slice a ls.length c, .func (.func pf) #[] caps] w fun e w' =>
      e = .returned (.int .i64 (idxOf pr ls)) ∧ Grew w w' := by
  have HC := Lib.hid hcall
  clear hcall
  unfold PN.val at HC
  go_enter Try.func58, Try.ntmps58
  go_wp2_with fail
  go_loopw [8] (fun i wr => ∃ (k : Nat), k ≤ ls.length ∧ i = .int .i64 k ∧ Grew w wr ∧ Hid (∀ j, j < k → pr (ls.getD j default) = false)) (fun i _ => ls.length - (intOf i).toNat)
  case atStart => exact ⟨0, by omega, rfl, Grew.refl _, (show ∀ j, j < 0 → _ from fun j hj => by omega)⟩
  case round =>
    obtain ⟨k, hk1, rfl, hg, hA⟩ := hrel
    by_cases hlt : k < ls.length
    · obtain ⟨b, o, rfl, _, hb, hc0⟩ := (hp.grew hg hh).at hlt
      have HC1 := Lib.hid (HC.out _ (getD_mem ls k hlt) wr hg)
      have HN : Hid (pr (ls.getD k default) = false → ∀ j, j < k + 1 → pr (ls.getD j default) = false) := fun h j hj => by
        rcases Nat.lt_or_ge j k with h1 | h1
        · exact hA.out j h1
        · obtain rfl : j = k := by omega
          exact h
      have HF : Hid (pr (ls.getD k default) = true → idxOf pr ls = k) := fun h => idxOf_found hlt h hA.out
      generalize ls.getD k default = x at *
      cases hv : pr x with
      | false =>
        rw [hv] at HC1
        have HN2 := Lib.hid (HN.out hv)
        clear HN HF hv
        go_wp2_with fail
        refine HC1.out.mono ?_
        rintro e w' ⟨rfl, g2⟩
        go_wp2_with fail
        go_roundw
        case rel => exact ⟨k + 1, by omega, by go_num, hg.trans g2, HN2⟩
        case measure => simp [intOf]; omega
      | true =>
        rw [hv] at HC1
        have HN2 := Lib.hid (HF.out hv)
        clear HN HF hv
        go_wp2_with fail
        refine HC1.out.mono ?_
        rintro e w' ⟨rfl, g2⟩
        go_wp2_with fail
        go_ret
        exact ⟨ret_int (by rw [HN2.out]), hg.trans g2⟩
    · obtain rfl : k = ls.length := by omega
      have HN2 := Lib.hid (idxOf_none hA.out)
      clear hA
      go_wp2_with fail
      go_ret
      exact ⟨ret_int (by rw [HN2.out]), hg⟩

theorem setCells_keeps (b : Nat) : ∀ (vs : List Value) (o : Nat) (w : World), Keeps (· = b) w (w.setCells b o vs)
  | [], _, w => Keeps.refl _ w
  | v :: r, o, w => ((Keeps.refl (· = b) w).own o v).trans (setCells_keeps b r (o + 1) _)
theorem getD_snoc (l : List PN) (x : PN) : (l ++ [x]).getD l.length default = x := by simp [List.getD]
theorem first_true (f : Nat → Bool) : ∀ n, (∀ j, j < n → f j = false) ∨ ∃ k, k < n ∧ f k = true ∧ ∀ j, j < k → f j = false
  | 0 => Or.inl fun j hj => by omega
  | n + 1 => by
    rcases first_true f n with h | ⟨k, hk, h1, h2⟩
    · cases hv : f n with
      | true => exact Or.inr ⟨n, by omega, hv, h⟩
      | false =>
        refine Or.inl fun j hj => ?_
        rcases Nat.lt_or_ge j n with h1 | h1
        · exact h j h1
        · obtain rfl : j = n := by omega
          exact hv
    · exact Or.inr ⟨k, by omega, h1, h2⟩
/-- what is kept of the first j, when what a predicate tells is struck -/
def keptTo (pr : PN → Bool) (ls : List PN) (j : Nat) : List PN := (ls.take j).filter fun p => !pr p
theorem keptTo_skip {pr : PN → Bool} {ls : List PN} {j : Nat} (hj : j < ls.length) (h : pr (ls.getD j default) = true) : keptTo pr ls (j + 1) = keptTo pr ls j := by
  unfold keptTo
  rw [take_next ls j hj, List.filter_append, List.filter_cons, h]
  simp
theorem keptTo_more {pr : PN → Bool} {ls : List PN} {j : Nat} (hj : j < ls.length) (h : pr (ls.getD j default) = false) : keptTo pr ls (j + 1) = keptTo pr ls j ++ [ls.getD j default] := by
  unfold keptTo
  rw [take_next ls j hj, List.filter_append]
  congr 1
  rw [List.filter_cons, h]; rfl
theorem keptTo_all {pr : PN → Bool} {ls : List PN} : ∀ {j : Nat}, j ≤ ls.length → (∀ i, i < j → pr (ls.getD i default) = false) → keptTo pr ls j = ls.take j := by
  intro j
  induction j with
  | zero => intro _ _; simp [keptTo]
  | succ j ih => intro h1 h2; rw [keptTo_more (by omega) (h2 j (by omega)), ih (by omega) (fun i hi => h2 i (by omega)), take_next ls j (by omega)]
theorem keptTo_end (pr : PN → Bool) (ls : List PN) : keptTo pr ls ls.length = ls.filter fun p => !pr p := by unfold keptTo; rw [List.take_length]

/-- the row's block while slices.DeleteFunc goes through it: i are kept of the first j -/
structure DelAt (w : World) (g : Nat) (ls : List PN) (pr : PN → Bool) (i j : Nat) (wr : World) : Prop where
  keeps : Keeps (· = g) w wr
  lt : i < j
  le : j ≤ ls.length
  len : (keptTo pr ls j).length = i
  low : ∀ t, t < i → wr.cell? ⟨g, t, none⟩ = some ((keptTo pr ls j).getD t default).val
  high : ∀ t, j ≤ t → t < ls.length → wr.cell? ⟨g, t, none⟩ = some (ls.getD t default).val
  there : ∀ t, t < ls.length → (wr.cell? ⟨g, t, none⟩).isSome = true
  soft : ∀ t, wr.frozen? ⟨g, t, none⟩ = false
theorem DelAt.grew {w : World} {g : Nat} {ls : List PN} {pr : PN → Bool} {i j : Nat} {wr wr' : World} (h : DelAt w g ls pr i j wr) (hg : Grew wr wr') (hz : g < w.heap.size) : DelAt w g ls pr i j wr' := by
  have hz1 : g < wr.heap.size := Nat.lt_of_lt_of_le hz h.keeps.size
  have q : ∀ t, wr'.cell? ⟨g, t, none⟩ = wr.cell? ⟨g, t, none⟩ := fun t => hg.cell (p := ⟨g, t, none⟩) hz1
  exact ⟨h.keeps.trans (hg.keeps _), h.lt, h.le, h.len, fun t ht => (q t).trans (h.low t ht), fun t h1 h2 => (q t).trans (h.high t h1 h2), fun t ht => by rw [q]; exact h.there t ht, fun t => (hg.frozen (p := ⟨g, t, none⟩) hz1).trans (h.soft t)⟩
theorem DelAt.skip {w : World} {g : Nat} {ls : List PN} {pr : PN → Bool} {i j : Nat} {wr : World} (h : DelAt w g ls pr i j wr) (hj : j < ls.length) (hp : pr (ls.getD j default) = true) : DelAt w g ls pr i (j + 1) wr :=
  ⟨h.keeps, Nat.lt_succ_of_lt h.lt, hj, by rw [keptTo_skip hj hp]; exact h.len, fun t ht => by rw [keptTo_skip hj hp]; exact h.low t ht, fun t h1 h2 => h.high t (by omega) h2, h.there, h.soft⟩
theorem DelAt.put {w : World} {g : Nat} {ls : List PN} {pr : PN → Bool} {i j : Nat} {wr : World} (h : DelAt w g ls pr i j wr) (hj : j < ls.length) (hp : pr (ls.getD j default) = false) : DelAt w g ls pr (i + 1) (j + 1) (wr.setCell ⟨g, i, none⟩ (ls.getD j default).val) := by
  have hl := h.lt
  obtain ⟨u, hu⟩ := Option.isSome_iff_exists.1 (h.there i (by omega))
  refine ⟨h.keeps.own _ _, by omega, hj, by rw [keptTo_more hj hp, List.length_append, h.len]; rfl, fun t ht => ?_, fun t h1 h2 => ?_, fun t ht => ?_, fun t => by rw [World.frozen?_setCell]; exact h.soft t⟩
  · rw [keptTo_more hj hp]
    rcases Nat.lt_or_ge t i with h1 | h1
    · rw [cell_ne (by omega), h.low t h1]
      have hlen := h.len
      simp [List.getD, List.getElem?_append_left (show t < (keptTo pr ls j).length by omega)]
    · obtain rfl : t = i := by omega
      rw [cell_same hu]
      have hs := getD_snoc (keptTo pr ls j) (ls.getD j default)
      rw [h.len] at hs
      rw [hs]
  · rw [cell_ne (by omega)]; exact h.high t (by omega) h2
  · rcases Nat.lt_or_ge t i with h1 | h1
    · rw [cell_ne (by omega)]; exact h.there t ht
    · by_cases h2 : i = t
      · subst h2; rw [cell_same hu]; rfl
      · rw [cell_ne h2]; exact h.there t ht
theorem DelAt.done {w : World} {g cap : Nat} {ls : List PN} {pr : PN → Bool} {i : Nat} {wr : World} (h : DelAt w g ls pr i ls.length wr) (hcap : ls.length ≤ cap) (hm : cap ≤ maxLen) (vs : List Value) :
    Keeps (· = g) w (wr.setCells g i vs) ∧ (ls.filter fun p => !pr p).length = i ∧ PathRow (wr.setCells g i vs) g (g + 1) (some ⟨g, 0, none⟩) cap (ls.filter fun p => !pr p) := by
  have hlen := h.len
  have hlow := h.low
  rw [keptTo_end] at hlen hlow
  have hl := h.lt
  refine ⟨h.keeps.trans (setCells_keeps g vs i wr), hlen, ⟨by simp, by omega, hm⟩, fun _ => ⟨g, 0, rfl, Nat.le_refl _, by omega, fun t ht j hj => ?_⟩⟩
  obtain rfl : j = 0 := by omega
  rw [Nat.zero_add, Nat.mul_one, Nat.add_zero, World.cell?_setCells_out g vs i wr _ (fun _ _ => Or.inl (by show t < i; omega))]
  exact hlow t (by omega)
theorem DelAt.start {w wr : World} {g cap k : Nat} {ls : List PN} {pr : PN → Bool} (hrow : OwnRow w g (g + 1) (some ⟨g, 0, none⟩) ls.length cap 1 (fun i _ => (ls.getD i default).val)) (hg : Grew w wr) (hz : g < w.heap.size) (hk : k < ls.length) (h1 : ∀ j, j < k → pr (ls.getD j default) = false) (h2 : pr (ls.getD k default) = true) : DelAt w g ls pr k (k + 1) wr := by
  have hcells : ∀ t, t < ls.length → w.cell? ⟨g, t, none⟩ = some (ls.getD t default).val := fun t ht => by
    obtain ⟨b, o, hb, _, _, hc⟩ := hrow.1.2 (by omega)
    obtain ⟨rfl, rfl⟩ : g = b ∧ 0 = o := by injection hb with hb; injection hb with hb1 hb2; exact ⟨hb1, hb2⟩
    simpa using hc t ht 0 (by omega)
  have hsoft : ∀ t, w.frozen? ⟨g, t, none⟩ = false := hrow.2 (by omega) _ rfl
  have hall := keptTo_all (pr := pr) (Nat.le_of_lt hk) h1
  have h0 : DelAt w g ls pr k (k + 1) w := ⟨Keeps.refl _ _, by omega, hk, by rw [keptTo_skip hk h2, hall, List.length_take]; omega, fun t ht => by
    rw [keptTo_skip hk h2, hall, hcells t (by omega)]
    simp [List.getD, ht], fun t _ h4 => hcells t h4, fun t ht => by rw [hcells t ht]; rfl, hsoft⟩
  exact h0.grew hg hz

set_option maxHeartbeats 1000000 in
theorem deletePaths_any (ls : List PN) (g cap : Nat) (pf : FuncId) (caps : Array Value) (pr : PN → Bool) (w : World)
    (eg : ∀ args w, (callFunc pf args).run Try.prog w = .ok (.enter pf args) w)
    (hcall : ∀ p ∈ ls, ∀ w1, Keeps (· = g) w w1 → Calls Try.prog pf (#[p.val] ++ caps) w1 fun e w' => e = .returned (.bool (pr p)) ∧ Grew w1 w')
    (hrow : OwnRow w g (g + 1) (some ⟨g, 0, none⟩) ls.length cap 1 (fun i _ => (ls.getD i default).val)) (hz : g < w.heap.size) (hlen : ls.length ≤ 1048576) :
    Calls Try.prog 37 #[.slice (some ⟨g, 0, none⟩) ls.length cap, .func (.func pf) #[] caps] w fun e w' =>
      e = .returned (.slice (some ⟨g, 0, none⟩) (ls.filter fun p => !pr p).length cap) ∧ Keeps (· = g) w w' ∧ PathRow w' g (g + 1) (some ⟨g, 0, none⟩) cap (ls.filter fun p => !pr p) := by
  have CI := Lib.hid (indexPaths_any ls (some ⟨g, 0, none⟩) cap pf caps pr w eg (fun p hp w1 hg => hcall p hp w1 (hg.keeps _)) g (g + 1) hrow.1 hz hlen)
  have HC := Lib.hid hcall
  have HR := Lib.hid hrow
  have hcap := hrow.1.1.2
  clear hcall hrow
  unfold PN.val at HC
  rcases first_true (fun j => pr (ls.getD j default)) ls.length with hall | ⟨k, hk, hkt, hkf⟩
  · rw [idxOf_none hall] at CI
    have HF : Hid ((ls.filter fun p => !pr p) = ls) := by
      show _ = _
      rw [← keptTo_end, keptTo_all (Nat.le_refl _) hall, List.take_length]
    clear hall
    go_enter Try.func37, Try.ntmps37
    go_wp2_with fail
    refine CI.out.mono ?_
    rintro e w2 ⟨rfl, g2⟩
    go_wp2_with fail
    go_ret
    refine ⟨by rw [HF.out]; rfl, g2.keeps _, by rw [HF.out]; exact HR.out.1.agree (g2.agree hz)⟩
  · rw [idxOf_found hk hkt hkf] at CI
    have HS := Lib.hid (fun wr hg => DelAt.start (wr := wr) HR.out hg hz hk hkf hkt)
    clear hkt hkf
    go_enter Try.func37, Try.ntmps37
    go_wp2_with fail
    refine CI.out.mono ?_
    rintro e w2 ⟨rfl, g2⟩
    have hD := HS.out w2 g2
    have hne1 : ((k : Int) == -1) = false := beq_eq_false_iff_ne.2 (by omega)
    clear HS CI
    go_wp2_with fail
    go_loopw [5, 6] (fun s5 s6 wr => ∃ (i j : Nat), s5 = .int .i64 i ∧ s6 = .int .i64 j ∧ DelAt w g ls pr i j wr) (fun _ s6 _ => ls.length - (intOf s6).toNat)
    case atStart => exact ⟨k, k + 1, rfl, by go_num, hD⟩
    case round =>
      obtain ⟨i, j, rfl, rfl, hI⟩ := hrel
      have hij := hI.lt
      have hjn := hI.le
      clear hD
      by_cases hlt : j < ls.length
      · have hltz : (j : Int) < (ls.length : Int) := by omega
        have cj := hI.high j (Nat.le_refl _) hlt
        have HC1 := Lib.hid (HC.out _ (getD_mem ls j hlt) wr hI.keeps)
        have HN := Lib.hid (fun w' (hg : Grew wr w') => hI.grew hg hz)
        unfold PN.val at cj
        have hin : (i : Int) < ls.length := by omega
        cases hv : pr (ls.getD j default) with
        | false =>
          rw [hv] at HC1
          have HP := Lib.hid (fun w' (hg : Grew wr w') => (hI.grew hg hz).put hlt hv)
          unfold PN.val at HP
          clear hv hI
          generalize ls.getD j default = x at *
          go_wp2_with fail
          refine HC1.out.mono ?_
          rintro e w' ⟨rfl, g3⟩
          obtain ⟨ci, hci⟩ := Option.isSome_iff_exists.1 ((HN.out w' g3).there i (by omega))
          have fi := (HN.out w' g3).soft i
          have hP := HP.out w' g3
          go_wp2_with fail
          go_roundw
          case rel => exact ⟨i + 1, j + 1, by go_num, by go_num, hP⟩
          case measure => simp [intOf]; omega
        | true =>
          rw [hv] at HC1
          have HP := Lib.hid (fun w' (hg : Grew wr w') => (hI.grew hg hz).skip hlt hv)
          clear hv hI
          generalize ls.getD j default = x at *
          go_wp2_with fail
          refine HC1.out.mono ?_
          rintro e w' ⟨rfl, g3⟩
          have hP := HP.out w' g3
          go_wp2_with fail
          go_roundw
          case rel => exact ⟨i, j + 1, rfl, by go_num, hP⟩
          case measure => simp [intOf]; omega
      · obtain rfl : j = ls.length := by omega
        have hltz : ¬ (ls.length : Int) < ls.length := by omega
        have hcl : ∀ ty, (Builtin.clear_ #[46] ty #[.slice (some ⟨g, i, none⟩) (ls.length - i) (cap - i)]).run Try.prog wr = .ok (.tuple #[]) (wr.setCells g i (List.replicate (ls.length - i) (.slice none 0 0))) :=
          fun ty => Lib.run_clear_slice wr _ _ ty _ Try.underlying46 Try.zeroValue48 rfl rfl g i _ _ (by omega) (fun t ht => hI.there (i + t) (by omega)) (fun t ht => hI.soft _)
        have hDn := Lib.hid (hI.done hcap.1 hcap.2 (List.replicate (ls.length - i) (.slice none 0 0)))
        clear hI
        go_wp2_with fail
        go_ret
        exact ⟨ret_val (by rw [hDn.out.2.1]; rfl), hDn.out.1, hDn.out.2.2⟩
end Go.Proofs.Ytnkmcbhpmbjkpaa
