/- slices.DeleteFunc on properties: the contract. -/
import Derived.Test.YtjbfimeckplcmaaDoorHas
import Derived.Test.YtjbfimeckplcmaaDoorClone
import Derived.Test.YtjbfimeckplcmaaDoorOwn
import Derived.Laws.EntriesVeiled
namespace Go.Proofs.YtjbfimeckplcmaaDoor
open Go Go.RowKit

theorem setCells_keepsP (b : Nat) : ∀ (vs : List Value) (o : Nat) (w : World), Keeps (· = b) w (w.setCells b o vs)
  | [], _, w => Keeps.refl _ w
  | v :: r, o, w => ((Keeps.refl (· = b) w).own o v).trans (setCells_keepsP b r (o + 1) _)
theorem getD_snocP (l : List PropL) (x : PropL) : (l ++ [x]).getD l.length default = x := by simp [List.getD]
theorem first_trueP (f : Nat → Bool) : ∀ n, (∀ j, j < n → f j = false) ∨ ∃ k, k < n ∧ f k = true ∧ ∀ j, j < k → f j = false
  | 0 => Or.inl fun j hj => by omega
  | n + 1 => by
    rcases first_trueP f n with h | ⟨k, hk, h1, h2⟩
    · cases hv : f n with
      | true => exact Or.inr ⟨n, by omega, hv, h⟩
      | false =>
        refine Or.inl fun j hj => ?_
        rcases Nat.lt_or_ge j n with h1 | h1
        · exact h j h1
        · obtain rfl : j = n := by omega
          exact hv
    · exact Or.inr ⟨k, by omega, h1, h2⟩
/-- what is kept of the first j, when what a predicate tells is struck -/
def keptP (pr : PropL → Bool) (ls : List PropL) (j : Nat) : List PropL := (ls.take j).filter fun p => !pr p
theorem keptP_skip {pr : PropL → Bool} {ls : List PropL} {j : Nat} (hj : j < ls.length) (h : pr (ls.getD j default) = true) : keptP pr ls (j + 1) = keptP pr ls j := by
  unfold keptP
  rw [take_next ls j hj, List.filter_append, List.filter_cons, h]
  simp
theorem keptP_more {pr : PropL → Bool} {ls : List PropL} {j : Nat} (hj : j < ls.length) (h : pr (ls.getD j default) = false) : keptP pr ls (j + 1) = keptP pr ls j ++ [ls.getD j default] := by
  unfold keptP
  rw [take_next ls j hj, List.filter_append]
  congr 1
  rw [List.filter_cons, h]; rfl
theorem keptP_all {pr : PropL → Bool} {ls : List PropL} : ∀ {j : Nat}, j ≤ ls.length → (∀ i, i < j → pr (ls.getD i default) = false) → keptP pr ls j = ls.take j := by
  intro j
  induction j with
  | zero => intro _ _; simp [keptP]
  | succ j ih => intro h1 h2; rw [keptP_more (by omega) (h2 j (by omega)), ih (by omega) (fun i hi => h2 i (by omega)), take_next ls j (by omega)]
theorem keptP_end (pr : PropL → Bool) (ls : List PropL) : keptP pr ls ls.length = ls.filter fun p => !pr p := by unfold keptP; rw [List.take_length]

/-- the row's block while slices.DeleteFunc goes through it: i are kept of the first j -/
structure DelP (w : World) (g : Nat) (ls : List PropL) (pr : PropL → Bool) (i j : Nat) (wr : World) : Prop where
  keeps : Keeps (· = g) w wr
  lt : i < j
  le : j ≤ ls.length
  len : (keptP pr ls j).length = i
  low : ∀ t, t < i → wr.cell? ⟨g, t * 2, none⟩ = some (.string ((keptP pr ls j).getD t default).1) ∧ wr.cell? ⟨g, t * 2 + 1, none⟩ = some (.string ((keptP pr ls j).getD t default).2)
  high : ∀ t, j ≤ t → t < ls.length → wr.cell? ⟨g, t * 2, none⟩ = some (.string (ls.getD t default).1) ∧ wr.cell? ⟨g, t * 2 + 1, none⟩ = some (.string (ls.getD t default).2)
  there : ∀ t, t < ls.length * 2 → (wr.cell? ⟨g, t, none⟩).isSome = true
  soft : ∀ t, wr.frozen? ⟨g, t, none⟩ = false
theorem DelP.grew {w : World} {g : Nat} {ls : List PropL} {pr : PropL → Bool} {i j : Nat} {wr wr' : World} (h : DelP w g ls pr i j wr) (hg : Grew wr wr') (hz : g < w.heap.size) : DelP w g ls pr i j wr' := by
  have hz1 : g < wr.heap.size := Nat.lt_of_lt_of_le hz h.keeps.size
  have q : ∀ t, wr'.cell? ⟨g, t, none⟩ = wr.cell? ⟨g, t, none⟩ := fun t => hg.cell (p := ⟨g, t, none⟩) hz1
  exact ⟨h.keeps.trans (hg.keeps _), h.lt, h.le, h.len, fun t ht => ⟨(q _).trans (h.low t ht).1, (q _).trans (h.low t ht).2⟩, fun t h1 h2 => ⟨(q _).trans (h.high t h1 h2).1, (q _).trans (h.high t h1 h2).2⟩, fun t ht => by rw [q]; exact h.there t ht, fun t => (hg.frozen (p := ⟨g, t, none⟩) hz1).trans (h.soft t)⟩
theorem DelP.skip {w : World} {g : Nat} {ls : List PropL} {pr : PropL → Bool} {i j : Nat} {wr : World} (h : DelP w g ls pr i j wr) (hj : j < ls.length) (hp : pr (ls.getD j default) = true) : DelP w g ls pr i (j + 1) wr :=
  ⟨h.keeps, Nat.lt_succ_of_lt h.lt, hj, by rw [keptP_skip hj hp]; exact h.len, fun t ht => by rw [keptP_skip hj hp]; exact h.low t ht, fun t h1 h2 => h.high t (by omega) h2, h.there, h.soft⟩
theorem DelP.put {w : World} {g : Nat} {ls : List PropL} {pr : PropL → Bool} {i j : Nat} {wr : World} (h : DelP w g ls pr i j wr) (hj : j < ls.length) (hp : pr (ls.getD j default) = false) :
    DelP w g ls pr (i + 1) (j + 1) ((wr.setCell ⟨g, i * 2, none⟩ (.string (ls.getD j default).1)).setCell ⟨g, i * 2 + 1, none⟩ (.string (ls.getD j default).2)) := by
  have hl := h.lt
  obtain ⟨u, hu⟩ := Option.isSome_iff_exists.1 (h.there (i * 2) (by omega))
  obtain ⟨u', hu'⟩ := Option.isSome_iff_exists.1 (h.there (i * 2 + 1) (by omega))
  have hu2 : (wr.setCell ⟨g, i * 2, none⟩ (.string (ls.getD j default).1)).cell? ⟨g, i * 2 + 1, none⟩ = some u' := by rw [cell_ne (by omega)]; exact hu'
  have out : ∀ t, t ≠ i * 2 → t ≠ i * 2 + 1 → ((wr.setCell ⟨g, i * 2, none⟩ (.string (ls.getD j default).1)).setCell ⟨g, i * 2 + 1, none⟩ (.string (ls.getD j default).2)).cell? ⟨g, t, none⟩ = wr.cell? ⟨g, t, none⟩ := fun t h1 h2 => by
    rw [cell_ne (Ne.symm h2), cell_ne (Ne.symm h1)]
  have in0 : ((wr.setCell ⟨g, i * 2, none⟩ (.string (ls.getD j default).1)).setCell ⟨g, i * 2 + 1, none⟩ (.string (ls.getD j default).2)).cell? ⟨g, i * 2, none⟩ = some (.string (ls.getD j default).1) := by
    rw [cell_ne (by omega)]; exact World.cell?_setCell_same _ _ _ hu
  have in1 : ((wr.setCell ⟨g, i * 2, none⟩ (.string (ls.getD j default).1)).setCell ⟨g, i * 2 + 1, none⟩ (.string (ls.getD j default).2)).cell? ⟨g, i * 2 + 1, none⟩ = some (.string (ls.getD j default).2) :=
    World.cell?_setCell_same _ _ _ hu2
  refine ⟨(h.keeps.own _ _).own _ _, by omega, hj, by rw [keptP_more hj hp, List.length_append, h.len]; rfl, fun t ht => ?_, fun t h1 h2 => ?_, fun t ht => ?_, fun t => by rw [World.frozen?_setCell, World.frozen?_setCell]; exact h.soft t⟩
  · rw [keptP_more hj hp]
    rcases Nat.lt_or_ge t i with h1 | h1
    · rw [out _ (by omega) (by omega), out _ (by omega) (by omega)]
      have hlen := h.len
      have := h.low t h1
      simpa [List.getD, List.getElem?_append_left (show t < (keptP pr ls j).length by omega)] using this
    · obtain rfl : t = i := by omega
      rw [in0, in1]
      have hs := getD_snocP (keptP pr ls j) (ls.getD j default)
      rw [h.len] at hs
      rw [hs]
      exact ⟨rfl, rfl⟩
  · rw [out _ (by omega) (by omega), out _ (by omega) (by omega)]; exact h.high t (by omega) h2
  · by_cases h1 : t = i * 2
    · subst h1; rw [in0]; rfl
    · by_cases h2 : t = i * 2 + 1
      · subst h2; rw [in1]; rfl
      · rw [out _ h1 h2]; exact h.there t ht
theorem DelP.done {w : World} {g cap : Nat} {ls : List PropL} {pr : PropL → Bool} {i : Nat} {wr : World} (h : DelP w g ls pr i ls.length wr) (hcap : ls.length ≤ cap) (hm : cap ≤ maxLen) (vs : List Value) :
    Keeps (· = g) w (wr.setCells g (i * 2) vs) ∧ (ls.filter fun p => !pr p).length = i ∧ PropsIn (wr.setCells g (i * 2) vs) g (g + 1) (some ⟨g, 0, none⟩) cap (ls.filter fun p => !pr p) := by
  have hlen := h.len
  have hlow := h.low
  rw [keptP_end] at hlen hlow
  have hl := h.lt
  refine ⟨h.keeps.trans (setCells_keepsP g vs (i * 2) wr), hlen, ⟨by simp, by omega, hm⟩, fun _ => ⟨g, 0, rfl, Nat.le_refl _, by omega, fun t ht j hj => ?_⟩⟩
  rw [Nat.zero_add, World.cell?_setCells_out g vs (i * 2) wr _ (fun _ _ => Or.inl (by show t * 2 + j < i * 2; omega))]
  match j, hj with
  | 0, _ => exact (hlow t (by omega)).1
  | 1, _ => exact (hlow t (by omega)).2
theorem DelP.start {w wr : World} {g cap k : Nat} {ls : List PropL} {pr : PropL → Bool} (hrow : OwnRow w g (g + 1) (some ⟨g, 0, none⟩) ls.length cap 2 (fun i j => propCell (ls.getD i default) j)) (hg : Grew w wr) (hz : g < w.heap.size) (hk : k < ls.length) (h1 : ∀ j, j < k → pr (ls.getD j default) = false) (h2 : pr (ls.getD k default) = true) : DelP w g ls pr k (k + 1) wr := by
  have hcells : ∀ t, t < ls.length → w.cell? ⟨g, t * 2, none⟩ = some (.string (ls.getD t default).1) ∧ w.cell? ⟨g, t * 2 + 1, none⟩ = some (.string (ls.getD t default).2) := fun t ht => by
    obtain ⟨b, o, hb, _, _, hc⟩ := hrow.1.2 (by omega)
    obtain ⟨rfl, rfl⟩ : g = b ∧ 0 = o := by injection hb with hb; injection hb with hb1 hb2; exact ⟨hb1, hb2⟩
    have e0 := hc t ht 0 (by omega)
    have e1 := hc t ht 1 (by omega)
    rw [Nat.zero_add] at e0 e1
    exact ⟨e0, e1⟩
  have hsoft : ∀ t, w.frozen? ⟨g, t, none⟩ = false := hrow.2 (by omega) _ rfl
  have hall := keptP_all (pr := pr) (Nat.le_of_lt hk) h1
  have h0 : DelP w g ls pr k (k + 1) w := ⟨Keeps.refl _ _, by omega, hk, by rw [keptP_skip hk h2, hall, List.length_take]; omega, fun t ht => by
    rw [keptP_skip hk h2, hall]
    have := hcells t (by omega)
    simpa [List.getD, ht] using this, fun t _ h4 => hcells t h4, fun t ht => by
    have h3 := hcells (t / 2) (by omega)
    rcases Nat.mod_two_eq_zero_or_one t with h4 | h4
    · rw [show t = t / 2 * 2 by omega, h3.1]; rfl
    · rw [show t = t / 2 * 2 + 1 by omega, h3.2]; rfl, hsoft⟩
  exact h0.grew hg hz

theorem run_clear_props (w : World) (ty : TypeId) (b o n c : Nat) (hn : 0 < n)
    (hc : ∀ j, j < n * 2 → (w.cell? ⟨b, o + j, none⟩).isSome = true) (hf : ∀ j, j < n * 2 → w.frozen? ⟨b, o + j, none⟩ = false) :
    (Builtin.clear_ #[22] ty #[.slice (some ⟨b, o, none⟩) n c]).run Tryd.prog w = .ok (.tuple #[]) (w.setCells b o (List.replicate (n * 2) (.string { data := #[] }))) := by
  have hzc : (Builtin.zeroCells (Value.agg #[.string { data := #[] }, .string { data := #[] }]).cells n).toList = List.replicate (n * 2) (.string { data := #[] }) := by
    simp only [Builtin.zeroCells, Value.cells]
    apply List.ext_getElem
    · simp
    · intro i h1 h2
      simp only [Array.getElem_toList, List.getElem_replicate]
      rcases Nat.mod_two_eq_zero_or_one i with h | h <;> simp [h]
  have hst := run_storeCells_cells (P := Tryd.prog) b o (List.replicate (n * 2) (.string { data := #[] })) 0 w (by simpa using hc) (by simpa using hf) (by intro v hv'; rw [List.eq_of_mem_replicate hv']; rfl)
  simp only [Nat.add_zero] at hst
  obtain ⟨m, rfl⟩ : ∃ m, n = m + 1 := ⟨n - 1, by omega⟩
  have hv := Tryd.zeroValue36
  simp [Builtin.clear_, run_underlying Tryd.underlying22, hv, hzc, hst]

set_option maxHeartbeats 1000000 in
theorem deleteProps_any (ls : List PropL) (g cap : Nat) (pf : FuncId) (caps : Array Value) (pr : PropL → Bool) (w : World)
    (eg : ∀ args w, (callFunc pf args).run Tryd.prog w = .ok (.enter pf args) w)
    (hcall : ∀ p ∈ ls, ∀ w1, Keeps (· = g) w w1 → Calls Tryd.prog pf (#[.agg #[.string p.1, .string p.2]] ++ caps) w1 fun e w' => e = .returned (.bool (pr p)) ∧ Grew w1 w')
    (hrow : OwnRow w g (g + 1) (some ⟨g, 0, none⟩) ls.length cap 2 (fun i j => propCell (ls.getD i default) j)) (hz : g < w.heap.size) (hlen : ls.length ≤ 1048576) :
    Calls Tryd.prog 39 #[.slice (some ⟨g, 0, none⟩) ls.length cap, .func (.func pf) #[] caps] w fun e w' =>
      e = .returned (.slice (some ⟨g, 0, none⟩) (ls.filter fun p => !pr p).length cap) ∧ Keeps (· = g) w w' ∧ PropsIn w' g (g + 1) (some ⟨g, 0, none⟩) cap (ls.filter fun p => !pr p) := by
  have CI := Lib.hid (indexProps_any ls (some ⟨g, 0, none⟩) cap pf caps pr w eg (fun p hp w1 hg => hcall p hp w1 (hg.keeps _)) g (g + 1) hrow.1 hz hlen)
  have HC := Lib.hid hcall
  have HR := Lib.hid hrow
  have hcap := hrow.1.1.2
  clear hcall hrow
  rcases first_trueP (fun j => pr (ls.getD j default)) ls.length with hall | ⟨k, hk, hkt, hkf⟩
  · rw [idxOf_none hall] at CI
    have HF : Hid ((ls.filter fun p => !pr p) = ls) := by
      show _ = _
      rw [← keptP_end, keptP_all (Nat.le_refl _) hall, List.take_length]
    clear hall
    go_enter Tryd.func39, Tryd.ntmps39
    go_wp2_with fail
    refine CI.out.mono ?_
    rintro e w2 ⟨rfl, g2⟩
    go_wp2_with fail
    go_ret
    refine ⟨by rw [HF.out]; rfl, g2.keeps _, by rw [HF.out]; exact PropsIn.agree HR.out.1 (g2.agree hz)⟩
  · rw [idxOf_found hk hkt hkf] at CI
    have HS := Lib.hid (fun wr hg => DelP.start (wr := wr) HR.out hg hz hk hkf hkt)
    clear hkt hkf
    go_enter Tryd.func39, Tryd.ntmps39
    go_wp2_with fail
    refine CI.out.mono ?_
    rintro e w2 ⟨rfl, g2⟩
    have hD := HS.out w2 g2
    have hne1 : ((k : Int) == -1) = false := beq_eq_false_iff_ne.2 (by omega)
    clear HS CI
    go_wp2_with fail
    go_loopw [5, 6] (fun s5 s6 wr => ∃ (i j : Nat), s5 = .int .i64 i ∧ s6 = .int .i64 j ∧ DelP w g ls pr i j wr) (fun _ s6 _ => ls.length - (intOf s6).toNat)
    case atStart => exact ⟨k, k + 1, rfl, by go_num, hD⟩
    case round =>
      obtain ⟨i, j, rfl, rfl, hI⟩ := hrel
      have hij := hI.lt
      have hjn := hI.le
      clear hD
      by_cases hlt : j < ls.length
      · have hltz : (j : Int) < (ls.length : Int) := by omega
        obtain ⟨cj, cj1⟩ := hI.high j (Nat.le_refl _) hlt
        have HC1 := Lib.hid (fun w1 (hg : Grew wr w1) => HC.out _ (getD_mem ls j hlt) w1 (hI.keeps.trans (hg.keeps _)))
        have HN := Lib.hid (fun w' (hg : Grew wr w') => hI.grew hg hz)
        have hin : (i : Int) < ls.length := by omega
        cases hv : pr (ls.getD j default) with
        | false =>
          rw [hv] at HC1
          have HP := Lib.hid (fun w' (hg : Grew wr w') => (hI.grew hg hz).put hlt hv)
          clear hv hI
          generalize ls.getD j default = x at *
          go_wp2_with fail
          have ga := Grew.alloc1 wr (Obj.cells #[.string x.1, .string x.2] 36)
          refine (HC1.out _ ga).mono ?_
          rintro e w' ⟨rfl, g3⟩
          obtain ⟨d0, d1, zd⟩ := pbox g3
          have g4 := ga.trans g3
          obtain ⟨ci, hci⟩ := Option.isSome_iff_exists.1 ((HN.out w' g4).there (i * 2) (by omega))
          obtain ⟨ci1, hci1⟩ := Option.isSome_iff_exists.1 ((HN.out w' g4).there (i * 2 + 1) (by omega))
          have fi := (HN.out w' g4).soft (i * 2)
          have fi1 := (HN.out w' g4).soft (i * 2 + 1)
          have hP := HP.out w' g4
          go_wp2_with fail
          go_roundw
          case rel => exact ⟨i + 1, j + 1, by go_num, by go_num, hP⟩
          case measure => simp [intOf]; omega
        | true =>
          rw [hv] at HC1
          have HP := Lib.hid (fun w' (hg : Grew wr w') => (hI.grew hg hz).skip hlt hv)
          clear hv hI
          generalize ls.getD j default = x at *
          go_wp2_with fail
          have ga := Grew.alloc1 wr (Obj.cells #[.string x.1, .string x.2] 36)
          refine (HC1.out _ ga).mono ?_
          rintro e w' ⟨rfl, g3⟩
          have hP := HP.out w' (ga.trans g3)
          go_wp2_with fail
          go_roundw
          case rel => exact ⟨i, j + 1, rfl, by go_num, hP⟩
          case measure => simp [intOf]; omega
      · obtain rfl : j = ls.length := by omega
        have hltz : ¬ (ls.length : Int) < ls.length := by omega
        have hcl : ∀ ty, (Builtin.clear_ #[22] ty #[.slice (some ⟨g, i * 2, none⟩) (ls.length - i) (cap - i)]).run Tryd.prog wr = .ok (.tuple #[]) (wr.setCells g (i * 2) (List.replicate ((ls.length - i) * 2) (.string { data := #[] }))) :=
          fun ty => run_clear_props wr ty g (i * 2) _ _ (by omega) (fun t ht => hI.there (i * 2 + t) (by omega)) (fun t ht => hI.soft _)
        have hDn := Lib.hid (hI.done hcap.1 hcap.2 (List.replicate ((ls.length - i) * 2) (.string { data := #[] })))
        clear hI
        go_wp2_with fail
        go_ret
        exact ⟨ret_val (by rw [hDn.out.2.1]; rfl), hDn.out.1, hDn.out.2.2⟩
end Go.Proofs.YtjbfimeckplcmaaDoor
