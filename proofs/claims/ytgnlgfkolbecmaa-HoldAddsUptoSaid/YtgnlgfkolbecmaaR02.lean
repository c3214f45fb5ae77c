/- redlineref02.Copy, With, Same, Parent, Next: the contracts. -/
import Derived.Test.YtgnlgfkolbecmaaInts
import Derived.Test.YtgnlgfkolbecmaaOwn
import Derived.Deep.QuietTactic
import Derived.BigQuiet
import Derived.Deep.RegionWith
namespace Go.Proofs.Ytgnlgfkolbecmaa
open Go Go.RowKit

set_option maxHeartbeats 400000 in
theorem same02_any (a b : Option Addr) (c d : Nat) (xs ys : List Int) (w : World) (lo hi lo' hi' : Nat) (hx : IntsIn w lo hi a c xs) (hy : IntsIn w lo' hi' b d ys) (hl : xs.length ≤ 1048576) (hl2 : ys.length ≤ 1048576) (hh : hi ≤ w.heap.size) (hh' : hi' ≤ w.heap.size) :
    Calls Try.prog 33 #[.slice a xs.length c, .slice b ys.length d] w fun e w' => e = .returned (.bool (decide (xs = ys))) ∧ Grew w w' := by
  by_cases hne : xs.length = ys.length
  · have heq : ((xs.length : Int) != ys.length) = false := by simp [hne]
    have HL := Lib.hid hne
    have hle : xs.length ≤ ys.length := by omega
    clear hne
    go_enter Try.func33, Try.ntmps33
    go_wp2_with fail
    go_loopw [13] (fun i wr => ∃ (k : Nat), k ≤ xs.length ∧ i = .int .i64 k ∧ Grew w wr ∧ xs.take k = ys.take k) (fun i _ => xs.length - (intOf i).toNat)
    case atStart => exact ⟨0, by omega, rfl, Grew.refl _, by simp⟩
    case round =>
      obtain ⟨k, hk1, rfl, hg, he⟩ := hrel
      have HE := Lib.hid he
      clear he
      by_cases hlt : k < xs.length
      · obtain ⟨b1, o1, rfl, _, _, hc1⟩ := (hx.grew hg hh).at hlt
        obtain ⟨b2, o2, rfl, _, _, hc2⟩ := (hy.grew hg hh').at (j := k) (by omega)
        have hy1 : (k : Int) < (ys.length : Int) := by omega
        by_cases hxy : xs.getD k 0 = ys.getD k 0
        · have ht : (xs.getD k 0 != ys.getD k 0) = false := by rw [hxy]; simp
          have HX : Hid (xs.take (k + 1) = ys.take (k + 1)) := by
            show _ = _
            rw [take_next0 xs k hlt, take_next0 ys k (by omega), HE.out, hxy]
          clear hxy
          generalize xs.getD k 0 = p at *
          generalize ys.getD k 0 = q at *
          go_wp2_with fail
          go_quiet (fail)
          go_wp2_with fail
          go_roundw
          case rel => exact ⟨k + 1, by omega, by go_num, hg.drewN _, HX.out⟩
          case measure => simp [intOf]; omega
        · have ht : (xs.getD k 0 != ys.getD k 0) = true := by simpa using hxy
          have hne := ne_of_getD hxy
          have HN : Hid (decide (xs = ys) = false) := by show _ = _; simp [hne]
          clear hxy hne
          generalize xs.getD k 0 = p at *
          generalize ys.getD k 0 = q at *
          go_wp2_with fail
          go_quiet (fail)
          go_wp2_with fail
          go_ret
          exact ⟨ret_bool (by rw [HN.out]), hg.drewN _⟩
      · have HN : Hid (decide (xs = ys) = true) := by
          show _ = _
          have := HE.out
          rw [List.take_of_length_le (by omega), List.take_of_length_le (by have := HL.out; omega)] at this
          simp [this]
        go_wp2_with fail
        go_ret
        exact ⟨ret_bool (by rw [HN.out]), hg⟩
  · have heq : ((xs.length : Int) != ys.length) = true := by simp; omega
    have HN : Hid (decide (xs = ys) = false) := by
      show _ = _
      simp only [decide_eq_false_iff_not]
      intro e; exact hne (by rw [e])
    clear hne
    go_enter Try.func33, Try.ntmps33
    go_wp2_with fail
    go_ret
    exact ⟨ret_bool (by rw [HN.out]), Grew.refl _⟩

/-- a path in new memory -/
def RetPath (l : List Int) (w : World) (e : Ending) (w' : World) : Prop := ∃ q : PN, e = .returned (.slice q.a q.l.length q.c) ∧ Grew w w' ∧ IntsIn w' w.heap.size w'.heap.size q.a q.c q.l ∧ Hid (q.l = l)
theorem retPath_own {l : List Int} {w w' : World} {e : Ending} {v : Value} (he : e = .returned v) (hg : Grew w w') (h : w'.ownsRow w.heap.size 3 1 v l.length (l.map (Value.int .i64))) : RetPath l w e w' := by
  obtain ⟨a, c, rfl, hi⟩ := intsIn_owned h
  exact ⟨⟨a, c, l⟩, he, hg, hi, rfl⟩
theorem clonePath_any (a : Option Addr) (c : Nat) (l : List Int) (w : World) (hr : IntsIn w 0 w.heap.size a c l) (hl : l.length ≤ 1048576) : Calls Try.prog 36 #[.slice a l.length c] w (RetPath l w) :=
  (cloneInts_any a c l w _ _ hr (Nat.le_refl _) hl).mono fun _ _ ⟨_, he, hg, ho⟩ => retPath_own he hg ho

theorem IntsIn.set {w : World} {lo hi b o c : Nat} {ts : List Int} (h : IntsIn w lo hi (some ⟨b, o, none⟩) c ts) {j : Nat} (hj : j < ts.length) (v : Int) : IntsIn (w.setCell ⟨b, o + j, none⟩ (.int .i64 v)) lo hi (some ⟨b, o, none⟩) c (ts.set j v) := by
  refine ⟨by simpa using h.1, fun hn => ?_⟩
  obtain ⟨b', o', hab, h1, h2, hc⟩ := h.2 (by omega)
  obtain ⟨rfl, rfl⟩ : b = b' ∧ o = o' := by injection hab with e; injection e with e1 e2; exact ⟨e1, e2⟩
  refine ⟨b, o, rfl, h1, h2, fun i hi j' hj' => ?_⟩
  obtain rfl : j' = 0 := by omega
  have hi2 : i < ts.length := by simpa using hi
  have h0 := hc i hi2 0 (by omega)
  rw [show o + i * 1 + 0 = o + i by omega] at h0 ⊢
  by_cases e : i = j
  · subst e
    rw [World.cell?_setCell_same _ _ _ h0]
    simp [List.getD, hi2]
  · rw [cell_ne (by omega), h0]
    simp [List.getD, Ne.symm e]
theorem IntsIn.cut {w : World} {lo hi : Nat} {a : Option Addr} {c : Nat} {ts us : List Int} (h : IntsIn w lo hi a c (ts ++ us)) (hn : 0 < (ts ++ us).length) : IntsIn w lo hi a c ts := by
  obtain ⟨b, o, rfl, h1, h2, hc⟩ := h.2 hn
  have hl := h.1
  simp only [List.length_append] at hl
  refine ⟨⟨by simp, by omega, hl.2.2⟩, fun _ => ⟨b, o, rfl, h1, h2, fun i hi j hj => ?_⟩⟩
  have := hc i (by rw [List.length_append]; omega) j hj
  simpa [List.getD, List.getElem?_append_left hi] using this
/-- the last number of a path, so much further, as Go adds -/
def lastUp (p : List Int) (d : Int) : List Int := p.set (p.length - 1) (wrap64 (p.getD (p.length - 1) 0 + d))
theorem lastUp_len (p : List Int) (d : Int) : (lastUp p d).length = p.length := by simp [lastUp]
theorem lastUp_snoc (p : List Int) (i d : Int) : lastUp (p ++ [i]) d = p ++ [wrap64 (i + d)] := by
  unfold lastUp
  rw [List.length_append, List.length_singleton, Nat.add_sub_cancel, List.set_append_right _ _ (Nat.le_refl _)]
  simp [List.getD]
theorem snoc_of {p : List Int} (h : 0 < p.length) : ∃ q i, p = q ++ [i] := ⟨p.dropLast, p.getLast (by intro e; rw [e] at h; cases h), (List.dropLast_concat_getLast _).symm⟩
/-- a path in new memory, and an error -/
def RetPathE (l : List Int) (k : Int) (w : World) (e : Ending) (w' : World) : Prop := ∃ q : PN, e = .returned (.tuple #[.slice q.a q.l.length q.c, .int .i64 k]) ∧ Grew w w' ∧ IntsIn w' w.heap.size w'.heap.size q.a q.c q.l ∧ Hid (q.l = l)

end Go.Proofs.Ytgnlgfkolbecmaa
