/- Ranging over a map from strings to strings: what has come, as a list of pairs. -/
import Derived.Test.YtjbfimeckplcmaaDoorMapS
namespace Go.Proofs.YtjbfimeckplcmaaDoor
open Go Go.RowKit Go.Maps

theorem nodup_of_map {α β : Type} (f : α → β) : ∀ {l : List α}, (l.map f).Nodup → l.Nodup
  | [], _ => List.nodup_nil
  | x :: r, h => by
    rw [List.map_cons, List.nodup_cons] at h
    exact List.nodup_cons.2 ⟨fun hm => h.1 (List.mem_map.2 ⟨x, hm, rfl⟩), nodup_of_map f h.2⟩
/-- what has come of a map's pairs, and what is still to come -/
structure Come (D : DataW Unit) (left : Lit → Bool) (ms got : List PropL) : Prop where
  keys : (got.map (·.1)).Nodup
  mem : ∀ p : PropL, p ∈ got ↔ (getP p.1 ms = some p.2 ∧ left (.string p.1.data.toList) = false)
theorem Come.start {D : DataW Unit} {ms : List PropL} (h : Reads D ms) : Come D (Maps.has D) ms [] := ⟨List.nodup_nil, fun p => by
  constructor
  · intro e; cases e
  · rintro ⟨h1, h2⟩
    rw [h.has, h1] at h2
    cases h2⟩
theorem Come.step {D : DataW Unit} {left : Lit → Bool} {ms got : List PropL} (h : Come D left ms got) (hR : Reads D ms) {x c : ByteArray} (hl : left (.string x.data.toList) = true) (hat : ∀ zd, D.atKey (.string x.data.toList) zd = .lit (.string c.data.toList)) (hk : WideAt.IsKeyLit (.string x.data.toList)) :
    Come D (fun z => left z && !z.sameKey (.string x.data.toList)) ms (got ++ [(x, c)]) := by
  have hx : getP x ms = some c := by
    have h1 := has_true_of_atKey hat
    rw [hR.has] at h1
    obtain ⟨v, hv⟩ := Option.isSome_iff_exists.1 h1
    have h2 := hR.look x v hv (.lit (.string []))
    rw [hat] at h2
    injection h2 with h2
    injection h2 with h2
    rw [hv, bytes_eq h2]
  have hno : ∀ p ∈ got, p.1 ≠ x := fun p hp e => by
    have := ((h.mem p).1 hp).2
    rw [e, hl] at this
    cases this
  refine ⟨?_, fun p => ?_⟩
  · rw [List.map_append, List.nodup_append]
    refine ⟨h.keys, by simp, fun a ha b hb => ?_⟩
    obtain rfl : b = x := by simpa using hb
    obtain ⟨p, hp, rfl⟩ := List.mem_map.1 ha
    exact hno p hp
  · by_cases e : p.1 = x
    · have hs : (Lit.string p.1.data.toList).sameKey (.string x.data.toList) = true := by rw [e]; exact WideAt.sameKey_self hk
      rw [hs, e, hx]
      simp only [Bool.not_true, Bool.and_false, and_true, List.mem_append, List.mem_singleton]
      constructor
      · rintro (h1 | h1)
        · exact absurd e (hno p h1)
        · rw [h1]
      · intro h1
        exact Or.inr (Prod.ext e (Option.some.inj h1).symm)
    · have hs : (Lit.string p.1.data.toList).sameKey (.string x.data.toList) = false := sameKey_ne (lit_ne e)
      rw [hs]
      simp only [Bool.not_false, Bool.and_true, List.mem_append, List.mem_singleton]
      rw [← h.mem p]
      constructor
      · rintro (h1 | h1)
        · exact h1
        · exact absurd (by rw [h1]) e
      · exact Or.inl
theorem Come.end {D : DataW Unit} {left : Lit → Bool} {ms got : List PropL} (h : Come D left ms got) (hn : (ms.map (·.1)).Nodup) (hl : ∀ kl, left kl = false) : got.Perm ms := by
  have n1 : got.Nodup := nodup_of_map _ h.keys
  have n2 : ms.Nodup := nodup_of_map _ hn
  refine (List.perm_ext_iff_of_nodup n1 n2).2 (fun p => ?_)
  rw [h.mem p, getP_some hn]
  simp [hl]

/-- 'for k, v := range m' under way -/
def RangeIs (w : World) (B r n : Nat) (ms got : List PropL) (cnt : Nat) : Prop := ∃ (D : DataW Unit) (left : Lit → Bool), w.ranges Tryd.prog 9 (plainElem Tryd.prog 9) B r n D left cnt ∧ Reads D ms ∧ Come D left ms got ∧ got.length + cnt ≤ ms.length
theorem RangeIs.kept {w w' : World} {B r n cnt : Nat} {ms got : List PropL} {row : Option Nat} (h : RangeIs w B r n ms got cnt) (hg : w.grownBy w' row) (h1 : some B ≠ row) (h2 : some r ≠ row) : RangeIs w' B r n ms got cnt := by
  obtain ⟨D, left, hr, hR, hC, hl⟩ := h
  exact ⟨D, left, hr.kept hg h1 h2, hR, hC, hl⟩
theorem RangeIs.measure {w : World} {B r n cnt : Nat} {ms got : List PropL} (h : RangeIs w B r n ms got cnt) : w.rangeLeft B r = cnt := h.choose_spec.choose_spec.1.left_eq
theorem RangeIs.lt {w : World} {B r n cnt : Nat} {ms got : List PropL} (h : RangeIs w B r n ms got cnt) : r < w.heap.size ∧ B < w.heap.size ∧ r ≠ B := ⟨h.choose_spec.choose_spec.1.lt, h.choose_spec.choose_spec.1.owns.lt, h.choose_spec.choose_spec.1.ne⟩
theorem RangeIs.len {w : World} {B r n cnt : Nat} {ms got : List PropL} (h : RangeIs w B r n ms got cnt) : got.length + cnt ≤ ms.length := h.choose_spec.choose_spec.2.2.2

section
variable (w : World) {ops : Array Oper} {rest : List Oper} {o : Oper} {a : Act} {Q : Exit → Act → World → Prop}
theorem wp_range (hg : o.guard = none) (m : Operand) (hop : o.op = Op.range 44 m) (B n : Nat) (ms : List PropL) (hm : a.eval m = .map (some B)) (h : MapIs w B n ms)
    (hK : ∀ w' cnt, RangeIs w' B w.heap.size n ms [] cnt → Grew w w' → wpList Tryd.prog ops Q rest (a.put o.dst (.pointer (some ⟨w.heap.size, 0, none⟩))) w') : wpList Tryd.prog ops Q (o :: rest) a w := by
  obtain ⟨D, h1, h2⟩ := h
  refine wpList_range_own w hg m 44 hop 9 9 keyS Tryd.underlying44 (plainElem Tryd.prog 9) B n D hm h1 ?_
  intro w' h3 h4 _
  exact hK w' _ ⟨D, _, h3, h2, Come.start h2, by rw [List.length_nil, h2.size]; omega⟩ ⟨h4.os, h4.tape, h4.output, h4.size, fun i hi => h4.block i hi (by simp)⟩
theorem wp_next (hg : o.guard = none) (it : Operand) (hop : o.op = Op.next it false) (B r n cnt : Nat) (ms got : List PropL) (hit : a.eval it = .pointer (some ⟨r, 0, none⟩)) (h : RangeIs w B r n ms got cnt)
    (hDone : got.Perm ms → wpList Tryd.prog ops Q rest (a.put o.dst (.tuple #[.bool false])) w)
    (hMore : ∀ (p : PropL) (w' : World) (cnt' : Nat), RangeIs w' B r n ms (got ++ [p]) cnt' → cnt' < cnt → getP p.1 ms = some p.2 → w.grownBy w' (some r) → (Instr.entry (.pointer (some ⟨r, 0, none⟩))).run Tryd.prog w' = .ok (.tuple #[.string p.1, .string p.2]) w' → wpList Tryd.prog ops Q rest (a.put o.dst (.tuple #[.bool true, .string p.1, .string p.2])) w') :
    wpList Tryd.prog ops Q (o :: rest) a w := by
  obtain ⟨D, left, hr, hR, hC, hl⟩ := h
  refine wpList_next_ranges w hg it hop 9 keyS (plainElem Tryd.prog 9) encStr Value.string (fun key kl hk => by obtain ⟨x, hx, _⟩ := Maps.keyOf_str Tryd.underlying9 hk; exact ⟨x, hx⟩) (fun v y hv => by obtain ⟨c, rfl, _⟩ := plainElem_string_inv Tryd.underlying9 hv; exact ⟨c, rfl⟩)
    B r n D left cnt hit hr (fun _ hl0 => hDone (hC.end hR.keys hl0)) ?_
  intro x c kl y w' cnt' hkey hlk hv hat hrg hlt hgr _ hen
  obtain ⟨x', ex, rfl, _⟩ := Maps.keyOf_str Tryd.underlying9 hkey
  obtain rfl : x = x' := encStr_inj ex
  obtain ⟨c', ec, rfl, _⟩ := plainElem_string_inv Tryd.underlying9 hv
  cases ec
  have hx : ((⟨x.toArray⟩ : ByteArray).data.toList) = x := by simp
  have e : encStr x = .string ⟨x.toArray⟩ := rfl
  rw [e] at hen ⊢
  rw [← hx] at hlk hat hrg hkey
  have hkl := keyS.key hkey
  have hst := hC.step hR hlk hat hkl
  have hp : getP (⟨x.toArray⟩ : ByteArray) ms = some c := ((hst.mem (⟨x.toArray⟩, c)).1 (by simp)).1
  exact hMore (⟨x.toArray⟩, c) w' cnt' ⟨D, _, hrg, hR, hst, by rw [List.length_append, List.length_singleton]; omega⟩ hlt hp hgr hen
end
end Go.Proofs.YtjbfimeckplcmaaDoor
