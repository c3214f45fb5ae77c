/- A map from strings to strings that the call has made: what it holds, as a list of pairs with no key twice; each operation's law. -/
import Derived.Test.YtjbfimeckplcmaaDoorProps
import Derived.StringKeys
import Derived.Maps.StringElems
import Derived.Maps.Ext
import Derived.Sort.KeysCollected
namespace Go.Proofs.YtjbfimeckplcmaaDoor
open Go Go.RowKit Go.Maps

theorem keyS : Keyed Tryd.prog 9 := string_keyed Tryd.underlying9
theorem zeroS (w : World) : (zeroValue 9).run Tryd.prog w = .ok (.string .empty) w := Tryd.zeroValue9 w
theorem keyOfS (s : ByteArray) (h : s.size ≤ 1048576) : keyOf Tryd.prog 9 (.string s) = some (.string s.data.toList) := Go.WideMaps.keyOf_string_mk Tryd.underlying9 (by unfold maxLen; omega)
theorem elemS (s : ByteArray) (h : s.size ≤ 1048576) : plainElem (H := Unit) Tryd.prog 9 (.string s) = some (.lit (.string s.data.toList), []) := plainElem_string Tryd.underlying9 (by unfold maxLen; omega)
theorem lit_ne {a b : ByteArray} (h : a ≠ b) : (Lit.string a.data.toList) ≠ (Lit.string b.data.toList) := fun e => h (by
  injection e with e
  obtain ⟨⟨x⟩⟩ := a
  obtain ⟨⟨y⟩⟩ := b
  simpa using e)
theorem bytes_eq {a b : ByteArray} (e : a.data.toList = b.data.toList) : a = b := by
  obtain ⟨⟨x⟩⟩ := a
  obtain ⟨⟨y⟩⟩ := b
  simpa using e

/-- a map reads as a list of pairs, no key twice -/
structure Reads (D : DataW Unit) (ms : List PropL) : Prop where
  keys : (ms.map (·.1)).Nodup
  has : ∀ k : ByteArray, Maps.has D (.string k.data.toList) = (getP k ms).isSome
  look : ∀ (k v : ByteArray), getP k ms = some v → ∀ z, D.atKey (.string k.data.toList) z = .lit (.string v.data.toList)
  size : Maps.size D = ms.length
theorem getP_nil (k : ByteArray) : getP k [] = none := rfl
theorem getP_cons (k : ByteArray) (p : PropL) (r : List PropL) : getP k (p :: r) = if p.1 = k then some p.2 else getP k r := by
  unfold getP
  rw [List.find?_cons]
  by_cases h : p.1 = k <;> simp [h]
theorem getP_append (k : ByteArray) (a b : List PropL) : getP k (a ++ b) = (getP k a).or (getP k b) := by
  induction a with
  | nil => simp [getP_nil]
  | cons p r ih =>
    rw [List.cons_append, getP_cons, getP_cons, ih]
    by_cases h : p.1 = k <;> simp [h]
theorem getP_none {k : ByteArray} {ms : List PropL} : getP k ms = none ↔ k ∉ ms.map (·.1) := by
  induction ms with
  | nil => simp [getP_nil]
  | cons p r ih =>
    rw [getP_cons]
    by_cases h : p.1 = k
    · simp [h]
    · rw [if_neg h, ih]
      simp only [List.map_cons, List.mem_cons, not_or]
      exact ⟨fun h2 => ⟨fun e => h e.symm, h2⟩, fun h2 => h2.2⟩
theorem getP_some {k v : ByteArray} {ms : List PropL} (hn : (ms.map (·.1)).Nodup) : getP k ms = some v ↔ (k, v) ∈ ms := by
  induction ms with
  | nil => simp [getP_nil]
  | cons p r ih =>
    rw [List.map_cons, List.nodup_cons] at hn
    rw [getP_cons]
    by_cases h : p.1 = k
    · rw [if_pos h]
      constructor
      · intro e
        obtain rfl := Option.some.inj e
        subst h
        exact List.mem_cons_self
      · intro e
        rcases List.mem_cons.1 e with e | e
        · rw [← e]
        · exact absurd (List.mem_map.2 ⟨_, e, rfl⟩) (by rw [h] at hn; exact hn.1)
    · rw [if_neg h, ih hn.2]
      constructor
      · exact fun e => List.mem_cons_of_mem _ e
      · intro e
        rcases List.mem_cons.1 e with e | e
        · exact absurd (by rw [← e]) h
        · exact e
theorem Reads.empty : Reads (.map []) [] := ⟨List.nodup_nil, fun _ => rfl, fun _ _ h => (by cases h), rfl⟩
theorem Reads.put {D : DataW Unit} {ms : List PropL} (h : Reads D ms) (ht : Tidy D) (hi : IsMap D) {k v : ByteArray} (hk : WideAt.IsKeyLit (.string k.data.toList)) (hno : getP k ms = none) : Reads (D.put (.string k.data.toList) (.lit (.string v.data.toList))) (ms ++ [(k, v)]) := by
  refine ⟨?_, fun k' => ?_, fun k' v' hv z => ?_, ?_⟩
  · rw [List.map_append, List.nodup_append]
    refine ⟨h.keys, by simp, fun a ha b hb => ?_⟩
    obtain rfl : b = k := by simpa using hb
    rintro rfl
    exact absurd ha (getP_none.1 hno)
  · by_cases e : k' = k
    · subst e
      rw [has_put_same hi hk, getP_append, hno]
      simp [getP_cons]
    · rw [has_put_other (lit_ne e), h.has, getP_append, getP_cons, if_neg (fun e2 => e e2.symm), getP_nil]
      simp
  · by_cases e : k' = k
    · subst e
      rw [atKey_put_same hi hk]
      rw [getP_append, hno, getP_cons, if_pos rfl] at hv
      obtain rfl : v = v' := by simpa using hv
      rfl
    · rw [atKey_put_other (lit_ne e)]
      rw [getP_append, getP_cons, if_neg (fun e2 => e e2.symm), getP_nil] at hv
      exact h.look k' v' (by simpa using hv) z
  · rw [size_put ht, h.has, hno, h.size]
    simp
/-- without a key -/
def dropK (k : ByteArray) (ms : List PropL) : List PropL := ms.filter fun p => !decide (p.1 = k)
theorem getP_drop (k k' : ByteArray) (ms : List PropL) : getP k' (dropK k ms) = if k' = k then none else getP k' ms := by
  induction ms with
  | nil => simp [dropK, getP_nil]
  | cons p r ih =>
    unfold dropK at ih ⊢
    rw [List.filter_cons]
    by_cases h : p.1 = k
    · simp only [h, decide_true, Bool.not_true, Bool.false_eq_true, ↓reduceIte]
      rw [ih, getP_cons]
      by_cases e : k' = k
      · simp [e]
      · rw [if_neg e, if_neg e, if_neg (by rw [h]; exact fun e2 => e e2.symm)]
    · simp only [h, decide_false, Bool.not_false, ↓reduceIte]
      rw [getP_cons, getP_cons, ih]
      by_cases e : p.1 = k'
      · rw [if_pos e, if_pos e, if_neg (fun e2 => h (by rw [e, e2]))]
      · rw [if_neg e, if_neg e]
theorem dropK_len {k : ByteArray} {ms : List PropL} (hn : (ms.map (·.1)).Nodup) : (dropK k ms).length + (if (getP k ms).isSome then 1 else 0) = ms.length := by
  induction ms with
  | nil => simp [dropK, getP_nil]
  | cons p r ih =>
    rw [List.map_cons, List.nodup_cons] at hn
    have ih := ih hn.2
    unfold dropK at ih ⊢
    rw [List.filter_cons, getP_cons]
    by_cases h : p.1 = k
    · have hno : getP k r = none := getP_none.2 (by rw [← h]; exact hn.1)
      rw [hno] at ih
      simp only [h, decide_true, Bool.not_true, Bool.false_eq_true, ↓reduceIte, Option.isSome_some, List.length_cons]
      simpa using ih
    · rw [if_neg h]
      simp only [h, decide_false, Bool.not_false, ↓reduceIte, List.length_cons]
      omega
theorem Reads.del {D : DataW Unit} {ms : List PropL} (h : Reads D ms) (ht : Tidy D) (k : ByteArray) : Reads (D.del (.string k.data.toList)) (dropK k ms) := by
  refine ⟨?_, fun k' => ?_, fun k' v' hv z => ?_, ?_⟩
  · exact h.keys.sublist (List.Sublist.map _ List.filter_sublist)
  · rw [getP_drop]
    by_cases e : k' = k
    · subst e; rw [has_del_same]; simp
    · rw [has_del_other (lit_ne e), h.has, if_neg e]
  · rw [getP_drop] at hv
    by_cases e : k' = k
    · simp [e] at hv
    · rw [if_neg e] at hv
      rw [atKey_del_other (lit_ne e)]
      exact h.look k' v' hv z
  · have h1 := size_del (k := .string k.data.toList) ht
    have h2 := dropK_len (k := k) h.keys
    rw [h.has] at h1
    have h3 := h.size
    omega

/-- the block holds a map that reads as a list of pairs -/
def MapIs (w : World) (B n : Nat) (ms : List PropL) : Prop := ∃ D : DataW Unit, w.ownsMap Tryd.prog 9 (plainElem Tryd.prog 9) B n D ∧ Reads D ms
theorem MapIs.made (w : World) : MapIs (w.alloc (.map #[] 0)) w.heap.size 0 [] := ⟨_, World.ownsMap_made _ _ _ _, Reads.empty⟩
theorem grownBy_grew {w w' : World} (h : Grew w w') : w.grownBy w' none := ⟨h.os, h.tape, h.output, h.size, fun i hi _ => h.block i hi⟩
theorem MapIs.grew {w w' : World} {B n : Nat} {ms : List PropL} (h : MapIs w B n ms) (hg : Grew w w') : MapIs w' B n ms := by
  obtain ⟨D, h1, h2⟩ := h
  exact ⟨D, h1.kept (grownBy_grew hg) (by simp), h2⟩
theorem MapIs.keys {w : World} {B n : Nat} {ms : List PropL} (h : MapIs w B n ms) : (ms.map (·.1)).Nodup := h.choose_spec.2.keys
theorem MapIs.lt {w : World} {B n : Nat} {ms : List PropL} (h : MapIs w B n ms) : B < w.heap.size := h.choose_spec.1.lt

section
variable {P : Program} (w : World) {ops : Array Oper} {rest : List Oper} {o : Oper} {a : Act} {Q : Exit → Act → World → Prop}
theorem wp_look (hg : o.guard = none) (m x : Operand) (hop : o.op = Op.lookup 44 m x true) (B n : Nat) (ms : List PropL) (hm : a.eval m = .map (some B)) (h : MapIs w B n ms) (k : ByteArray) (hx : a.eval x = .string k) (hk : k.size ≤ 1048576)
    (hK : wpList Tryd.prog ops Q rest (a.put o.dst (.tuple #[.string ((getP k ms).getD .empty), .bool (getP k ms).isSome])) w) : wpList Tryd.prog ops Q (o :: rest) a w := by
  obtain ⟨D, h1, h2⟩ := h
  refine wpList_lookup_own_ok w hg m x 44 hop 9 9 keyS Tryd.underlying44 (plainElem Tryd.prog 9) (zeroS w) (.lit (.string [])) [] (elemS .empty (by decide)) B n D hm h1 (.string k) (.string k.data.toList) hx (keyOfS k hk) ?_
  intro v ps hv
  obtain ⟨s, rfl, hs, _⟩ := plainElem_string_inv Tryd.underlying9 hv
  have hs : D.atKey (.string k.data.toList) (.lit (.string [])) = .lit (.string s.data.toList) := congrArg Prod.fst hs
  rw [h2.has]
  have e : (getP k ms).getD .empty = s := by
    cases hg : getP k ms with
    | none =>
      have h3 := h2.has k
      rw [hg] at h3
      rw [atKey_of_not_has h3] at hs
      injection hs with hs
      injection hs with hs
      exact (bytes_eq hs)
    | some v =>
      rw [h2.look k v hg] at hs
      injection hs with hs
      injection hs with hs
      exact (bytes_eq hs)
  rw [e] at hK
  exact hK
theorem wp_store (hg : o.guard = none) (m x v : Operand) (hop : o.op = Op.mapUpdate 44 m x v) (B n : Nat) (ms : List PropL) (hm : a.eval m = .map (some B)) (h : MapIs w B n ms) (hn : n < maxLen) (p : PropL) (hx : a.eval x = .string p.1) (hv : a.eval v = .string p.2) (hk : p.1.size ≤ 1048576) (hvs : p.2.size ≤ 1048576) (hno : getP p.1 ms = none)
    (hK : ∀ w', MapIs w' B (n + 1) (ms ++ [p]) → w.grownBy w' (some B) → wpList Tryd.prog ops Q rest (a.put o.dst undef) w') : wpList Tryd.prog ops Q (o :: rest) a w := by
  obtain ⟨D, h1, h2⟩ := h
  refine wpList_mapUpdate_own w hg m x v 44 hop 9 9 keyS Tryd.underlying44 (plainElem Tryd.prog 9) B n D hm h1 hn (.string p.1) (.string p.2) (.string p.1.data.toList) hx hv (keyOfS _ hk) (.lit (.string p.2.data.toList)) [] (elemS _ hvs) ?_
  intro w' h3 h4
  exact hK w' ⟨_, h3, h2.put (h1.tidy keyS) h1.isMap (keyS.key (keyOfS _ hk)) hno⟩ h4
theorem wp_drop (hg : o.guard = none) (m x : Operand) (hop : o.op = Op.call { callee := Callee.builtin Builtin.delete, args := #[m, x], argTypes := #[44, 9] }) (B n : Nat) (ms : List PropL) (hm : a.eval m = .map (some B)) (h : MapIs w B n ms) (k : ByteArray) (hx : a.eval x = .string k) (hk : k.size ≤ 1048576)
    (hK : ∀ w', MapIs w' B n (dropK k ms) → w.grownBy w' (some B) → wpList Tryd.prog ops Q rest (a.put o.dst (.tuple #[])) w') : wpList Tryd.prog ops Q (o :: rest) a w := by
  obtain ⟨D, h1, h2⟩ := h
  refine wpList_delete_own w hg m x 44 9 hop 9 keyS Tryd.underlying44 (plainElem Tryd.prog 9) B n D hm h1 (.string k) (.string k.data.toList) hx (keyOfS k hk) ?_
  intro w' h3 h4
  exact hK w' ⟨_, h3, h2.del (h1.tidy keyS) k⟩ h4.grown
theorem wp_len (hg : o.guard = none) (m : Operand) (hop : o.op = Op.call { callee := Callee.builtin Builtin.len, args := #[m], argTypes := #[44] }) (B n : Nat) (ms : List PropL) (hm : a.eval m = .map (some B)) (h : MapIs w B n ms)
    (hK : wpList Tryd.prog ops Q rest (a.put o.dst (.int .i64 ms.length)) w) : wpList Tryd.prog ops Q (o :: rest) a w := by
  obtain ⟨D, h1, h2⟩ := h
  refine wpList_len_own w hg m 44 hop 9 9 Tryd.underlying44 (plainElem Tryd.prog 9) B n D hm h1 ?_
  rw [h2.size]
  exact hK
end
end Go.Proofs.YtjbfimeckplcmaaDoor
