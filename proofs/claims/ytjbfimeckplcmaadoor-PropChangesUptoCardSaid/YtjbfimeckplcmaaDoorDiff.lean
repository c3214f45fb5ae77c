/- prop.check, prop.without, prop.Diff; redlinelaw01.short, live: the contracts. -/
import Derived.Test.YtjbfimeckplcmaaDoorDel
import Derived.Test.YtjbfimeckplcmaaDoorSame01
namespace Go.Proofs.YtjbfimeckplcmaaDoor
open Go Go.RowKit

/-- a list of properties, where it lies -/
structure PP where
  a : Option Addr
  c : Nat
  ps : List PropL
instance : Inhabited PP := ⟨⟨none, 0, []⟩⟩
def PP.val (p : PP) : Value := .slice p.a p.ps.length p.c
/-- a row of lists of properties -/
def PPIn (w : World) (a : Option Addr) (c : Nat) (l : List PP) : Prop := RowIn w 0 w.heap.size a l.length c 1 (fun i _ => (l.getD i default).val) ∧ ∀ p ∈ l, PropsIn w 0 w.heap.size p.a p.c p.ps
theorem PPIn.grew {w w' : World} {a : Option Addr} {c : Nat} {l : List PP} (h : PPIn w a c l) (hg : Grew w w') : PPIn w' a c l :=
  ⟨(h.1.agree (hg.agree (Nat.le_refl _))).mono (Nat.le_refl _) hg.size, fun p hp => ((h.2 p hp).grew hg (Nat.le_refl _)).mono (Nat.le_refl _) hg.size⟩
theorem PPIn.at {w : World} {a : Option Addr} {c : Nat} {l : List PP} (h : PPIn w a c l) {j : Nat} (hj : j < l.length) : ∃ b o, a = some ⟨b, o, none⟩ ∧ w.cell? ⟨b, o + j, none⟩ = some (l.getD j default).val := by
  obtain ⟨b, o, ha, _, _, hc⟩ := h.1.2 (by omega)
  have := hc j hj 0 (by omega)
  exact ⟨b, o, ha, by simpa using this⟩
/-- the first error of lists -/
def firstBad : List (List PropL) → Int
  | [] => 0
  | x :: r => if checkPs x ≠ 0 then checkPs x else firstBad r
theorem firstBad_good {l : List (List PropL)} {k : Nat} {x : List PropL} (hx : l[k]? = some x) (h : firstBad (l.take k) = 0) (h0 : checkPs x = 0) : firstBad (l.take (k + 1)) = 0 := by
  induction l generalizing k with
  | nil => simp at hx
  | cons y r ih =>
    cases k with
    | zero =>
      obtain rfl : y = x := by simpa using hx
      simp [firstBad, h0]
    | succ k =>
      simp only [List.take_succ_cons, firstBad] at h ⊢
      by_cases h1 : checkPs y = 0
      · simp only [h1, ne_eq, not_true_eq_false, ↓reduceIte] at h ⊢
        exact ih (by simpa using hx) h
      · simp [h1] at h
theorem firstBad_bad {l : List (List PropL)} {k : Nat} {x : List PropL} (hx : l[k]? = some x) (h : firstBad (l.take k) = 0) (h0 : checkPs x ≠ 0) : firstBad l = checkPs x := by
  induction l generalizing k with
  | nil => simp at hx
  | cons y r ih =>
    cases k with
    | zero =>
      obtain rfl : y = x := by simpa using hx
      simp [firstBad, h0]
    | succ k =>
      simp only [List.take_succ_cons, firstBad] at h
      by_cases h1 : checkPs y = 0
      · simp only [h1, ne_eq, not_true_eq_false, ↓reduceIte] at h
        simp [firstBad, h1, ih (by simpa using hx) h]
      · simp [h1] at h
theorem pp_at {l : List PP} {k : Nat} (h : k < l.length) : (l.map PP.ps)[k]? = some (l.getD k default).ps := by
  rw [List.getElem?_map, List.getElem?_eq_getElem h]; simp [List.getD, List.getElem?_eq_getElem h]

set_option maxHeartbeats 1000000 in
theorem checkAll_any (l : List PP) (a : Option Addr) (c : Nat) (w : World) (h : PPIn w a c l) (hb : ∀ p ∈ l, propsBulk p.ps ≤ 1048576) (hl : l.length ≤ 1048576) :
    Calls Tryd.prog 28 #[.slice a l.length c] w fun e w' => e = .returned (.int .i64 (firstBad (l.map PP.ps))) ∧ Grew w w' := by
  go_enter Tryd.func28, Tryd.ntmps28
  go_wp2_with fail
  go_loopw [8] (fun i wr => ∃ (k : Nat), k ≤ l.length ∧ i = .int .i64 k ∧ Grew w wr ∧ Hid (firstBad ((l.map PP.ps).take k) = 0)) (fun i _ => l.length - (intOf i).toNat)
  case atStart => exact ⟨0, by omega, rfl, Grew.refl _, (show firstBad (List.take 0 _) = 0 by simp [firstBad])⟩
  case round =>
    obtain ⟨k, hk, rfl, hg, hA⟩ := hrel
    by_cases hlt : k < l.length
    · have hx := h.grew hg
      obtain ⟨b, o, rfl, c0⟩ := hx.at hlt
      have hm := getD_mem l k hlt
      have C := Lib.hid (check01_any (l.getD k default).ps (l.getD k default).a (l.getD k default).c wr _ _ (hx.2 _ hm) (Nat.le_refl _) (hb _ hm))
      have HG := Lib.hid (firstBad_good (pp_at hlt) hA.out)
      have HB := Lib.hid (firstBad_bad (pp_at hlt) hA.out)
      clear hA hx hm
      unfold PP.val at c0
      generalize l.getD k default = x at *
      by_cases hz : checkPs x.ps = 0
      · have HN := Lib.hid (HG.out hz)
        rw [hz] at C
        clear hz HG HB
        go_wp2_with fail
        refine C.out.mono ?_
        rintro e w1 ⟨rfl, g1⟩
        go_wp2_with fail
        go_roundw
        case rel => exact ⟨k + 1, by omega, by go_num, hg.trans g1, HN⟩
        case measure => simp [intOf]; omega
      · have HN := Lib.hid (HB.out hz)
        have hne : (checkPs x.ps != 0) = true := by simpa using hz
        clear HG HB
        generalize checkPs x.ps = v at *
        go_wp2_with fail
        refine C.out.mono ?_
        rintro e w1 ⟨rfl, g1⟩
        go_wp2_with fail
        go_ret
        exact ⟨ret_int HN.out.symm, hg.trans g1⟩
    · have HN : Hid (firstBad (l.map PP.ps) = 0) := by
        show _ = _
        have := hA.out
        rwa [List.take_of_length_le (by simp; omega)] at this
      have hge : l.length ≤ k := by omega
      clear hA
      go_wp2_with fail
      go_ret
      exact ⟨ret_int HN.out.symm, hg⟩

/-- those of a list that are not in another one -/
def withoutP (xs ys : List PropL) : List PropL := xs.filter fun p => !hasP ys p
theorem withoutP_len (xs ys : List PropL) : (withoutP xs ys).length ≤ xs.length := List.length_filter_le _ _

set_option maxHeartbeats 1000000 in
theorem deleteNil_any (pf : FuncId) (caps : Array Value) (w : World) (eg : ∀ args w, (callFunc pf args).run Tryd.prog w = .ok (.enter pf args) w) :
    Calls Tryd.prog 39 #[.slice none 0 0, .func (.func pf) #[] caps] w fun e w' => e = .returned (.slice none 0 0) ∧ Grew w w' := by
  have CI := Lib.hid (indexProps_any [] none 0 pf caps (fun _ => false) w eg (fun p hp => by cases hp) 0 0 ⟨⟨by simp, by simp, by unfold maxLen; omega⟩, fun h => by simp at h⟩ (by omega) (by simp))
  simp only [List.length_nil] at CI
  rw [show idxOf (fun _ : PropL => false) [] = -1 from rfl] at CI
  go_enter Tryd.func39, Tryd.ntmps39
  go_wp2_with fail
  refine CI.out.mono ?_
  rintro e w2 ⟨rfl, g2⟩
  go_wp2_with fail
  go_ret
  exact ⟨rfl, g2⟩

set_option maxHeartbeats 1000000 in
theorem without_any (xs ys : List PropL) (aa ba : Option Addr) (ac bc : Nat) (w : World) (ha : PropsIn w 0 w.heap.size aa ac xs) (hb : PropsIn w 0 w.heap.size ba bc ys) (hla : xs.length ≤ 1048576) (hlb : ys.length ≤ 1048576) :
    Calls Tryd.prog 34 #[.slice aa xs.length ac, .slice ba ys.length bc] w fun e w' => ∃ a c, e = .returned (.slice a (withoutP xs ys).length c) ∧ Grew w w' ∧ PropsIn w' w.heap.size w'.heap.size a c (withoutP xs ys) := by
  have CL := Lib.hid (fun w' (hg : Grew w w') => cloneProps_any aa ac xs w' _ _ (ha.grew hg (Nat.le_refl _)) hg.size hla)
  have WF := Lib.hid (fun p s w' (hg : Grew w w') => withoutFn_any ys ba bc p s w' _ _ (hb.grew hg (Nat.le_refl _)) hg.size hlb)
  go_enter Tryd.func34, Tryd.ntmps34
  go_wp2_with fail
  have g1 := Grew.alloc1 w (Obj.cells #[.slice ba ys.length bc] 22)
  have hb0 : (w.alloc (Obj.cells #[.slice ba ys.length bc] 22)).cell? ⟨w.heap.size, 0, none⟩ = some (.slice ba ys.length bc) := World.cell?_alloc_new _ _ _ _
  have hz0 : w.heap.size < (w.alloc (Obj.cells #[.slice ba ys.length bc] 22)).heap.size := by simp
  refine (CL.out _ g1).mono ?_
  generalize w.alloc (Obj.cells #[.slice ba ys.length bc] 22) = w1 at *
  rintro e w2 ⟨v, rfl, g2, hown⟩
  have g12 := g1.trans g2
  have hb2 : w2.cell? ⟨w.heap.size, 0, none⟩ = some (.slice ba ys.length bc) := (g2.cell hz0).trans hb0
  have hz2 : w.heap.size < w2.heap.size := Nat.lt_of_lt_of_le hz0 g2.size
  clear CL hb0
  rcases hown.2 with ⟨rfl, h0⟩ | ⟨g, cap, cur, rfl, hgb, hrest⟩
  · have has : xs = [] := List.length_eq_zero_iff.1 h0
    subst has
    have D := Lib.hid (deleteNil_any 41 #[.pointer (some ⟨w.heap.size, 0, none⟩)] w2 Tryd.call41)
    go_wp2_with fail
    refine D.out.mono ?_
    rintro e w3 ⟨rfl, g3⟩
    go_wp2_with fail
    go_ret
    exact ⟨none, 0, rfl, g12.trans g3, ⟨⟨by simp [withoutP], by simp [withoutP], by unfold maxLen; omega⟩, fun h => by simp [withoutP] at h⟩⟩
  · have hrow := ownRow_owned (f := fun i j => propCell (xs.getD i default) j) hown (cellsOfProps_at xs)
    have hgl : g < w2.heap.size := (hown.lt g rfl).2
    have hrow' : OwnRow w2 g (g + 1) (some ⟨g, 0, none⟩) xs.length cap 2 (fun i j => propCell (xs.getD i default) j) := by
      refine ⟨⟨hrow.1.1, fun hn => ?_⟩, hrow.2⟩
      obtain ⟨b, o, h1, _, _, h4⟩ := hrow.1.2 hn
      obtain ⟨rfl, rfl⟩ : g = b ∧ 0 = o := by injection h1 with h1; injection h1 with h2 h3; exact ⟨h2, h3⟩
      exact ⟨g, 0, rfl, Nat.le_refl _, by omega, h4⟩
    have hne : w.heap.size ≠ g := by omega
    have D := Lib.hid (deleteProps_any xs g cap 41 #[.pointer (some ⟨w.heap.size, 0, none⟩)] (hasP ys) w2 Tryd.call41 (fun p _ w3 hk => by
      have hg3 : Grew w w3 := g12.keep hk (fun x hx => by subst hx; omega)
      exact WF.out p w.heap.size w3 hg3 ((hk.cell (p := ⟨w.heap.size, 0, none⟩) hz2 (fun h => hne h)).trans hb2) (Nat.lt_of_lt_of_le hz2 hk.size)) hrow' hgl hla)
    clear hrow hrow' hown hrest
    go_wp2_with fail
    refine D.out.mono ?_
    rintro e w3 ⟨rfl, hk, hp⟩
    go_wp2_with fail
    go_ret
    exact ⟨_, _, rfl, g12.keep hk (fun x hx => by subst hx; omega), hp.mono (by omega) (by have := hk.size; omega)⟩
end Go.Proofs.YtjbfimeckplcmaaDoor
