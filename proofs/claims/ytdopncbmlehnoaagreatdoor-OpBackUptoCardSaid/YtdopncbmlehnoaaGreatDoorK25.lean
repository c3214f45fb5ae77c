/- prop.check, prop.without, prop.Diff; redlinelaw01.short, live: the contracts. -/
import Derived.Test.YtdopncbmlehnoaaGreatDoorK24
import Derived.Test.YtdopncbmlehnoaaGreatDoorK09
import Derived.OwnWalk
import Derived.Test.YtdopncbmlehnoaaGreatDoorK17
import Derived.Test.YtdopncbmlehnoaaGreatDoorK12
import Derived.Test.YtdopncbmlehnoaaGreatDoorK22
import Derived.Test.YtdopncbmlehnoaaGreatDoorK21
import Derived.Test.YtdopncbmlehnoaaGreatDoorK20
import Derived.Test.YtdopncbmlehnoaaGreatDoorK23
namespace Go.Proofs.YtdopncbmlehnoaaGreatDoor
open Go Go.RowKit

/-- a list of properties, where it lies -/
structure PP where
  a : Option Addr
  c : Nat
  ps : List PropL
instance : Inhabited PP := ⟨⟨none, 0, []⟩⟩
def PP.val (p : PP) : Value := .slice p.a p.ps.length p.c
/-- a row of lists of properties -/
def PPIn (w : World) (a : Option Addr) (c : Nat) (l : List PP) : Prop := RowIn w 0 w.heap.size a l.length c 1 (fun i _ => (l.getD i default).val) ∧ ∀ p ∈ l, PropsIn w 0 w.heap.size p.a p.c p.ps
theorem PPIn.grew {w w' : World} {a : Option Addr} {c : Nat} {l : List PP} (h : PPIn w a c l) (hg : Grew w w') : PPIn w' a c l :=
  ⟨(h.1.agree (hg.agree (Nat.le_refl _))).mono (Nat.le_refl _) hg.size, fun p hp => ((h.2 p hp).grew hg (Nat.le_refl _)).mono (Nat.le_refl _) hg.size⟩
theorem PPIn.at {w : World} {a : Option Addr} {c : Nat} {l : List PP} (h : PPIn w a c l) {j : Nat} (hj : j < l.length) : ∃ b o, a = some ⟨b, o, none⟩ ∧ w.cell? ⟨b, o + j, none⟩ = some (l.getD j default).val := by
  obtain ⟨b, o, ha, _, _, hc⟩ := h.1.2 (by omega)
  have := hc j hj 0 (by omega)
  exact ⟨b, o, ha, by simpa using this⟩
/-- the first error of lists -/
def firstBad : List (List PropL) → Int
  | [] => 0
  | x :: r => if checkPs x ≠ 0 then checkPs x else firstBad r
theorem firstBad_good {l : List (List PropL)} {k : Nat} {x : List PropL} (hx : l[k]? = some x) (h : firstBad (l.take k) = 0) (h0 : checkPs x = 0) : firstBad (l.take (k + 1)) = 0 := by
  induction l generalizing k with
  | nil => simp at hx
  | cons y r ih =>
    cases k with
    | zero =>
      obtain rfl : y = x := by simpa using hx
      simp [firstBad, h0]
    | succ k =>
      simp only [List.take_succ_cons, firstBad] at h ⊢
      by_cases h1 : checkPs y = 0
      · simp only [h1, ne_eq, not_true_eq_false, ↓reduceIte] at h ⊢
        exact ih (by simpa using hx) h
      · simp [h1] at h
theorem firstBad_bad {l : List (List PropL)} {k : Nat} {x : List PropL} (hx : l[k]? = some x) (h : firstBad (l.take k) = 0) (h0 : checkPs x ≠ 0) : firstBad l = checkPs x := by
  induction l generalizing k with
  | nil => simp at hx
  | cons y r ih =>
    cases k with
    | zero =>
      obtain rfl : y = x := by simpa using hx
      simp [firstBad, h0]
    | succ k =>
      simp only [List.take_succ_cons, firstBad] at h
      by_cases h1 : checkPs y = 0
      · simp only [h1, ne_eq, not_true_eq_false, ↓reduceIte] at h
        simp [firstBad, h1, ih (by simpa using hx) h]
      · simp [h1] at h
theorem pp_at {l : List PP} {k : Nat} (h : k < l.length) : (l.map PP.ps)[k]? = some (l.getD k default).ps := by
  rw [List.getElem?_map, List.getElem?_eq_getElem h]; simp [List.getD, List.getElem?_eq_getElem h]

set_option maxHeartbeats 1000000 in
theorem checkAll_any (l : List PP) (a : Option Addr) (c : Nat) (w : World) (h : PPIn w a c l) (hb : ∀ p ∈ l, propsBulk p.ps ≤ 1048576) (hl : l.length ≤ 1048576) :
    Calls Tryz.prog 162 #[.slice a l.length c] w fun e w' => e = .returned (.int .i64 (firstBad (l.map PP.ps))) ∧ Grew w w' := by
  go_enter Tryz.func162, Tryz.ntmps162
  go_wp2_with fail
  go_loopw [8] (fun i wr => ∃ (k : Nat), k ≤ l.length ∧ i = .int .i64 k ∧ Grew w wr ∧ Hid (firstBad ((l.map PP.ps).take k) = 0)) (fun i _ => l.length - (intOf i).toNat)
  case atStart => exact ⟨0, by omega, rfl, Grew.refl _, (show firstBad (List.take 0 _) = 0 by simp [firstBad])⟩
  case round =>
    obtain ⟨k, hk, rfl, hg, hA⟩ := hrel
    by_cases hlt : k < l.length
    · have hx := h.grew hg
      obtain ⟨b, o, rfl, c0⟩ := hx.at hlt
      have hm := getD_mem l k hlt
      have C := Lib.hid (check01_any (l.getD k default).ps (l.getD k default).a (l.getD k default).c wr _ _ (hx.2 _ hm) (Nat.le_refl _) (hb _ hm))
      have HG := Lib.hid (firstBad_good (pp_at hlt) hA.out)
      have HB := Lib.hid (firstBad_bad (pp_at hlt) hA.out)
      clear hA hx hm
      unfold PP.val at c0
      generalize l.getD k default = x at *
      by_cases hz : checkPs x.ps = 0
      · have HN := Lib.hid (HG.out hz)
        rw [hz] at C
        clear hz HG HB
        go_wp2_with fail
        refine C.out.mono ?_
        rintro e w1 ⟨rfl, g1⟩
        go_wp2_with fail
        go_roundw
        case rel => exact ⟨k + 1, by omega, by go_num, hg.trans g1, HN⟩
        case measure => simp [intOf]; omega
      · have HN := Lib.hid (HB.out hz)
        have hne : (checkPs x.ps != 0) = true := by simpa using hz
        clear HG HB
        generalize checkPs x.ps = v at *
        go_wp2_with fail
        refine C.out.mono ?_
        rintro e w1 ⟨rfl, g1⟩
        go_wp2_with fail
        go_ret
        exact ⟨ret_int HN.out.symm, hg.trans g1⟩
    · have HN : Hid (firstBad (l.map PP.ps) = 0) := by
        show _ = _
        have := hA.out
        rwa [List.take_of_length_le (by simp; omega)] at this
      have hge : l.length ≤ k := by omega
      clear hA
      go_wp2_with fail
      go_ret
      exact ⟨ret_int HN.out.symm, hg⟩

end Go.Proofs.YtdopncbmlehnoaaGreatDoor
/- prop.Diff; redlinelaw01.short, live: the contracts. -/
namespace Go.Proofs.YtdopncbmlehnoaaGreatDoor
open Go Go.RowKit

end Go.Proofs.YtdopncbmlehnoaaGreatDoor
/- prop.Patch: the contract. -/
namespace Go.Proofs.YtdopncbmlehnoaaGreatDoor
open Go Go.RowKit Go.Maps

/-- without the keys of other ones -/
def minusK (l o : List PropL) : List PropL := o.foldl (fun m p => dropK p.1 m) l
theorem minusK_snoc (l o : List PropL) (p : PropL) : minusK l (o ++ [p]) = dropK p.1 (minusK l o) := by simp [minusK]
theorem minusK_cons (l r : List PropL) (p : PropL) : minusK l (p :: r) = minusK (dropK p.1 l) r := rfl
theorem getP_minus_out {k : ByteArray} : ∀ {o l : List PropL}, k ∉ o.map (·.1) → getP k (minusK l o) = getP k l
  | [], _, _ => rfl
  | p :: r, l, h => by
    rw [List.map_cons, List.mem_cons, not_or] at h
    rw [minusK_cons, getP_minus_out h.2, getP_drop, if_neg h.1]
theorem minusK_len (l o : List PropL) : (minusK l o).length ≤ l.length := by
  induction o generalizing l with
  | nil => simp [minusK]
  | cons p r ih =>
    rw [minusK_cons]
    exact Nat.le_trans (ih _) (List.length_filter_le _ _)
theorem take_fresh {o : List PropL} (h : (o.map (·.1)).Nodup) {k : Nat} (hk : k < o.length) : (o.getD k default).1 ∉ (o.take k).map (·.1) := by
  have h1 : o = o.take k ++ o.getD k default :: o.drop (k + 1) := by
    conv => lhs; rw [← List.take_append_drop k o, drop_cons o k hk]
  rw [h1, List.map_append, List.nodup_append] at h
  intro hm
  exact h.2.2 _ hm _ (by simp) rfl
/-- what prop.Patch says -/
def patchE (l old new : List PropL) : Int :=
  if firstBad [l, old, new] ≠ 0 then firstBad [l, old, new] else if (old.all fun p => decide (getP p.1 l = some p.2)) = false then 9
  else if (new.any fun p => (getP p.1 (minusK l old)).isSome) = true then 9 else if 16 < (minusK l old ++ new).length then 2 else 0
/-- how prop.Patch ends -/
def PatchEnds (l old new : List PropL) (w : World) (e : Ending) (w' : World) : Prop :=
  ∃ a c R, e = .returned (.tuple #[.slice a R.length c, .int .i64 (patchE l old new)]) ∧ Grew w w' ∧ OwnRow w' w.heap.size w'.heap.size a R.length c 2 (fun i j => propCell (R.getD i default) j) ∧
    Hid ((patchE l old new ≠ 0 ∧ R = []) ∨ (patchE l old new = 0 ∧ IsSort R (minusK l old ++ new)))
theorem ownRow_nil {w : World} {lo hi : Nat} {f : Nat → Nat → Value} : OwnRow w lo hi none 0 0 2 f := ⟨rowIn_nil, fun h => by omega⟩
theorem patch_none {l old new : List PropL} {w w' : World} {v : Int} (h : patchE l old new = v) (hv : v ≠ 0) (hg : Grew w w') : PatchEnds l old new w (.returned (.tuple #[.slice none 0 0, .int .i64 v])) w' :=
  ⟨none, 0, [], by rw [h]; rfl, hg, ownRow_nil, Or.inl ⟨by rw [h]; exact hv, rfl⟩⟩
theorem patch_done {l old new R : List PropL} {w w' : World} {a : Option Addr} {c : Nat} (h : patchE l old new = 0) (hs : IsSort R (minusK l old ++ new)) (hg : Grew w w') (hrow : OwnRow w' w.heap.size w'.heap.size a R.length c 2 (fun i j => propCell (R.getD i default) j)) :
    PatchEnds l old new w (.returned (.tuple #[.slice a R.length c, .int .i64 0])) w' := ⟨a, c, R, by rw [h], hg, hrow, Or.inr ⟨h, hs⟩⟩
theorem firstBad_ups {l old new : List PropL} (h : firstBad [l, old, new] = 0) : Up l ∧ Up old ∧ Up new := by
  simp only [firstBad] at h
  by_cases h1 : checkPs l = 0
  · by_cases h2 : checkPs old = 0
    · by_cases h3 : checkPs new = 0
      · exact ⟨up_of_check h1, up_of_check h2, up_of_check h3⟩
      · simp [h1, h2, h3] at h
    · simp [h1, h2] at h
  · simp [h1] at h
theorem pp_three (w : World) (x y z : PP) (t : TypeId) (hx : PropsIn w 0 w.heap.size x.a x.c x.ps) (hy : PropsIn w 0 w.heap.size y.a y.c y.ps) (hz : PropsIn w 0 w.heap.size z.a z.c z.ps) : PPIn (w.alloc (.cells #[x.val, y.val, z.val] t)) (some ⟨w.heap.size, 0, none⟩) 3 [x, y, z] := by
  have hg := Grew.alloc1 w (.cells #[x.val, y.val, z.val] t)
  refine ⟨⟨⟨by simp, by simp, by unfold maxLen; omega⟩, fun _ => ⟨w.heap.size, 0, rfl, Nat.zero_le _, by simp, fun i hi j hj => ?_⟩⟩, fun p hp => ?_⟩
  · obtain rfl : j = 0 := by omega
    match i, hi with
    | 0, _ => exact World.cell?_alloc_new _ _ _ _
    | 1, _ => exact World.cell?_alloc_new _ _ _ _
    | 2, _ => exact World.cell?_alloc_new _ _ _ _
  · rcases List.mem_cons.1 hp with rfl | hp
    · exact (hx.grew hg (Nat.le_refl _)).mono (Nat.le_refl _) hg.size
    · rcases List.mem_cons.1 hp with rfl | hp
      · exact (hy.grew hg (Nat.le_refl _)).mono (Nat.le_refl _) hg.size
      · obtain rfl : p = z := by simpa using hp
        exact (hz.grew hg (Nat.le_refl _)).mono (Nat.le_refl _) hg.size

theorem wp_look_is {w : World} {ops : Array Oper} {rest : List Oper} {o : Oper} {a : Act} {Q : Exit → Act → World → Prop} (hg : o.guard = none) (m x : Operand) (hop : o.op = Op.lookup 162 m x true) (B n : Nat) (ms : List PropL) (hm : a.eval m = .map (some B)) (h : MapIs w B n ms) (k : ByteArray) (hx : a.eval x = .string k) (hk : k.size ≤ 1048576) (r : Option ByteArray) (hr : getP k ms = r)
    (hK : wpList Tryz.prog ops Q rest (a.put o.dst (.tuple #[.string (r.getD .empty), .bool r.isSome])) w) : wpList Tryz.prog ops Q (o :: rest) a w :=
  wp_look w hg m x hop B n ms hm h k hx hk (by rw [hr]; exact hK)

theorem nodup_keys_perm {a b : List PropL} (h : a.Perm b) (hn : (b.map (·.1)).Nodup) : (a.map (·.1)).Nodup := (h.map _).nodup_iff.2 hn
theorem props_cells (w : World) (p : PropL) (t : TypeId) : RowIn (w.alloc (.cells #[.string p.1, .string p.2] t)) w.heap.size (w.heap.size + 1) (some ⟨w.heap.size, 0, none⟩) 1 1 2 (fun i j => propCell ([p].getD i default) j) := by
  refine ⟨⟨by simp, by omega, by unfold maxLen; omega⟩, fun _ => ⟨w.heap.size, 0, rfl, Nat.le_refl _, by omega, fun i hi j hj => ?_⟩⟩
  obtain rfl : i = 0 := by omega
  match j, hj with
  | 0, _ => exact World.cell?_alloc_new _ _ _ _
  | 1, _ => exact World.cell?_alloc_new _ _ _ _

set_option maxHeartbeats 4000000 in
theorem patch_any (l old new : List PropL) (la oa na : Option Addr) (lc oc nc : Nat) (w : World) (hl : PropsIn w 0 w.heap.size la lc l) (ho : PropsIn w 0 w.heap.size oa oc old) (hn : PropsIn w 0 w.heap.size na nc new) (hlb : propsBulk l ≤ 1048576) (hob : propsBulk old ≤ 1048576) (hnb : propsBulk new ≤ 1048576) :
    Calls Tryz.prog 137 #[.slice la l.length lc, .slice oa old.length oc, .slice na new.length nc] w (PatchEnds l old new w) := by
  have ll := propsBulk_len l
  have lo := propsBulk_len old
  have ln := propsBulk_len new
  have lg := fun w' (hg : Grew w w') => ((hl.grew hg (Nat.le_refl _)).mono (Nat.le_refl _) hg.size : PropsIn w' 0 w'.heap.size la lc l)
  have og := fun w' (hg : Grew w w') => ((ho.grew hg (Nat.le_refl _)).mono (Nat.le_refl _) hg.size : PropsIn w' 0 w'.heap.size oa oc old)
  have ng := fun w' (hg : Grew w w') => ((hn.grew hg (Nat.le_refl _)).mono (Nat.le_refl _) hg.size : PropsIn w' 0 w'.heap.size na nc new)
  have CA := Lib.hid (fun w' (hg : Grew w w') t => checkAll_any [⟨la, lc, l⟩, ⟨oa, oc, old⟩, ⟨na, nc, new⟩] (some ⟨w'.heap.size, 0, none⟩) 3 _ (pp_three w' ⟨la, lc, l⟩ ⟨oa, oc, old⟩ ⟨na, nc, new⟩ t (lg w' hg) (og w' hg) (ng w' hg)) (by
    intro p hp
    rcases List.mem_cons.1 hp with rfl | hp
    · exact hlb
    · rcases List.mem_cons.1 hp with rfl | hp
      · exact hob
      · obtain rfl : p = ⟨na, nc, new⟩ := by simpa using hp
        exact hnb) (by simp))
  simp only [PP.val, List.map_cons, List.map_nil, List.length_cons, List.length_nil] at CA
  have SL := Lib.hid (fun j hj => props_str (k := j) hlb hj)
  have SO := Lib.hid (fun j hj => props_str (k := j) hob hj)
  have SN := Lib.hid (fun j hj => props_str (k := j) hnb hj)
  by_cases hz : firstBad [l, old, new] = 0
  · obtain ⟨ul, uo, un⟩ := firstBad_ups hz
    have HE : Hid (patchE l old new = if (old.all fun p => decide (getP p.1 l = some p.2)) = false then 9 else if (new.any fun p => (getP p.1 (minusK l old)).isSome) = true then 9 else if 16 < (minusK l old ++ new).length then 2 else 0) := by
      show _ = _
      unfold patchE
      rw [hz]
      simp
    rw [hz] at CA
    clear hz
    have FL := Lib.hid (fun k hk => take_fresh ul.nodup (k := k) hk)
    have FO := Lib.hid (fun k hk => take_fresh uo.nodup (k := k) hk)
    have FN := Lib.hid (fun k hk => take_fresh un.nodup (k := k) hk)
    have hmm := @run_makeMap Tryz.prog
    go_enter Tryz.func137, Tryz.ntmps137
    go_wp2_with fail
    refine (CA.out w (Grew.refl _) _).mono ?_
    rintro e w1 ⟨rfl, g1⟩
    have g1' := (Grew.alloc1 _ _).trans g1
    clear CA
    go_wp2_with fail
    have hM0 := MapIs.made w1
    have g2' := g1'.trans (Grew.alloc1 w1 (.map #[] 0))
    have hB : w.heap.size ≤ w1.heap.size := g1'.size
    generalize w1.alloc (.map #[] 0) = w2 at *
    go_loopw [34] (fun i wr => ∃ (k : Nat), k ≤ l.length ∧ i = .int .i64 k ∧ Grew w wr ∧ MapIs wr w1.heap.size k (l.take k)) (fun i _ => l.length - (intOf i).toNat)
    case atStart => exact ⟨0, by omega, rfl, g2', by simpa using hM0⟩
    case round =>
      clear hM0 g2'
      obtain ⟨k, hk, rfl, hg, hM⟩ := hrel
      by_cases hlt : k < l.length
      · obtain ⟨b, o, rfl, _, hbh, c0, c1⟩ := (hl.grew hg (Nat.le_refl _)).at hlt
        have hs := SL.out k hlt
        have hno := getP_none.2 (FL.out k hlt)
        have HT := Lib.hid (take_next l k hlt)
        clear lg og ng SO SN FO FN HE
        generalize l.getD k default = p at *
        go_wp2_with (at_mapUpdate; refine wp_store _ rfl _ _ _ rfl w1.heap.size k (l.take k) rfl (hM.grew (Grew.alloc1 _ _)) (by unfold maxLen; omega) p rfl rfl hs.1 hs.2 hno ?_; intro w3 hM3 hg3)
        go_roundw
        case rel => exact ⟨k + 1, by omega, by go_num, (hg.trans (Grew.alloc1 _ _)).grown hg3 (fun j hj => by cases hj; exact hB), by rw [HT.out]; exact hM3⟩
        case measure => simp [intOf]; omega
      · obtain rfl : k = l.length := by omega
        rw [List.take_length] at hM
        obtain ⟨w3, hw3⟩ : ∃ w3, w3 = wr := ⟨_, rfl⟩
        rw [← hw3] at hg hM ⊢
        clear hw3
        go_wp2_with fail
        go_loopw [46] (fun i wr => ∃ (k : Nat), k ≤ old.length ∧ i = .int .i64 k ∧ Grew w wr ∧ MapIs wr w1.heap.size l.length (minusK l (old.take k)) ∧ Hid ((old.take k).all (fun p => decide (getP p.1 l = some p.2)) = true)) (fun i _ => old.length - (intOf i).toNat)
        case atStart => exact ⟨0, by omega, rfl, hg, by simpa [minusK] using hM, (show List.all (List.take 0 old) _ = true by simp)⟩
        case round =>
          clear hM hg
          obtain ⟨k, hk, rfl, hg, hM, hall⟩ := hrel
          by_cases hlt : k < old.length
          · obtain ⟨b, o, rfl, _, hbh, c0, c1⟩ := (ho.grew hg (Nat.le_refl _)).at hlt
            have hs := SO.out k hlt
            have hno := getP_minus_out (l := l) (FO.out k hlt)
            have HT : Hid (minusK l (old.take (k + 1)) = dropK (old.getD k default).1 (minusK l (old.take k))) := by show _ = _; rw [take_next old k hlt, minusK_snoc]
            have HA : Hid (getP (old.getD k default).1 l = some (old.getD k default).2 → (old.take (k + 1)).all (fun p => decide (getP p.1 l = some p.2)) = true) := fun h => by
              rw [take_next old k hlt, List.all_append, hall.out]
              simpa using h
            have HB : Hid (getP (old.getD k default).1 l ≠ some (old.getD k default).2 → patchE l old new = 9) := fun h => by
              rw [HE.out, if_pos]
              rw [List.all_eq_false]
              exact ⟨_, getD_mem old k hlt, by simpa using h⟩
            clear lg og ng SN FO FN HE SO hall
            generalize old.getD k default = p at *
            cases hr : getP p.1 l with
            | none =>
              rw [hr] at hno
              have HC := Lib.hid (HB.out (by rw [hr]; simp))
              clear HA HB hr
              go_wp2_with (at_lookup; refine wp_look_is rfl _ _ rfl w1.heap.size l.length (minusK l (old.take k)) rfl (hM.grew (Grew.alloc1 _ _)) p.1 rfl hs.1 none hno ?_)
              go_ret2
              exact patch_none HC.out (by decide) (hg.trans (Grew.alloc1 _ _))
            | some v =>
              rw [hr] at hno
              by_cases hv : v = p.2
              · subst hv
                have HC := Lib.hid (HA.out hr)
                have ht : (p.2.toList == p.2.toList) = true := by simp
                clear HA HB hr
                go_wp2_with (first | (at_lookup; refine wp_look_is rfl _ _ rfl w1.heap.size l.length (minusK l (old.take k)) rfl (hM.grew (Grew.alloc1 _ _)) p.1 rfl hs.1 (some p.2) hno ?_) | (at_delete; refine wp_drop _ rfl _ _ rfl w1.heap.size l.length (minusK l (old.take k)) rfl (hM.grew (Grew.alloc1 _ _)) p.1 rfl hs.1 ?_; intro w4 hM4 hg4))
                go_roundw
                case rel => exact ⟨k + 1, by omega, by go_num, (hg.trans (Grew.alloc1 _ _)).grown hg4 (fun j hj => by cases hj; exact hB), by rw [HT.out]; exact hM4, HC⟩
                case measure => simp [intOf]; omega
              · have HC := Lib.hid (HB.out (by rw [hr]; simpa using hv))
                have ht : (v.toList == p.2.toList) = false := by rw [toList_beq]; simpa using hv
                clear HA HB hr hv
                go_wp2_with (at_lookup; refine wp_look_is rfl _ _ rfl w1.heap.size l.length (minusK l (old.take k)) rfl (hM.grew (Grew.alloc1 _ _)) p.1 rfl hs.1 (some v) hno ?_)
                go_ret2
                exact patch_none HC.out (by decide) (hg.trans (Grew.alloc1 _ _))
          · obtain rfl : k = old.length := by omega
            rw [List.take_length] at hM hall
            have HE2 : Hid (patchE l old new = if (new.any fun p => (getP p.1 (minusK l old)).isSome) = true then 9 else if 16 < (minusK l old ++ new).length then 2 else 0) := by
              show _ = _
              rw [HE.out, hall.out]; rfl
            have hml := minusK_len l old
            obtain ⟨w4, hw4⟩ : ∃ w4, w4 = wr := ⟨_, rfl⟩
            rw [← hw4] at hg hM ⊢
            clear hw4 HE hall FO SO
            go_wp2_with fail
            go_loopw [71] (fun i wr => ∃ (k : Nat), k ≤ new.length ∧ i = .int .i64 k ∧ Grew w wr ∧ MapIs wr w1.heap.size (l.length + k) (minusK l old ++ new.take k) ∧ Hid ((new.take k).any (fun p => (getP p.1 (minusK l old)).isSome) = false)) (fun i _ => new.length - (intOf i).toNat)
            case atStart => exact ⟨0, by omega, rfl, hg, by simpa using hM, (show List.any (List.take 0 new) _ = false by simp)⟩
            case round =>
              clear hM hg
              obtain ⟨k, hk, rfl, hg, hM, hall⟩ := hrel
              by_cases hlt : k < new.length
              · obtain ⟨b, o, rfl, _, hbh, c0, c1⟩ := (hn.grew hg (Nat.le_refl _)).at hlt
                have hs := SN.out k hlt
                have hno : getP (new.getD k default).1 (minusK l old ++ new.take k) = getP (new.getD k default).1 (minusK l old) := by
                  rw [getP_append, getP_none.2 (FN.out k hlt)]
                  simp
                have HT : Hid (minusK l old ++ new.take (k + 1) = (minusK l old ++ new.take k) ++ [new.getD k default]) := by show _ = _; rw [take_next new k hlt, List.append_assoc]
                have HA : Hid (getP (new.getD k default).1 (minusK l old) = none → (new.take (k + 1)).any (fun p => (getP p.1 (minusK l old)).isSome) = false) := fun h => by
                  rw [take_next new k hlt, List.any_append, hall.out, Bool.false_or, List.any_cons, List.any_nil, Bool.or_false, h]
                  rfl
                have HB : Hid ((getP (new.getD k default).1 (minusK l old)).isSome = true → patchE l old new = 9) := fun h => by
                  rw [HE2.out, if_pos]
                  rw [List.any_eq_true]
                  exact ⟨_, getD_mem new k hlt, h⟩
                clear lg og ng FN HE2 SN hall
                generalize new.getD k default = p at *
                cases hr : getP p.1 (minusK l old) with
                | none =>
                  rw [hr] at hno
                  have HC := Lib.hid (HA.out hr)
                  clear HA HB hr
                  go_wp2_with (first | (at_lookup; refine wp_look_is rfl _ _ rfl w1.heap.size (l.length + k) (minusK l old ++ new.take k) rfl (hM.grew (Grew.alloc1 _ _)) p.1 rfl hs.1 none hno ?_) | (at_mapUpdate; refine wp_store _ rfl _ _ _ rfl w1.heap.size (l.length + k) (minusK l old ++ new.take k) rfl (hM.grew (Grew.alloc1 _ _)) (by unfold maxLen; omega) p rfl rfl hs.1 hs.2 hno ?_; intro w5 hM5 hg5))
                  go_roundw
                  case rel => exact ⟨k + 1, by omega, by go_num, (hg.trans (Grew.alloc1 _ _)).grown hg5 (fun j hj => by cases hj; exact hB), by rw [HT.out]; exact hM5, HC⟩
                  case measure => simp [intOf]; omega
                | some v =>
                  rw [hr] at hno
                  have HC := Lib.hid (HB.out (by rw [hr]; rfl))
                  clear HA HB hr
                  go_wp2_with (at_lookup; refine wp_look_is rfl _ _ rfl w1.heap.size (l.length + k) (minusK l old ++ new.take k) rfl (hM.grew (Grew.alloc1 _ _)) p.1 rfl hs.1 (some v) hno ?_)
                  go_ret2
                  exact patch_none HC.out (by decide) (hg.trans (Grew.alloc1 _ _))
              · obtain rfl : k = new.length := by omega
                rw [List.take_length] at hM hall
                have HE3 : Hid (patchE l old new = if 16 < (minusK l old ++ new).length then 2 else 0) := by
                  show _ = _
                  rw [HE2.out, hall.out]; rfl
                have hms : (minusK l old ++ new).length ≤ l.length + new.length := by rw [List.length_append]; omega
                obtain ⟨w5, hw5⟩ : ∃ w5, w5 = wr := ⟨_, rfl⟩
                rw [← hw5] at hg hM ⊢
                clear hw5 HE2 hall FN SN lg og ng
                have hkeys := hM.keys
                generalize hmsq : minusK l old ++ new = ms at *
                have HMS := Lib.hid hmsq
                clear hmsq
                by_cases h16 : 16 < ms.length
                · have HC : Hid (patchE l old new = 2) := by show _ = _; rw [HE3.out, if_pos h16]
                  go_wp2_with (at_len; refine wp_len _ rfl _ rfl w1.heap.size (l.length + new.length) ms rfl hM ?_)
                  go_ret2
                  exact patch_none HC.out (by decide) hg
                · have HC : Hid (patchE l old new = 0) := by show _ = _; rw [HE3.out, if_neg h16]
                  clear HE3
                  go_wp2_with (first | (at_len; refine wp_len _ rfl _ rfl w1.heap.size (l.length + new.length) ms rfl hM ?_) | (at_range; refine wp_range _ rfl _ rfl w1.heap.size (l.length + new.length) ms rfl hM ?_; intro w6 cnt hR hg6; go_frame))
                  have hBr : w1.heap.size < w5.heap.size := hM.lt
                  have hg0 := hg.trans hg6
                  clear hM hg6
                  go_loopw [20] (fun v wr => ∃ (cnt : Nat) (got : List PropL), RangeIs wr w1.heap.size w5.heap.size (l.length + new.length) ms got cnt ∧ wr.ownsRow (w5.heap.size + 1) 103 2 v got.length (cellsOfProps got) ∧ Grew w wr) (fun _ wr => wr.rangeLeft w1.heap.size w5.heap.size)
                  case atStart => exact ⟨cnt, [], hR, World.ownsRow_nil _ _ _ _, hg0⟩
                  case round =>
                    clear hR hg0
                    obtain ⟨cnt, got, hR, hown, hg0⟩ := hrel
                    have hlen := hR.len
                    have hmeas := hR.measure
                    have hlo := hown.lt
                    obtain ⟨va, vc, rfl⟩ := owned_shape hown
                    go_wp2_with (at_next; refine wp_next _ rfl _ rfl w1.heap.size w5.heap.size (l.length + new.length) cnt ms got rfl hR ?_ ?_)
                    · intro hperm
                      have hSort := Lib.hid (sortProps_any got (.slice va got.length vc) (w5.heap.size + 1) wr hown (nodup_keys_perm hperm hkeys) (by omega))
                      clear hR hown
                      go_wp2_with fail
                      refine hSort.out.mono ?_
                      rintro e w8 ⟨rfl, hk8, R, a8, c8, hv8, hRS, hrow⟩
                      have hz8 := hk8.size
                      have hz5 := hg0.size
                      simp only [Value.slice.injEq] at hv8
                      obtain ⟨rfl, e2, rfl⟩ := hv8
                      go_wp2_with fail
                      go_ret2
                      have hrow' : OwnRow w8 w.heap.size w8.heap.size va R.length vc 2 (fun i j => propCell (R.getD i default) j) := ⟨hrow.1.mono (by have := hg.size; omega) (Nat.le_refl _), hrow.2⟩
                      have g8 := hg0.keep hk8 (fun j hj => by
                        have h1 := (hlo j hj).1
                        have h2 := hg.size
                        omega)
                      exact patch_done HC.out (by rw [HMS.out]; exact ⟨hRS.1.trans hperm, hRS.2⟩) g8 hrow'
                    · intro x c w7 cnt' hR7 hlt7 hp hg7 hen
                      have hown7 := hown.kept hg7 (Or.inr (fun h => by have := hlo _ h; omega))
                      have hz7 := hg7.size
                      have hsz7 : w7.heap.size ≥ w5.heap.size + 1 := by have := hR7.lt; omega
                      clear hown hR
                      have hg7' := hg0.grown hg7 (fun j hj => by cases hj; have := hg.size; omega)
                      have HC := props_cells w7 (x, c) 103
                      simp only at HC
                      have hb5 : w5.heap.size + 1 ≤ (w7.alloc (Obj.cells #[.string x, .string c] 103)).heap.size := by rw [World.size_alloc]; omega
                      go_wp2_with (at_builtin; refine wpList_append_row rfl (.tmp 99) (.tmp 103) 22 rfl (w5.heap.size + 1) 103 Tryz.underlying22 infoPropC rfl (by decide) (.slice va got.length vc) got.length (cellsOfProps got) rfl (ownsRow_grew hown7 (Grew.alloc1 _ _)) (some ⟨w7.heap.size, 0, none⟩) 1 1 w7.heap.size (w7.heap.size + 1) _ rfl HC (cellsOfProps [(x, c)]) (cellsOfProps_len [(x, c)]) (cellsOfProps_at [(x, c)]) (cellsOfProps_one [(x, c)]) (by unfold maxLen; omega) (by omega) hb5 ?_; intro v' w9 hown9 hg9 hb9; obtain ⟨va', vc', rfl⟩ := owned_shape hown9)
                      have hR9 := (hR7.kept (World.grownBy_alloc w7 (Obj.cells #[.string x, .string c] 103) none) (by simp) (by simp)).kept hg9 (fun h => by have := hlo _ h.symm; omega) (fun h => by have := hlo _ h.symm; omega)
                      go_roundw
                      case rel => exact ⟨cnt', got ++ [(x, c)], hR9, by simpa [cellsOfProps] using hown9, (hg7'.alloc _).grown hg9 (fun j hj => by have := hlo j hj; have := hg.size; omega)⟩
                      case measure => rw [hR9.measure, hmeas]; exact hlt7
  · have HE : Hid (patchE l old new = firstBad [l, old, new]) := by
      show _ = _
      unfold patchE
      rw [if_pos hz]
    have hne : (firstBad [l, old, new] != 0) = true := by simpa using hz
    have HZ := Lib.hid hz
    clear hz
    generalize firstBad [l, old, new] = v at *
    go_enter Tryz.func137, Tryz.ntmps137
    go_wp2_with fail
    refine (CA.out w (Grew.refl _) _).mono ?_
    rintro e w1 ⟨rfl, g1⟩
    have g1' := (Grew.alloc1 _ _).trans g1
    go_wp2_with fail
    go_ret2
    exact patch_none HE.out HZ.out g1'
end Go.Proofs.YtdopncbmlehnoaaGreatDoor
/- AN OPERATION DONE ON A TREE, WITH A SELECTION: plain. -/
namespace Go.Proofs.YtdopncbmlehnoaaGreatDoor
open Go Go.RowKit

noncomputable def patchT (l old new : List PropL) : List PropL × Int := (if patchE l old new = 0 then Classical.epsilon (fun R => IsSort R (minusK l old ++ new)) else [], patchE l old new)
theorem patchT_is {l old new R : List PropL} (h : (patchE l old new ≠ 0 ∧ R = []) ∨ (patchE l old new = 0 ∧ IsSort R (minusK l old ++ new))) : R = (patchT l old new).1 := by
  unfold patchT
  rcases h with ⟨h1, h2⟩ | ⟨h1, h2⟩
  · rw [if_neg h1]; exact h2
  · rw [if_pos h1]
    exact h2.unique (Classical.epsilon_spec (p := fun R => IsSort R (minusK l old ++ new)) ⟨R, h2⟩)
def T.len (t : T) : Nat := if t.lf = true then t.ts.length else t.ks.length
def mergedT (rest k : T) (o : OpE) : T × Int :=
  if (backP o.path).2 ≠ 0 then (T.nilT, 8)
  else match rest.at (backP o.path).1 with
  | none => (T.nilT, 5)
  | some x => if x.lf ≠ k.lf then (T.nilT, 7) else if (x.len : Int) ≠ o.pos then (T.nilT, 8) else if k.ps ≠ o.old then (T.nilT, 9)
    else putTr rest (backP o.path).1 (.mk x.lf x.ps (x.ts ++ k.ts) (x.ks ++ k.ks))
def T.first (k : T) (i : Nat) : T := if k.lf = true then .mk true k.ps (k.ts.take i) k.ks else .mk false k.ps k.ts (k.ks.take i)
def T.second (k : T) (i : Nat) (new : List PropL) : T := if k.lf = true then .mk true new (k.ts.drop i) [] else .mk false new [] (k.ks.drop i)
def splitT (rest k : T) (o : OpE) : T × Int :=
  if o.pos < 0 ∨ (k.len : Int) < o.pos then (T.nilT, 8)
  else if (addT rest o.path (k.second o.pos.toNat o.new)).2 ≠ 0 then (T.nilT, (addT rest o.path (k.second o.pos.toNat o.new)).2)
  else addT (addT rest o.path (k.second o.pos.toNat o.new)).1 o.path (k.first o.pos.toNat)
noncomputable def contentT (n : T) (o : OpE) : T × Int :=
  if o.kind = 6 ∧ o.path.length = 0 then (T.nilT, 6)
  else match n.at o.path with
  | none => (T.nilT, 5)
  | some k =>
    if o.kind = 6 then (if (patchT k.ps o.old o.new).2 ≠ 0 then (T.nilT, (patchT k.ps o.old o.new).2) else putTr n o.path (.mk k.lf (patchT k.ps o.old o.new).1 k.ts k.ks))
    else if k.lf = false then (T.nilT, 7)
    else if o.kind = 7 then (if (insertR k.ts o.pos o.text).2 ≠ 0 then (T.nilT, (insertR k.ts o.pos o.text).2) else putTr n o.path (.mk k.lf k.ps (insertR k.ts o.pos o.text).1 k.ks))
    else (if (removeR k.ts o.pos o.text).2 ≠ 0 then (T.nilT, (removeR k.ts o.pos o.text).2) else putTr n o.path (.mk k.lf k.ps (removeR k.ts o.pos o.text).1 k.ks))
noncomputable def shapedT (n : T) (o : OpE) : T × Int :=
  if o.kind = 1 then (if o.node.chk ≠ 0 then (T.nilT, o.node.chk) else addT n o.path o.node)
  else if o.kind = 4 ∧ checkPs o.new ≠ 0 then (T.nilT, checkPs o.new)
  else if (o.kind = 2 ∨ o.kind = 3 ∨ o.kind = 4 ∨ o.kind = 5) ∧ (cutT n o.path).2.2 ≠ 0 then (T.nilT, (cutT n o.path).2.2)
  else if o.kind = 2 then (if (cutT n o.path).2.1 = o.node then ((cutT n o.path).1, 0) else (T.nilT, 9))
  else if o.kind = 3 then mergedT (cutT n o.path).1 (cutT n o.path).2.1 o
  else if o.kind = 4 then splitT (cutT n o.path).1 (cutT n o.path).2.1 o
  else if o.kind = 5 then addT (cutT n o.path).1 o.dest (cutT n o.path).2.1
  else contentT n o
def stayP (p : PtE) (o : OpE) : Bool := (ptMoveE p o 1).2 && sameP p (ptMoveE p o 1).1
noncomputable def staysT (s : SelE) (o : OpE) : Bool := !s.is || (stayP s.a o && stayP s.a (invT o).1 && stayP s.f o && stayP s.f (invT o).1 && decide ((invT o).2 = 0))
noncomputable def mayT (n : T) (s : SelE) (o : OpE) : Int := if n.chk ≠ 0 then n.chk else if n.lf = true then 7 else if checkSelT n s ≠ 0 then checkSelT n s else formT o
noncomputable def applyT (n : T) (s : SelE) (o : OpE) : T × SelE × Int :=
  if mayT n s o ≠ 0 then (T.nilT, SelE.nil, mayT n s o)
  else if o.kind = 9 then (if sameSelP s o.src = false then (T.nilT, SelE.nil, 9) else if checkSelT n o.dst ≠ 0 then (T.nilT, SelE.nil, checkSelT n o.dst) else (n, o.dst, 0))
  else if (shapedT n o).2 ≠ 0 then (T.nilT, SelE.nil, (shapedT n o).2)
  else if staysT s o = false then (T.nilT, SelE.nil, 10)
  else ((shapedT n o).1, s, 0)
end Go.Proofs.YtdopncbmlehnoaaGreatDoor
