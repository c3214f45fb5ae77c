/- prop.Patch: the contract. -/
import Derived.Test.YtbhbekocmpmjfaaGreatDoorK20
import Derived.Test.YtbhbekocmpmjfaaGreatDoorK02
import Derived.Test.YtbhbekocmpmjfaaGreatDoorK21
import Derived.Test.YtbhbekocmpmjfaaGreatDoorK16
import Derived.Test.YtbhbekocmpmjfaaGreatDoorK17
import Derived.Test.YtbhbekocmpmjfaaGreatDoorK19
import Derived.Test.YtbhbekocmpmjfaaGreatDoorK11
import Derived.Test.YtbhbekocmpmjfaaGreatDoorK10
import Derived.Test.YtbhbekocmpmjfaaGreatDoorK08
import Derived.Test.YtbhbekocmpmjfaaGreatDoorK12
namespace Go.Proofs.YtbhbekocmpmjfaaGreatDoor
open Go Go.RowKit Go.Maps

/-- without the keys of other ones -/
def minusK (l o : List PropL) : List PropL := o.foldl (fun m p => dropK p.1 m) l
theorem minusK_snoc (l o : List PropL) (p : PropL) : minusK l (o ++ [p]) = dropK p.1 (minusK l o) := by simp [minusK]
theorem minusK_cons (l r : List PropL) (p : PropL) : minusK l (p :: r) = minusK (dropK p.1 l) r := rfl
theorem getP_minus_out {k : ByteArray} : ∀ {o l : List PropL}, k ∉ o.map (·.1) → getP k (minusK l o) = getP k l
  | [], _, _ => rfl
  | p :: r, l, h => by
    rw [List.map_cons, List.mem_cons, not_or] at h
    rw [minusK_cons, getP_minus_out h.2, getP_drop, if_neg h.1]
theorem minusK_len (l o : List PropL) : (minusK l o).length ≤ l.length := by
  induction o generalizing l with
  | nil => simp [minusK]
  | cons p r ih =>
    rw [minusK_cons]
    exact Nat.le_trans (ih _) (List.length_filter_le _ _)
theorem take_fresh {o : List PropL} (h : (o.map (·.1)).Nodup) {k : Nat} (hk : k < o.length) : (o.getD k default).1 ∉ (o.take k).map (·.1) := by
  have h1 : o = o.take k ++ o.getD k default :: o.drop (k + 1) := by
    conv => lhs; rw [← List.take_append_drop k o, drop_cons o k hk]
  rw [h1, List.map_append, List.nodup_append] at h
  intro hm
  exact h.2.2 _ hm _ (by simp) rfl
/-- what prop.Patch says -/
def patchE (l old new : List PropL) : Int :=
  if firstBad [l, old, new] ≠ 0 then firstBad [l, old, new] else if (old.all fun p => decide (getP p.1 l = some p.2)) = false then 9
  else if (new.any fun p => (getP p.1 (minusK l old)).isSome) = true then 9 else if 16 < (minusK l old ++ new).length then 2 else 0
/-- how prop.Patch ends -/
def PatchEnds (l old new : List PropL) (w : World) (e : Ending) (w' : World) : Prop :=
  ∃ a c R, e = .returned (.tuple #[.slice a R.length c, .int .i64 (patchE l old new)]) ∧ Grew w w' ∧ OwnRow w' w.heap.size w'.heap.size a R.length c 2 (fun i j => propCell (R.getD i default) j) ∧
    Hid ((patchE l old new ≠ 0 ∧ R = []) ∨ (patchE l old new = 0 ∧ IsSort R (minusK l old ++ new)))
theorem ownRow_nil {w : World} {lo hi : Nat} {f : Nat → Nat → Value} : OwnRow w lo hi none 0 0 2 f := ⟨rowIn_nil, fun h => by omega⟩
theorem patch_none {l old new : List PropL} {w w' : World} {v : Int} (h : patchE l old new = v) (hv : v ≠ 0) (hg : Grew w w') : PatchEnds l old new w (.returned (.tuple #[.slice none 0 0, .int .i64 v])) w' :=
  ⟨none, 0, [], by rw [h]; rfl, hg, ownRow_nil, Or.inl ⟨by rw [h]; exact hv, rfl⟩⟩
theorem patch_done {l old new R : List PropL} {w w' : World} {a : Option Addr} {c : Nat} (h : patchE l old new = 0) (hs : IsSort R (minusK l old ++ new)) (hg : Grew w w') (hrow : OwnRow w' w.heap.size w'.heap.size a R.length c 2 (fun i j => propCell (R.getD i default) j)) :
    PatchEnds l old new w (.returned (.tuple #[.slice a R.length c, .int .i64 0])) w' := ⟨a, c, R, by rw [h], hg, hrow, Or.inr ⟨h, hs⟩⟩
theorem firstBad_ups {l old new : List PropL} (h : firstBad [l, old, new] = 0) : Up l ∧ Up old ∧ Up new := by
  simp only [firstBad] at h
  by_cases h1 : checkPs l = 0
  · by_cases h2 : checkPs old = 0
    · by_cases h3 : checkPs new = 0
      · exact ⟨up_of_check h1, up_of_check h2, up_of_check h3⟩
      · simp [h1, h2, h3] at h
    · simp [h1, h2] at h
  · simp [h1] at h
theorem pp_three (w : World) (x y z : PP) (t : TypeId) (hx : PropsIn w 0 w.heap.size x.a x.c x.ps) (hy : PropsIn w 0 w.heap.size y.a y.c y.ps) (hz : PropsIn w 0 w.heap.size z.a z.c z.ps) : PPIn (w.alloc (.cells #[x.val, y.val, z.val] t)) (some ⟨w.heap.size, 0, none⟩) 3 [x, y, z] := by
  have hg := Grew.alloc1 w (.cells #[x.val, y.val, z.val] t)
  refine ⟨⟨⟨by simp, by simp, by unfold maxLen; omega⟩, fun _ => ⟨w.heap.size, 0, rfl, Nat.zero_le _, by simp, fun i hi j hj => ?_⟩⟩, fun p hp => ?_⟩
  · obtain rfl : j = 0 := by omega
    match i, hi with
    | 0, _ => exact World.cell?_alloc_new _ _ _ _
    | 1, _ => exact World.cell?_alloc_new _ _ _ _
    | 2, _ => exact World.cell?_alloc_new _ _ _ _
  · rcases List.mem_cons.1 hp with rfl | hp
    · exact (hx.grew hg (Nat.le_refl _)).mono (Nat.le_refl _) hg.size
    · rcases List.mem_cons.1 hp with rfl | hp
      · exact (hy.grew hg (Nat.le_refl _)).mono (Nat.le_refl _) hg.size
      · obtain rfl : p = z := by simpa using hp
        exact (hz.grew hg (Nat.le_refl _)).mono (Nat.le_refl _) hg.size

theorem wp_look_is {w : World} {ops : Array Oper} {rest : List Oper} {o : Oper} {a : Act} {Q : Exit → Act → World → Prop} (hg : o.guard = none) (m x : Operand) (hop : o.op = Op.lookup 213 m x true) (B n : Nat) (ms : List PropL) (hm : a.eval m = .map (some B)) (h : MapIs w B n ms) (k : ByteArray) (hx : a.eval x = .string k) (hk : k.size ≤ 1048576) (r : Option ByteArray) (hr : getP k ms = r)
    (hK : wpList Tryz.prog ops Q rest (a.put o.dst (.tuple #[.string (r.getD .empty), .bool r.isSome])) w) : wpList Tryz.prog ops Q (o :: rest) a w :=
  wp_look w hg m x hop B n ms hm h k hx hk (by rw [hr]; exact hK)

theorem nodup_keys_perm {a b : List PropL} (h : a.Perm b) (hn : (b.map (·.1)).Nodup) : (a.map (·.1)).Nodup := (h.map _).nodup_iff.2 hn
theorem props_cells (w : World) (p : PropL) (t : TypeId) : RowIn (w.alloc (.cells #[.string p.1, .string p.2] t)) w.heap.size (w.heap.size + 1) (some ⟨w.heap.size, 0, none⟩) 1 1 2 (fun i j => propCell ([p].getD i default) j) := by
  refine ⟨⟨by simp, by omega, by unfold maxLen; omega⟩, fun _ => ⟨w.heap.size, 0, rfl, Nat.le_refl _, by omega, fun i hi j hj => ?_⟩⟩
  obtain rfl : i = 0 := by omega
  match j, hj with
  | 0, _ => exact World.cell?_alloc_new _ _ _ _
  | 1, _ => exact World.cell?_alloc_new _ _ _ _

end Go.Proofs.YtbhbekocmpmjfaaGreatDoor
/- AN OPERATION DONE ON A TREE, WITH A SELECTION: plain. -/
namespace Go.Proofs.YtbhbekocmpmjfaaGreatDoor
open Go Go.RowKit

noncomputable def patchT (l old new : List PropL) : List PropL × Int := (if patchE l old new = 0 then Classical.epsilon (fun R => IsSort R (minusK l old ++ new)) else [], patchE l old new)
theorem patchT_is {l old new R : List PropL} (h : (patchE l old new ≠ 0 ∧ R = []) ∨ (patchE l old new = 0 ∧ IsSort R (minusK l old ++ new))) : R = (patchT l old new).1 := by
  unfold patchT
  rcases h with ⟨h1, h2⟩ | ⟨h1, h2⟩
  · rw [if_neg h1]; exact h2
  · rw [if_pos h1]
    exact h2.unique (Classical.epsilon_spec (p := fun R => IsSort R (minusK l old ++ new)) ⟨R, h2⟩)
def T.len (t : T) : Nat := if t.lf = true then t.ts.length else t.ks.length
def mergedT (rest k : T) (o : OpE) : T × Int :=
  if (backP o.path).2 ≠ 0 then (T.nilT, 8)
  else match rest.at (backP o.path).1 with
  | none => (T.nilT, 5)
  | some x => if x.lf ≠ k.lf then (T.nilT, 7) else if (x.len : Int) ≠ o.pos then (T.nilT, 8) else if k.ps ≠ o.old then (T.nilT, 9)
    else putTr rest (backP o.path).1 (.mk x.lf x.ps (x.ts ++ k.ts) (x.ks ++ k.ks))
def T.first (k : T) (i : Nat) : T := if k.lf = true then .mk true k.ps (k.ts.take i) k.ks else .mk false k.ps k.ts (k.ks.take i)
def T.second (k : T) (i : Nat) (new : List PropL) : T := if k.lf = true then .mk true new (k.ts.drop i) [] else .mk false new [] (k.ks.drop i)
def splitT (rest k : T) (o : OpE) : T × Int :=
  if o.pos < 0 ∨ (k.len : Int) < o.pos then (T.nilT, 8)
  else if (addT rest o.path (k.second o.pos.toNat o.new)).2 ≠ 0 then (T.nilT, (addT rest o.path (k.second o.pos.toNat o.new)).2)
  else addT (addT rest o.path (k.second o.pos.toNat o.new)).1 o.path (k.first o.pos.toNat)
noncomputable def contentT (n : T) (o : OpE) : T × Int :=
  if o.kind = 6 ∧ o.path.length = 0 then (T.nilT, 6)
  else match n.at o.path with
  | none => (T.nilT, 5)
  | some k =>
    if o.kind = 6 then (if (patchT k.ps o.old o.new).2 ≠ 0 then (T.nilT, (patchT k.ps o.old o.new).2) else putTr n o.path (.mk k.lf (patchT k.ps o.old o.new).1 k.ts k.ks))
    else if k.lf = false then (T.nilT, 7)
    else if o.kind = 7 then (if (insertR k.ts o.pos o.text).2 ≠ 0 then (T.nilT, (insertR k.ts o.pos o.text).2) else putTr n o.path (.mk k.lf k.ps (insertR k.ts o.pos o.text).1 k.ks))
    else (if (removeR k.ts o.pos o.text).2 ≠ 0 then (T.nilT, (removeR k.ts o.pos o.text).2) else putTr n o.path (.mk k.lf k.ps (removeR k.ts o.pos o.text).1 k.ks))
noncomputable def shapedT (n : T) (o : OpE) : T × Int :=
  if o.kind = 1 then (if o.node.chk ≠ 0 then (T.nilT, o.node.chk) else addT n o.path o.node)
  else if o.kind = 4 ∧ checkPs o.new ≠ 0 then (T.nilT, checkPs o.new)
  else if (o.kind = 2 ∨ o.kind = 3 ∨ o.kind = 4 ∨ o.kind = 5) ∧ (cutT n o.path).2.2 ≠ 0 then (T.nilT, (cutT n o.path).2.2)
  else if o.kind = 2 then (if (cutT n o.path).2.1 = o.node then ((cutT n o.path).1, 0) else (T.nilT, 9))
  else if o.kind = 3 then mergedT (cutT n o.path).1 (cutT n o.path).2.1 o
  else if o.kind = 4 then splitT (cutT n o.path).1 (cutT n o.path).2.1 o
  else if o.kind = 5 then addT (cutT n o.path).1 o.dest (cutT n o.path).2.1
  else contentT n o
def stayP (p : PtE) (o : OpE) : Bool := (ptMoveE p o 1).2 && sameP p (ptMoveE p o 1).1
noncomputable def staysT (s : SelE) (o : OpE) : Bool := !s.is || (stayP s.a o && stayP s.a (invT o).1 && stayP s.f o && stayP s.f (invT o).1 && decide ((invT o).2 = 0))
noncomputable def mayT (n : T) (s : SelE) (o : OpE) : Int := if n.chk ≠ 0 then n.chk else if n.lf = true then 7 else if checkSelT n s ≠ 0 then checkSelT n s else formT o
noncomputable def applyT (n : T) (s : SelE) (o : OpE) : T × SelE × Int :=
  if mayT n s o ≠ 0 then (T.nilT, SelE.nil, mayT n s o)
  else if o.kind = 9 then (if sameSelP s o.src = false then (T.nilT, SelE.nil, 9) else if checkSelT n o.dst ≠ 0 then (T.nilT, SelE.nil, checkSelT n o.dst) else (n, o.dst, 0))
  else if (shapedT n o).2 ≠ 0 then (T.nilT, SelE.nil, (shapedT n o).2)
  else if staysT s o = false then (T.nilT, SelE.nil, 10)
  else ((shapedT n o).1, s, 0)
end Go.Proofs.YtbhbekocmpmjfaaGreatDoor
/- BEHIND AN OPERATION a tree is as much greater as its node, its text, or one node says; plain. -/
namespace Go.Proofs.YtbhbekocmpmjfaaGreatDoor
open Go Go.RowKit

theorem may_ok {n : T} {s : SelE} {o : OpE} (h : mayT n s o = 0) : n.chk = 0 ∧ n.lf = false ∧ checkSelT n s = 0 ∧ formT o = 0 := by
  unfold mayT at h
  split at h
  · rename_i h1; exact absurd h h1
  · rename_i h1
    split at h
    · cases h
    · rename_i h2
      split at h
      · rename_i h3; exact absurd h h3
      · rename_i h3
        exact ⟨by simpa using h1, by simpa using h2, by simpa using h3, h⟩
theorem form_kind {o : OpE} (h : formT o = 0) : o.kind = 1 ∨ o.kind = 2 ∨ o.kind = 3 ∨ o.kind = 4 ∨ o.kind = 5 ∨ o.kind = 6 ∨ o.kind = 7 ∨ o.kind = 8 ∨ o.kind = 9 := by
  apply Classical.byContradiction
  intro hn
  have : hasL o.kind = none := by
    unfold hasL
    repeat rw [if_neg (by omega)]
  unfold formT at h
  rw [this] at h
  exact absurd h (show ¬ (1 : Int) = 0 by decide)
/-- what was done -/
theorem apply_ok {n : T} {s : SelE} {o : OpE} (h : (applyT n s o).2.2 = 0) : mayT n s o = 0 ∧ ((o.kind = 9 ∧ sameSelP s o.src = true ∧ checkSelT n o.dst = 0 ∧ applyT n s o = (n, o.dst, 0)) ∨ (o.kind ≠ 9 ∧ (shapedT n o).2 = 0 ∧ staysT s o = true ∧ applyT n s o = ((shapedT n o).1, s, 0))) := by
  unfold applyT at h ⊢
  by_cases h1 : mayT n s o ≠ 0
  · rw [if_pos h1] at h; exact absurd h h1
  · rw [if_neg h1] at h ⊢
    refine ⟨by simpa using h1, ?_⟩
    by_cases h2 : o.kind = 9
    · rw [if_pos h2] at h ⊢
      by_cases h3 : sameSelP s o.src = false
      · rw [if_pos h3] at h; exact absurd h (show ¬ (9 : Int) = 0 by decide)
      · rw [if_neg h3] at h ⊢
        by_cases h4 : checkSelT n o.dst ≠ 0
        · rw [if_pos h4] at h; exact absurd h h4
        · rw [if_neg h4]
          exact Or.inl ⟨h2, by simpa using h3, by simpa using h4, rfl⟩
    · rw [if_neg h2] at h ⊢
      by_cases h3 : (shapedT n o).2 ≠ 0
      · rw [if_pos h3] at h; exact absurd h h3
      · rw [if_neg h3] at h ⊢
        by_cases h4 : staysT s o = false
        · rw [if_pos h4] at h; exact absurd h (show ¬ (10 : Int) = 0 by decide)
        · rw [if_neg h4]
          exact Or.inr ⟨h2, by simpa using h3, by simpa using h4, rfl⟩
/-- a refusal's tree and selection -/
theorem apply_no {n : T} {s : SelE} {o : OpE} (h : (applyT n s o).2.2 ≠ 0) : (applyT n s o).1 = T.nilT ∧ (applyT n s o).2.1 = SelE.nil := by
  unfold applyT at h ⊢
  by_cases h1 : mayT n s o ≠ 0
  · rw [if_pos h1]; exact ⟨rfl, rfl⟩
  · rw [if_neg h1] at h ⊢
    by_cases h2 : o.kind = 9
    · rw [if_pos h2] at h ⊢
      by_cases h3 : sameSelP s o.src = false
      · rw [if_pos h3]; exact ⟨rfl, rfl⟩
      · rw [if_neg h3] at h ⊢
        by_cases h4 : checkSelT n o.dst ≠ 0
        · rw [if_pos h4]; exact ⟨rfl, rfl⟩
        · rw [if_neg h4] at h; exact absurd rfl h
    · rw [if_neg h2] at h ⊢
      by_cases h3 : (shapedT n o).2 ≠ 0
      · rw [if_pos h3]; exact ⟨rfl, rfl⟩
      · rw [if_neg h3] at h ⊢
        by_cases h4 : staysT s o = false
        · rw [if_pos h4]; exact ⟨rfl, rfl⟩
        · rw [if_neg h4] at h; exact absurd rfl h
theorem merged_ok {rest k : T} {o : OpE} (h : (mergedT rest k o).2 = 0) : (backP o.path).2 = 0 ∧ ∃ x, rest.at (backP o.path).1 = some x ∧ x.lf = k.lf ∧ (x.len : Int) = o.pos ∧ k.ps = o.old ∧ mergedT rest k o = (T.setAt (.mk x.lf x.ps (x.ts ++ k.ts) (x.ks ++ k.ks)) rest (backP o.path).1, 0) := by
  unfold mergedT at h ⊢
  by_cases h1 : (backP o.path).2 ≠ 0
  · rw [if_pos h1] at h; exact absurd h (show ¬ (8 : Int) = 0 by decide)
  · rw [if_neg h1] at h ⊢
    cases hx : rest.at (backP o.path).1 with
    | none => rw [hx] at h; exact absurd h (show ¬ (5 : Int) = 0 by decide)
    | some x =>
      simp only [hx] at h ⊢
      by_cases h2 : x.lf ≠ k.lf
      · rw [if_pos h2] at h; exact absurd h (show ¬ (7 : Int) = 0 by decide)
      · rw [if_neg h2] at h ⊢
        by_cases h3 : (x.len : Int) ≠ o.pos
        · rw [if_pos h3] at h; exact absurd h (show ¬ (8 : Int) = 0 by decide)
        · rw [if_neg h3] at h ⊢
          by_cases h4 : k.ps ≠ o.old
          · rw [if_pos h4] at h; exact absurd h (show ¬ (9 : Int) = 0 by decide)
          · rw [if_neg h4]
            exact ⟨by simpa using h1, x, rfl, by simpa using h2, by simpa using h3, by simpa using h4, put_ok hx⟩
theorem split_ok {rest k : T} {o : OpE} (h : (splitT rest k o).2 = 0) : 0 ≤ o.pos ∧ o.pos ≤ k.len ∧ (addT rest o.path (k.second o.pos.toNat o.new)).2 = 0 ∧ (addT (addT rest o.path (k.second o.pos.toNat o.new)).1 o.path (k.first o.pos.toNat)).2 = 0 ∧ splitT rest k o = addT (addT rest o.path (k.second o.pos.toNat o.new)).1 o.path (k.first o.pos.toNat) := by
  unfold splitT at h ⊢
  by_cases h1 : o.pos < 0 ∨ (k.len : Int) < o.pos
  · rw [if_pos h1] at h; exact absurd h (show ¬ (8 : Int) = 0 by decide)
  · rw [if_neg h1] at h ⊢
    by_cases h2 : (addT rest o.path (k.second o.pos.toNat o.new)).2 ≠ 0
    · rw [if_pos h2] at h; exact absurd h h2
    · rw [if_neg h2] at h ⊢
      exact ⟨by omega, by omega, by simpa using h2, h, rfl⟩
theorem insert_ok {ts ss : List Int} {i : Int} (h : (insertR ts i ss).2 = 0) : 0 ≤ i ∧ i ≤ ts.length ∧ checkRs ts = 0 ∧ checkRs ss = 0 ∧ insertR ts i ss = (ts.take i.toNat ++ ss ++ ts.drop i.toNat, 0) := by
  unfold insertR at h ⊢
  by_cases h1 : askedR ts i ss = 0
  · rw [if_pos h1]
    refine ⟨(asked_zero h1).1, (asked_zero h1).2, ?_⟩
    unfold askedR at h1
    split at h1
    · cases h1
    · rename_i h2
      exact ⟨by omega, by omega, rfl⟩
  · rw [if_neg h1] at h; exact absurd h h1
theorem remove_ok {ts ss : List Int} {i : Int} (h : (removeR ts i ss).2 = 0) : 0 ≤ i ∧ i.toNat + ss.length ≤ ts.length ∧ (ts.drop i.toNat).take ss.length = ss ∧ removeR ts i ss = (ts.take i.toNat ++ ts.drop (i.toNat + ss.length), 0) := by
  unfold removeR at h ⊢
  by_cases h1 : askedR ts i ss = 0
  · rw [if_pos h1] at h ⊢
    have h3 := asked_zero h1
    by_cases h2 : (ts.drop i.toNat).take (min (i.toNat + ss.length) ts.length - i.toNat) = ss
    · rw [if_pos h2]
      have hl := congrArg List.length h2
      rw [List.length_take, List.length_drop] at hl
      have hm : min (i.toNat + ss.length) ts.length = i.toNat + ss.length := by omega
      rw [hm] at h2 ⊢
      rw [show i.toNat + ss.length - i.toNat = ss.length by omega] at h2
      exact ⟨h3.1, by omega, h2, rfl⟩
    · rw [if_neg h2] at h; exact absurd h (show ¬ (9 : Int) = 0 by decide)
  · rw [if_neg h1] at h; exact absurd h h1
/-- what stands behind a change of a node's own -/
theorem content_ok {n : T} {o : OpE} (h : (contentT n o).2 = 0) : ∃ k k', n.at o.path = some k ∧ contentT n o = (T.setAt k' n o.path, 0) ∧
    ((o.kind = 6 ∧ o.path.length ≠ 0 ∧ (patchT k.ps o.old o.new).2 = 0 ∧ k' = .mk k.lf (patchT k.ps o.old o.new).1 k.ts k.ks) ∨ (o.kind = 7 ∧ k.lf = true ∧ (insertR k.ts o.pos o.text).2 = 0 ∧ k' = .mk k.lf k.ps (insertR k.ts o.pos o.text).1 k.ks) ∨ (o.kind ≠ 6 ∧ o.kind ≠ 7 ∧ k.lf = true ∧ (removeR k.ts o.pos o.text).2 = 0 ∧ k' = .mk k.lf k.ps (removeR k.ts o.pos o.text).1 k.ks)) := by
  unfold contentT at h ⊢
  by_cases h1 : o.kind = 6 ∧ o.path.length = 0
  · rw [if_pos h1] at h; exact absurd h (show ¬ (6 : Int) = 0 by decide)
  · rw [if_neg h1] at h ⊢
    cases hk : n.at o.path with
    | none => rw [hk] at h; exact absurd h (show ¬ (5 : Int) = 0 by decide)
    | some k =>
      simp only [hk] at h ⊢
      by_cases h6 : o.kind = 6
      · rw [if_pos h6] at h ⊢
        by_cases h2 : (patchT k.ps o.old o.new).2 ≠ 0
        · rw [if_pos h2] at h; exact absurd h h2
        · rw [if_neg h2]
          exact ⟨k, _, rfl, put_ok hk, Or.inl ⟨h6, fun h0 => h1 ⟨h6, h0⟩, by simpa using h2, rfl⟩⟩
      · rw [if_neg h6] at h ⊢
        by_cases hl : k.lf = false
        · rw [if_pos hl] at h; exact absurd h (show ¬ (7 : Int) = 0 by decide)
        · rw [if_neg hl] at h ⊢
          by_cases h7 : o.kind = 7
          · rw [if_pos h7] at h ⊢
            by_cases h2 : (insertR k.ts o.pos o.text).2 ≠ 0
            · rw [if_pos h2] at h; exact absurd h h2
            · rw [if_neg h2]
              exact ⟨k, _, rfl, put_ok hk, Or.inr (Or.inl ⟨h7, by simpa using hl, by simpa using h2, rfl⟩)⟩
          · rw [if_neg h7] at h ⊢
            by_cases h2 : (removeR k.ts o.pos o.text).2 ≠ 0
            · rw [if_pos h2] at h; exact absurd h h2
            · rw [if_neg h2]
              exact ⟨k, _, rfl, put_ok hk, Or.inr (Or.inr ⟨h6, h7, by simpa using hl, by simpa using h2, rfl⟩)⟩
theorem cut_no {n : T} {o : OpE} {x : T × Int} (h : (if (o.kind = 2 ∨ o.kind = 3 ∨ o.kind = 4 ∨ o.kind = 5) ∧ (cutT n o.path).2.2 ≠ 0 then (T.nilT, (cutT n o.path).2.2) else x).2 = 0) : ((o.kind = 2 ∨ o.kind = 3 ∨ o.kind = 4 ∨ o.kind = 5) → (cutT n o.path).2.2 = 0) ∧ (if (o.kind = 2 ∨ o.kind = 3 ∨ o.kind = 4 ∨ o.kind = 5) ∧ (cutT n o.path).2.2 ≠ 0 then (T.nilT, (cutT n o.path).2.2) else x) = x := by
  by_cases hc : (o.kind = 2 ∨ o.kind = 3 ∨ o.kind = 4 ∨ o.kind = 5) ∧ (cutT n o.path).2.2 ≠ 0
  · rw [if_pos hc] at h; exact absurd h hc.2
  · rw [if_neg hc]
    exact ⟨fun hk => Classical.byContradiction fun hn => hc ⟨hk, hn⟩, rfl⟩
/-- which change was made -/
theorem shaped_ok {n : T} {o : OpE} (hk : formT o = 0) (h9 : o.kind ≠ 9) (h : (shapedT n o).2 = 0) :
    (o.kind = 1 ∧ o.node.chk = 0 ∧ (addT n o.path o.node).2 = 0 ∧ shapedT n o = addT n o.path o.node) ∨
    (o.kind = 2 ∧ (cutT n o.path).2.2 = 0 ∧ (cutT n o.path).2.1 = o.node ∧ shapedT n o = ((cutT n o.path).1, 0)) ∨
    (o.kind = 3 ∧ (cutT n o.path).2.2 = 0 ∧ (mergedT (cutT n o.path).1 (cutT n o.path).2.1 o).2 = 0 ∧ shapedT n o = mergedT (cutT n o.path).1 (cutT n o.path).2.1 o) ∨
    (o.kind = 4 ∧ checkPs o.new = 0 ∧ (cutT n o.path).2.2 = 0 ∧ (splitT (cutT n o.path).1 (cutT n o.path).2.1 o).2 = 0 ∧ shapedT n o = splitT (cutT n o.path).1 (cutT n o.path).2.1 o) ∨
    (o.kind = 5 ∧ (cutT n o.path).2.2 = 0 ∧ (addT (cutT n o.path).1 o.dest (cutT n o.path).2.1).2 = 0 ∧ shapedT n o = addT (cutT n o.path).1 o.dest (cutT n o.path).2.1) ∨
    ((o.kind = 6 ∨ o.kind = 7 ∨ o.kind = 8) ∧ (contentT n o).2 = 0 ∧ shapedT n o = contentT n o) := by
  have hk := form_kind hk
  unfold shapedT at h ⊢
  by_cases h1 : o.kind = 1
  · rw [if_pos h1] at h ⊢
    by_cases hc : o.node.chk ≠ 0
    · rw [if_pos hc] at h; exact absurd h hc
    · rw [if_neg hc] at h ⊢
      exact Or.inl ⟨h1, by simpa using hc, h, rfl⟩
  · rw [if_neg h1] at h ⊢
    refine Or.inr ?_
    by_cases hp : o.kind = 4 ∧ checkPs o.new ≠ 0
    · rw [if_pos hp] at h; exact absurd h hp.2
    · rw [if_neg hp] at h ⊢
      obtain ⟨hc, he⟩ := cut_no h
      rw [he] at h ⊢
      clear he
      by_cases h2 : o.kind = 2
      · rw [if_pos h2] at h ⊢
        by_cases hs : (cutT n o.path).2.1 = o.node
        · rw [if_pos hs]
          exact Or.inl ⟨h2, hc (.inl h2), hs, rfl⟩
        · rw [if_neg hs] at h; exact absurd h (show ¬ (9 : Int) = 0 by decide)
      · rw [if_neg h2] at h ⊢
        refine Or.inr ?_
        by_cases h3 : o.kind = 3
        · rw [if_pos h3] at h ⊢
          exact Or.inl ⟨h3, hc (.inr (.inl h3)), h, rfl⟩
        · rw [if_neg h3] at h ⊢
          refine Or.inr ?_
          by_cases h4 : o.kind = 4
          · rw [if_pos h4] at h ⊢
            exact Or.inl ⟨h4, Classical.byContradiction fun hn => hp ⟨h4, hn⟩, hc (.inr (.inr (.inl h4))), h, rfl⟩
          · rw [if_neg h4] at h ⊢
            refine Or.inr ?_
            by_cases h5 : o.kind = 5
            · rw [if_pos h5] at h ⊢
              exact Or.inl ⟨h5, hc (.inr (.inr (.inr h5))), h, rfl⟩
            · rw [if_neg h5] at h ⊢
              exact Or.inr ⟨by omega, h, rfl⟩
end Go.Proofs.YtbhbekocmpmjfaaGreatDoor
/- WHAT EACH OPERATION COMES TO on a tree; plain. -/
namespace Go.Proofs.YtbhbekocmpmjfaaGreatDoor
open Go Go.RowKit

/-- InsertNode -/
theorem done1 {n : T} {o : OpE} (hf : formT o = 0) (hk : o.kind = 1) (h : (shapedT n o).2 = 0) : ∃ (up : List Int) (i : Nat) (u : T) (a b : List T), o.path = up ++ [(i : Int)] ∧ n.at up = some u ∧ u.lf = false ∧ u.ks = a ++ b ∧ a.length = i ∧ o.node.chk = 0 ∧ (shapedT n o).1 = T.setAt (u.kids (a ++ o.node :: b)) n up := by
  rcases shaped_ok hf (by omega) h with ⟨_, hc, ha, he⟩ | ⟨h1, _⟩ | ⟨h1, _⟩ | ⟨h1, _⟩ | ⟨h1, _⟩ | ⟨h1, _⟩
  · obtain ⟨up, i, u, a, b, e1, e2, e3, e4, e5, e6⟩ := add_shape ha
    exact ⟨up, i, u, a, b, e1, e2, e3, e4, e5, hc, by rw [he, e6]⟩
  all_goals omega
/-- RemoveNode -/
theorem done2 {n : T} {o : OpE} (hf : formT o = 0) (hk : o.kind = 2) (h : (shapedT n o).2 = 0) : ∃ (up : List Int) (i : Nat) (u : T) (a b : List T), o.path = up ++ [(i : Int)] ∧ n.at up = some u ∧ u.ks = a ++ o.node :: b ∧ a.length = i ∧ (shapedT n o).1 = T.setAt (u.kids (a ++ b)) n up := by
  rcases shaped_ok hf (by omega) h with ⟨h1, _⟩ | ⟨_, hc, hs, he⟩ | ⟨h1, _⟩ | ⟨h1, _⟩ | ⟨h1, _⟩ | ⟨h1, _⟩
  rotate_left 1
  · obtain ⟨up, i, u, k, a, b, e1, e2, e3, e4, e5⟩ := cut_shape hc
    have : k = o.node := by rw [e5] at hs; exact hs
    subst this
    exact ⟨up, i, u, a, b, e1, e2, e3, e4, by rw [he, e5]⟩
  all_goals omega
/-- MergeNode -/
theorem done3 {n : T} {o : OpE} (hb : n.bulk ≤ 4611686018427387904) (hf : formT o = 0) (hk : o.kind = 3) (h : (shapedT n o).2 = 0) : ∃ (up : List Int) (i : Nat) (u x k : T) (a b : List T), o.path = up ++ [((i + 1 : Nat) : Int)] ∧ n.at up = some u ∧ u.ks = a ++ x :: k :: b ∧ a.length = i ∧ x.lf = k.lf ∧ (x.len : Int) = o.pos ∧ k.ps = o.old ∧ (shapedT n o).1 = T.setAt (u.kids (a ++ x.join k :: b)) n up := by
  rcases shaped_ok hf (by omega) h with ⟨h1, _⟩ | ⟨h1, _⟩ | ⟨_, hc, hm, he⟩ | ⟨h1, _⟩ | ⟨h1, _⟩ | ⟨h1, _⟩
  rotate_left 2
  · obtain ⟨up, i, u, k, a, b, e1, e2, e3, e4, e5⟩ := cut_shape hc
    obtain ⟨hbk, x, hx, hl, hlen, hps, hme⟩ := merged_ok hm
    have e5' := e5
    rw [e1] at hbk hx hme e5'
    have hi : i < 4611686018427387904 := by
      have h1 := bulk_at e2
      have h2 := u.ks_bulk
      rw [e3, List.length_append, List.length_cons] at h2
      omega
    obtain ⟨j, hj, hbj⟩ := back_snoc hi hbk
    rw [e5'] at hx hme
    rw [e5] at hl hps
    rw [hbj] at hx hme
    have h3 := T.at_setAt (y' := u.kids (a ++ b)) e2
    rw [T.at_both, h3] at hx
    obtain ⟨_, _, hxx⟩ := T.at_one _ _ hx
    have hja : j < a.length := by omega
    obtain ⟨a', y, rfl⟩ : ∃ a' y, a = a' ++ [y] := ⟨a.dropLast, a.getLast (List.ne_nil_of_length_pos (by omega)), (List.dropLast_concat_getLast _).symm⟩
    have hja' : a'.length = j := by rw [List.length_append, List.length_singleton] at e4; omega
    have hxy : x = y := by
      rw [hxx, T.kids_ks, Int.toNat_natCast]
      subst hja'
      simp [List.getD]
    subst hxy
    refine ⟨up, j, u, x, k, a', b, ?_, e2, ?_, hja', hl, hlen, hps, ?_⟩
    · rw [e1, hj]
    · rw [e3, List.append_assoc]; rfl
    · rw [he, e1, e5', hme]
      show T.setAt (x.join k) (T.setAt (u.kids (a' ++ [x] ++ b)) n up) (up ++ [(j : Int)]) = _
      rw [T.setAt_append h3, T.setAt_setAt e2]
      have : T.setAt (x.join k) (u.kids (a' ++ [x] ++ b)) [(j : Int)] = u.kids (a' ++ x.join k :: b) := by
        rw [T.setAt, T.setAt, T.kids_ks, Int.toNat_natCast]
        subst hja'
        have : (a' ++ [x] ++ b).set a'.length (x.join k) = a' ++ x.join k :: b := by
          rw [List.append_assoc, List.set_append_right _ _ (Nat.le_refl _), Nat.sub_self]; rfl
        rw [this]; rfl
      rw [this]
  all_goals omega
/-- SplitNode -/
theorem done4 {n : T} {o : OpE} (hf : formT o = 0) (hk : o.kind = 4) (h : (shapedT n o).2 = 0) : ∃ (up : List Int) (i : Nat) (u k : T) (a b : List T), o.path = up ++ [(i : Int)] ∧ n.at up = some u ∧ u.lf = false ∧ u.ks = a ++ k :: b ∧ a.length = i ∧ 0 ≤ o.pos ∧ o.pos ≤ k.len ∧ checkPs o.new = 0 ∧ (shapedT n o).1 = T.setAt (u.kids (a ++ k.first o.pos.toNat :: k.second o.pos.toNat o.new :: b)) n up := by
  rcases shaped_ok hf (by omega) h with ⟨h1, _⟩ | ⟨h1, _⟩ | ⟨h1, _⟩ | ⟨_, hc0, hc, hm, he⟩ | ⟨h1, _⟩ | ⟨h1, _⟩
  rotate_left 3
  · obtain ⟨up, i, u, k, a, b, e1, e2, e3, e4, e5⟩ := cut_shape hc
    rw [e5] at hm
    obtain ⟨h0, h1, ha, hb, hme⟩ := split_ok hm
    have h3 := T.at_setAt (y' := u.kids (a ++ b)) e2
    obtain ⟨_, v, hv, hvl, _⟩ := add_ok ha
    rw [e1] at hv
    rw [snoc_len, snoc_take, h3] at hv
    injection hv with hv
    have hul : u.lf = false := by rw [← hv] at hvl; exact hvl
    have ea : addT (T.setAt (u.kids (a ++ b)) n up) o.path (k.second o.pos.toNat o.new) = (T.setAt (u.kids (a ++ k.second o.pos.toNat o.new :: b)) n up, 0) := by
      rw [e1, add_at h3 hul rfl e4, T.kids_kids, T.setAt_setAt e2]
    have eb : addT (T.setAt (u.kids (a ++ k.second o.pos.toNat o.new :: b)) n up) o.path (k.first o.pos.toNat) = (T.setAt (u.kids (a ++ k.first o.pos.toNat :: k.second o.pos.toNat o.new :: b)) n up, 0) := by
      rw [e1, add_at (T.at_setAt (y' := u.kids (a ++ k.second o.pos.toNat o.new :: b)) e2) hul rfl e4, T.kids_kids, T.setAt_setAt e2]
    refine ⟨up, i, u, k, a, b, e1, e2, hul, e3, e4, h0, h1, hc0, ?_⟩
    rw [he, e5, hme, ea, eb]
  all_goals omega
/-- MoveNode -/
theorem done5 {n : T} {o : OpE} (hf : formT o = 0) (hk : o.kind = 5) (h : (shapedT n o).2 = 0) : ∃ (up vp : List Int) (i j : Nat) (u v k r : T) (a b c d : List T), o.path = up ++ [(i : Int)] ∧ n.at up = some u ∧ u.ks = a ++ k :: b ∧ a.length = i ∧ r = T.setAt (u.kids (a ++ b)) n up ∧ o.dest = vp ++ [(j : Int)] ∧ r.at vp = some v ∧ v.lf = false ∧ v.ks = c ++ d ∧ c.length = j ∧ (shapedT n o).1 = T.setAt (v.kids (c ++ k :: d)) r vp := by
  rcases shaped_ok hf (by omega) h with ⟨h1, _⟩ | ⟨h1, _⟩ | ⟨h1, _⟩ | ⟨h1, _⟩ | ⟨_, hc, ha, he⟩ | ⟨h1, _⟩
  rotate_left 4
  · obtain ⟨up, i, u, k, a, b, e1, e2, e3, e4, e5⟩ := cut_shape hc
    rw [e5] at ha
    obtain ⟨vp, j, v, c, d, f1, f2, f3, f4, f5, f6⟩ := add_shape ha
    exact ⟨up, vp, i, j, u, v, k, _, a, b, c, d, e1, e2, e3, e4, rfl, f1, f2, f3, f4, f5, by rw [he, e5, f6]⟩
  all_goals omega
/-- SetNode, InsertText, RemoveText -/
theorem done6 {n : T} {o : OpE} (hf : formT o = 0) (hk : o.kind = 6 ∨ o.kind = 7 ∨ o.kind = 8) (h : (shapedT n o).2 = 0) : ∃ k k', n.at o.path = some k ∧ (shapedT n o).1 = T.setAt k' n o.path ∧
    ((o.kind = 6 ∧ o.path.length ≠ 0 ∧ (patchT k.ps o.old o.new).2 = 0 ∧ k' = .mk k.lf (patchT k.ps o.old o.new).1 k.ts k.ks) ∨ (o.kind = 7 ∧ k.lf = true ∧ (insertR k.ts o.pos o.text).2 = 0 ∧ k' = .mk k.lf k.ps (insertR k.ts o.pos o.text).1 k.ks) ∨ (o.kind = 8 ∧ k.lf = true ∧ (removeR k.ts o.pos o.text).2 = 0 ∧ k' = .mk k.lf k.ps (removeR k.ts o.pos o.text).1 k.ks)) := by
  rcases shaped_ok hf (by omega) h with ⟨h1, _⟩ | ⟨h1, _⟩ | ⟨h1, _⟩ | ⟨h1, _⟩ | ⟨h1, _⟩ | ⟨_, hc, he⟩
  rotate_left 5
  · obtain ⟨k, k', h1, h2, h3⟩ := content_ok hc
    refine ⟨k, k', h1, by rw [he, h2], ?_⟩
    rcases h3 with h3 | h3 | ⟨h6, h7, h3⟩
    · exact Or.inl h3
    · exact Or.inr (Or.inl h3)
    · exact Or.inr (Or.inr ⟨by omega, h3⟩)
  all_goals omega
end Go.Proofs.YtbhbekocmpmjfaaGreatDoor
/- What prop.Patch and prop.Diff say, in plain Lean. -/
namespace Go.Proofs.YtbhbekocmpmjfaaGreatDoor
open Go Go.RowKit Go.Maps

theorem chkPs_iff : ∀ {l : List PropL} {last : ByteArray}, chkPs last l = 0 ↔ (∀ p ∈ l, isKey p.1 = true ∧ isVal p.2 = true) ∧ Up l ∧ ∀ p ∈ l, ltS last p.1
  | [], _ => by simp [chkPs, Up]
  | p :: r, last => by
    constructor
    · intro h
      refine ⟨fun q hq => ?_, up_of_chk h⟩
      simp only [chkPs] at h
      split at h
      · rename_i h1
        split at h
        · cases h
        · rcases List.mem_cons.1 hq with rfl | hq
          · exact Bool.and_eq_true_iff.1 h1
          · exact (chkPs_iff.1 h).1 q hq
      · cases h
    · rintro ⟨h1, h2, h3⟩
      have h4 := h1 p List.mem_cons_self
      have h5 := (not_leS p.1 last).2 (h3 p List.mem_cons_self)
      simp only [chkPs, h4.1, h4.2, h5, Bool.and_self, ↓reduceIte, Bool.false_eq_true]
      have h6 := List.pairwise_cons.1 h2
      exact chkPs_iff.2 ⟨fun q hq => h1 q (List.mem_cons_of_mem _ hq), h6.2, fun q hq => h6.1 q hq⟩
theorem ltS_empty {s : ByteArray} (h : isKey s = true) : ltS .empty s := (not_leS s .empty).1 (leS_empty s h)
theorem checkPs_iff {l : List PropL} : checkPs l = 0 ↔ l.length ≤ 16 ∧ (∀ p ∈ l, isKey p.1 = true ∧ isVal p.2 = true) ∧ Up l := by
  unfold checkPs
  by_cases h : 16 < l.length
  · rw [if_pos h]
    constructor
    · intro e; cases e
    · rintro ⟨e, _⟩; omega
  · rw [if_neg h, chkPs_iff]
    constructor
    · rintro ⟨h1, h2, _⟩; exact ⟨by omega, h1, h2⟩
    · rintro ⟨_, h1, h2⟩; exact ⟨h1, h2, fun p hp => ltS_empty (h1 p hp).1⟩
theorem firstBad_three {a b c : List PropL} : firstBad [a, b, c] = 0 ↔ checkPs a = 0 ∧ checkPs b = 0 ∧ checkPs c = 0 := by
  simp only [firstBad]
  by_cases h1 : checkPs a = 0 <;> by_cases h2 : checkPs b = 0 <;> by_cases h3 : checkPs c = 0 <;> simp [h1, h2, h3]
theorem mem_dropK {k : ByteArray} {l : List PropL} {p : PropL} : p ∈ dropK k l ↔ p ∈ l ∧ p.1 ≠ k := by
  unfold dropK
  rw [List.mem_filter]
  simp
theorem mem_minus {p : PropL} : ∀ {o l : List PropL}, p ∈ minusK l o ↔ p ∈ l ∧ p.1 ∉ o.map (·.1)
  | [], l => by simp [minusK]
  | q :: r, l => by
    rw [minusK_cons, mem_minus, mem_dropK, List.map_cons, List.mem_cons, not_or]
    exact ⟨fun ⟨⟨a, b⟩, c⟩ => ⟨a, b, c⟩, fun ⟨a, b, c⟩ => ⟨⟨a, b⟩, c⟩⟩
theorem minus_sub : ∀ (o l : List PropL), (minusK l o).Sublist l
  | [], l => List.Sublist.refl _
  | q :: r, l => by
    rw [minusK_cons]
    exact (minus_sub r _).trans List.filter_sublist
theorem nodup_sub {l m : List PropL} (h : (l.map (·.1)).Nodup) (hs : m.Sublist l) : (m.map (·.1)).Nodup := h.sublist (hs.map _)
theorem key_one {l : List PropL} (h : (l.map (·.1)).Nodup) {p q : PropL} (hp : p ∈ l) (hq : q ∈ l) (e : p.1 = q.1) : p = q := by
  have h1 := (getP_some h).2 (show (p.1, p.2) ∈ l from hp)
  have h2 := (getP_some h).2 (show (q.1, q.2) ∈ l from hq)
  rw [e, h2] at h1
  exact Prod.ext e (Option.some.inj h1).symm
theorem perm_of_mem {a b : List PropL} (ha : (a.map (·.1)).Nodup) (hb : (b.map (·.1)).Nodup) (h : ∀ p, p ∈ a ↔ p ∈ b) : a.Perm b := (List.perm_ext_iff_of_nodup (nodup_of_map _ ha) (nodup_of_map _ hb)).2 h
theorem nodup_append {a b : List PropL} (ha : (a.map (·.1)).Nodup) (hb : (b.map (·.1)).Nodup) (h : ∀ p ∈ a, ∀ q ∈ b, p.1 ≠ q.1) : ((a ++ b).map (·.1)).Nodup := by
  rw [List.map_append, List.nodup_append]
  refine ⟨ha, hb, fun x hx y hy => ?_⟩
  obtain ⟨p, hp, rfl⟩ := List.mem_map.1 hx
  obtain ⟨q, hq, rfl⟩ := List.mem_map.1 hy
  exact h p hp q hq

/-- what it takes that a patch can be done -/
theorem patchE_zero {l old new : List PropL} : patchE l old new = 0 ↔ (checkPs l = 0 ∧ checkPs old = 0 ∧ checkPs new = 0) ∧ (∀ p ∈ old, p ∈ l) ∧ (∀ p ∈ new, ∀ q ∈ l, q.1 = p.1 → q.1 ∈ old.map (·.1)) ∧ (minusK l old ++ new).length ≤ 16 := by
  unfold patchE
  by_cases h0 : firstBad [l, old, new] = 0
  · have h0' := firstBad_three.1 h0
    have nl : (l.map (·.1)).Nodup := (checkPs_iff.1 h0'.1).2.2.nodup
    rw [if_neg (by simp [h0])]
    have e1 : (old.all fun p => decide (getP p.1 l = some p.2)) = false ↔ ¬ ∀ p ∈ old, p ∈ l := by
      rw [← Bool.not_eq_true, List.all_eq_true]
      simp only [decide_eq_true_eq]
      refine not_congr ⟨fun h p hp => (getP_some nl).1 (h p hp), fun h p hp => (getP_some nl).2 (h p hp)⟩
    have e2 : (new.any fun p => (getP p.1 (minusK l old)).isSome) = true ↔ ¬ ∀ p ∈ new, ∀ q ∈ l, q.1 = p.1 → q.1 ∈ old.map (·.1) := by
      rw [List.any_eq_true]
      constructor
      · rintro ⟨p, hp, hs⟩ h
        obtain ⟨v, hv⟩ := Option.isSome_iff_exists.1 hs
        have hm := (getP_some (nodup_sub nl (minus_sub old l))).1 hv
        obtain ⟨h1, h2⟩ := mem_minus.1 hm
        exact h2 (h p hp _ h1 rfl)
      · intro h
        apply Classical.byContradiction
        intro hc
        apply h
        intro p hp q hq e
        apply Classical.byContradiction
        intro hn
        refine hc ⟨p, hp, ?_⟩
        have hm : (q.1, q.2) ∈ minusK l old := mem_minus.2 ⟨hq, hn⟩
        rw [← e, (getP_some (nodup_sub nl (minus_sub old l))).2 hm]
        rfl
    by_cases h1 : ∀ p ∈ old, p ∈ l
    · rw [if_neg (fun h => (e1.1 h) h1)]
      by_cases h2 : ∀ p ∈ new, ∀ q ∈ l, q.1 = p.1 → q.1 ∈ old.map (·.1)
      · rw [if_neg (fun h => (e2.1 h) h2)]
        by_cases h3 : 16 < (minusK l old ++ new).length
        · rw [if_pos h3]
          constructor
          · intro e; cases e
          · rintro ⟨_, _, _, h⟩; omega
        · rw [if_neg h3]
          exact ⟨fun _ => ⟨h0', h1, h2, by omega⟩, fun _ => rfl⟩
      · rw [if_pos (e2.2 h2)]
        constructor
        · intro e; cases e
        · rintro ⟨_, _, h, _⟩; exact absurd h h2
    · rw [if_pos (e1.2 h1)]
      constructor
      · intro e; cases e
      · rintro ⟨_, h, _⟩; exact absurd h h1
  · rw [if_pos h0]
    constructor
    · intro e; exact absurd e h0
    · rintro ⟨h, _⟩; exact absurd (firstBad_three.2 h) h0
theorem patch_ms_nodup {l old new : List PropL} (h : patchE l old new = 0) : ((minusK l old ++ new).map (·.1)).Nodup := by
  obtain ⟨⟨h1, _, h3⟩, _, h5, _⟩ := patchE_zero.1 h
  refine nodup_append (nodup_sub (checkPs_iff.1 h1).2.2.nodup (minus_sub _ _)) (checkPs_iff.1 h3).2.2.nodup (fun p hp q hq e => ?_)
  obtain ⟨h6, h7⟩ := mem_minus.1 hp
  exact h7 (h5 q hq p h6 e)

/-- what was patched may be, and is patched back -/
theorem patch_back {l old new R : List PropL} (h : patchE l old new = 0) (hR : IsSort R (minusK l old ++ new)) : checkPs R = 0 ∧ patchE R new old = 0 ∧ ∀ R', IsSort R' (minusK R new ++ old) → R' = l := by
  have hnd := patch_ms_nodup h
  obtain ⟨⟨h1, h2, h3⟩, h4, h5, h6⟩ := patchE_zero.1 h
  obtain ⟨a1, a2, a3⟩ := checkPs_iff.1 h1
  obtain ⟨b1, b2, b3⟩ := checkPs_iff.1 h2
  obtain ⟨c1, c2, c3⟩ := checkPs_iff.1 h3
  have hmem : ∀ p, p ∈ R ↔ (p ∈ l ∧ p.1 ∉ old.map (·.1)) ∨ p ∈ new := fun p => by rw [hR.1.mem_iff, List.mem_append, mem_minus]
  have hRc : checkPs R = 0 := checkPs_iff.2 ⟨by rw [hR.1.length_eq]; exact h6, fun p hp => by
    rcases (hmem p).1 hp with ⟨hp, _⟩ | hp
    · exact a2 p hp
    · exact c2 p hp, hR.2⟩
  have hkey : ∀ p ∈ old, ∀ q ∈ R, q.1 = p.1 → q.1 ∈ new.map (·.1) := by
    intro p hp q hq e
    rcases (hmem q).1 hq with ⟨_, hq⟩ | hq
    · exact absurd (List.mem_map.2 ⟨p, hp, e.symm⟩) hq
    · exact List.mem_map.2 ⟨q, hq, rfl⟩
  have hm2 : ∀ p, p ∈ minusK R new ++ old ↔ p ∈ l := by
    intro p
    rw [List.mem_append, mem_minus, hmem]
    constructor
    · rintro (⟨⟨hp, _⟩ | hp, hn⟩ | hp)
      · exact hp
      · exact absurd (List.mem_map.2 ⟨p, hp, rfl⟩) hn
      · exact h4 p hp
    · intro hp
      by_cases ho : p.1 ∈ old.map (·.1)
      · obtain ⟨q, hq, e⟩ := List.mem_map.1 ho
        have := key_one a3.nodup (h4 q hq) hp e
        exact Or.inr (this ▸ hq)
      · refine Or.inl ⟨Or.inl ⟨hp, ho⟩, fun hn => ?_⟩
        obtain ⟨q, hq, e⟩ := List.mem_map.1 hn
        exact ho (h5 q hq p hp e.symm)
  have hnd2 : ((minusK R new ++ old).map (·.1)).Nodup := by
    refine nodup_append (nodup_sub hR.2.nodup (minus_sub _ _)) b3.nodup (fun p hp q hq e => ?_)
    obtain ⟨h7, h8⟩ := mem_minus.1 hp
    exact h8 (hkey q hq p h7 e)
  have hperm := perm_of_mem hnd2 a3.nodup hm2
  refine ⟨hRc, patchE_zero.2 ⟨⟨hRc, h3, h2⟩, fun p hp => (hmem p).2 (Or.inr hp), hkey, ?_⟩, fun R' hR' => up_unique (hR'.1.trans hperm) hR'.2 a3⟩
  rw [hperm.length_eq]
  exact a1
end Go.Proofs.YtbhbekocmpmjfaaGreatDoor
