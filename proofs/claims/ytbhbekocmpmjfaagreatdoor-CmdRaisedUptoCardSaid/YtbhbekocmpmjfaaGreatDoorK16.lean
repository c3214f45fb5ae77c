/- TREES CHANGED AT A PATH: Kids put in, and taken out; plain. -/
import Derived.Test.YtbhbekocmpmjfaaGreatDoorK12
import Derived.Test.YtbhbekocmpmjfaaGreatDoorK15
namespace Go.Proofs.YtbhbekocmpmjfaaGreatDoor
open Go Go.RowKit

def T.kids (u : T) (ks : List T) : T := .mk u.lf u.ps u.ts ks
def T.join (x k : T) : T := .mk x.lf x.ps (x.ts ++ k.ts) (x.ks ++ k.ks)
theorem T.kids_ks (u : T) (l : List T) : (u.kids l).ks = l := rfl
theorem T.kids_kids (u : T) (l m : List T) : (u.kids l).kids m = u.kids m := rfl
theorem T.kids_self (u : T) : u.kids u.ks = u := by cases u; rfl
theorem getD_setIdx {α : Type} (l : List α) (i : Nat) (x d : α) (h : i < l.length) : (l.set i x).getD i d = x := by
  simp [List.getD, h]
theorem T.at_setAt {y y' : T} : ∀ {p : List Int} {t : T}, t.at p = some y → (T.setAt y' t p).at p = some y' := by
  intro p
  induction p with
  | nil => intro t _; rfl
  | cons i r ih =>
    intro t h
    rw [T.at] at h
    split at h
    · cases h
    · rename_i hn
      rw [T.setAt, T.at]
      have hl : (T.mk t.lf t.ps t.ts (t.ks.set i.toNat (T.setAt y' (t.ks.getD i.toNat default) r))).ks = t.ks.set i.toNat (T.setAt y' (t.ks.getD i.toNat default) r) := rfl
      rw [hl, List.length_set, if_neg hn, getD_setIdx _ _ _ _ (by omega)]
      exact ih h
theorem T.setAt_setAt {y' z : T} : ∀ {p : List Int} {t y : T}, t.at p = some y → T.setAt z (T.setAt y' t p) p = T.setAt z t p := by
  intro p
  induction p with
  | nil => intro t y _; rfl
  | cons i r ih =>
    intro t y h
    rw [T.at] at h
    split at h
    · cases h
    · rename_i hn
      have hl : (T.mk t.lf t.ps t.ts (t.ks.set i.toNat (T.setAt y' (t.ks.getD i.toNat default) r))).ks = t.ks.set i.toNat (T.setAt y' (t.ks.getD i.toNat default) r) := rfl
      rw [T.setAt, T.setAt, T.setAt, hl, getD_setIdx _ _ _ _ (by omega), ih h, List.set_set]
      rfl
theorem T.setAt_same {y : T} : ∀ {p : List Int} {t : T}, t.at p = some y → T.setAt y t p = t := by
  intro p
  induction p with
  | nil =>
    intro t h
    injection h with h
    exact h.symm
  | cons i r ih =>
    intro t h
    rw [T.at] at h
    split at h
    · cases h
    · rename_i hn
      rw [T.setAt, ih h]
      have : t.ks.set i.toNat (t.ks.getD i.toNat default) = t.ks := by
        have hi : i.toNat < t.ks.length := by omega
        rw [List.getD, List.getElem?_eq_getElem hi]
        simp
      rw [this]
      cases t; rfl
theorem T.setAt_append {z : T} {q : List Int} : ∀ {p : List Int} {t y : T}, t.at p = some y → T.setAt z t (p ++ q) = T.setAt (T.setAt z y q) t p := by
  intro p
  induction p with
  | nil =>
    intro t y h
    injection h with h
    subst h
    rfl
  | cons i r ih =>
    intro t y h
    rw [T.at] at h
    split at h
    · cases h
    · rw [List.cons_append, T.setAt, T.setAt, ih h]
theorem path_last {p : List Int} (hp : p ≠ []) (h0 : 0 ≤ p.getD (p.length - 1) 0) : p = p.take (p.length - 1) ++ [((p.getD (p.length - 1) 0).toNat : Int)] := by
  have hpl := List.length_pos_iff.2 hp
  have h1 := List.take_append_drop (p.length - 1) p
  have h2 : p.drop (p.length - 1) = [p.getD (p.length - 1) 0] := by
    rw [List.drop_eq_getElem_cons (by omega), List.drop_of_length_le (by omega)]
    simp [List.getD, List.getElem?_eq_getElem (show p.length - 1 < p.length by omega)]
  rw [h2] at h1
  rw [Int.toNat_of_nonneg h0]
  exact h1.symm
theorem snoc_len (up : List Int) (i : Int) : (up ++ [i]).length - 1 = up.length := by simp
theorem snoc_take (up : List Int) (i : Int) : (up ++ [i]).take up.length = up := by simp
theorem snoc_last (up : List Int) (i : Int) : (up ++ [i]).getD up.length 0 = i := by simp [List.getD]
/-- a Kid is put in -/
theorem add_shape {t m : T} {p : List Int} (h : (addT t p m).2 = 0) : ∃ (up : List Int) (i : Nat) (u : T) (a b : List T), p = up ++ [(i : Int)] ∧ t.at up = some u ∧ u.lf = false ∧ u.ks = a ++ b ∧ a.length = i ∧ addT t p m = (T.setAt (u.kids (a ++ m :: b)) t up, 0) := by
  obtain ⟨hp, u, hu, hlf, h0, h1, he⟩ := add_ok h
  refine ⟨_, _, u, _, _, path_last hp h0, hu, hlf, (List.take_append_drop (p.getD (p.length - 1) 0).toNat u.ks).symm, ?_, he⟩
  rw [List.length_take]; omega
theorem add_at {t m u : T} {up : List Int} {i : Nat} {a b : List T} (hu : t.at up = some u) (hlf : u.lf = false) (hk : u.ks = a ++ b) (hi : a.length = i) : addT t (up ++ [(i : Int)]) m = (T.setAt (u.kids (a ++ m :: b)) t up, 0) := by
  unfold addT changedT
  rw [if_neg (by simp), snoc_len, snoc_take, snoc_last, hu]
  have : addHow (i : Int) m u = .inl (u.kids (a ++ m :: b)) := by
    unfold addHow
    have h1 : a.length + b.length = u.ks.length := by rw [hk, List.length_append]
    rw [if_neg (by rw [hlf]; decide), if_neg (by omega), hk, Int.toNat_natCast, List.take_left' hi, List.drop_left' hi]
    rfl
  simp only [this]
/-- a Kid is taken out -/
theorem cut_shape {t : T} {p : List Int} (h : (cutT t p).2.2 = 0) : ∃ (up : List Int) (i : Nat) (u k : T) (a b : List T), p = up ++ [(i : Int)] ∧ t.at up = some u ∧ u.ks = a ++ k :: b ∧ a.length = i ∧ cutT t p = (T.setAt (u.kids (a ++ b)) t up, k, 0) := by
  obtain ⟨hp, u, hu, h0, h1, _, he⟩ := cut_ok h
  have hi : (p.getD (p.length - 1) 0).toNat < u.ks.length := by omega
  refine ⟨_, _, u, u.ks.getD (p.getD (p.length - 1) 0).toNat default, u.ks.take (p.getD (p.length - 1) 0).toNat, u.ks.drop ((p.getD (p.length - 1) 0).toNat + 1), path_last hp h0, hu, ?_, ?_, ?_⟩
  · generalize (p.getD (p.length - 1) 0).toNat = q at hi ⊢
    rw [List.getD, List.getElem?_eq_getElem hi, Option.getD_some, List.getElem_cons_drop, List.take_append_drop]
  · rw [List.length_take]; omega
  · rw [he, List.eraseIdx_eq_take_drop_succ]; rfl
theorem T.at_kid {u k : T} {a b : List T} (hk : u.ks = a ++ k :: b) : u.at [(a.length : Int)] = some k := by
  rw [T.at, if_neg (by rw [hk, List.length_append, List.length_cons]; omega), T.at, hk]
  simp [List.getD]
theorem cut_at {t k u : T} {up : List Int} {i : Nat} {a b : List T} (hu : t.at up = some u) (hk : u.ks = a ++ k :: b) (hi : a.length = i) : cutT t (up ++ [(i : Int)]) = (T.setAt (u.kids (a ++ b)) t up, k, 0) := by
  have hat : t.at (up ++ [(i : Int)]) = some k := by
    rw [T.at_both, hu]
    subst hi
    exact T.at_kid hk
  have hc : changedT t up (cutHow i) = (T.setAt (u.kids (a ++ b)) t up, 0) := by
    unfold changedT cutHow
    rw [hu]
    have : u.ks.eraseIdx i = a ++ b := by
      subst hi
      rw [hk, List.eraseIdx_append_of_length_le (Nat.le_refl _), Nat.sub_self]; rfl
    simp only [this]
    rfl
  unfold cutT
  rw [if_neg (by simp), hat, snoc_len, snoc_take, snoc_last, Int.toNat_natCast]
  simp only [hc]
theorem wrap64_one {i : Nat} (h : i < 4611686018427387904) (d : Int) (h0 : 0 ≤ (i : Int) + d) (h1 : d ≤ 1) : wrap64 ((i : Int) + d) = (i : Int) + d := by
  unfold wrap64
  omega
theorem shift_last (up : List Int) {i : Nat} (h : i < 4611686018427387904) (d : Int) (h0 : 0 ≤ (i : Int) + d) (h1 : d ≤ 1) : shiftP (up ++ [(i : Int)]) ((up ++ [(i : Int)]).length - 1) d = up ++ [(i : Int) + d] := by
  unfold shiftP
  rw [snoc_len, snoc_last, wrap64_one h d h0 h1]
  simp
theorem back_snoc {up : List Int} {i : Nat} (hi : i < 4611686018427387904) (h : (backP (up ++ [(i : Int)])).2 = 0) : ∃ j : Nat, i = j + 1 ∧ (backP (up ++ [(i : Int)])) = (up ++ [(j : Int)], 0) := by
  have e3 : lastP (up ++ [(i : Int)]) = i := by unfold lastP; rw [snoc_len, snoc_last]
  unfold backP besideP at h ⊢
  rw [if_neg (by simp)] at h ⊢
  split at h
  · cases h
  · rename_i hn
    rw [if_neg hn]
    rw [e3] at hn
    refine ⟨i - 1, by omega, ?_⟩
    rw [shift_last up hi (-1) (by omega) (by omega)]
    have : (i : Int) + -1 = ((i - 1 : Nat) : Int) := by omega
    rw [this]
theorem next_at {up : List Int} {j : Nat} (hi : j + 1 < 4611686018427387904) : nextP (up ++ [(j : Int)]) = (up ++ [((j + 1 : Nat) : Int)], 0) := by
  have e3 : lastP (up ++ [(j : Int)]) = (j : Int) := by unfold lastP; rw [snoc_len, snoc_last]
  unfold nextP besideP
  rw [if_neg (by simp), e3, if_neg (by omega), shift_last up (by omega) 1 (by omega) (by omega)]
  have : (j : Int) + 1 = ((j + 1 : Nat) : Int) := by omega
  rw [this]
theorem T.ks_bulk (t : T) : t.ks.length < t.bulk := by
  have h : ∀ l : List T, l.length ≤ T.bulkAll l := by
    intro l
    induction l with
    | nil => exact Nat.zero_le _
    | cons k r ih =>
      rw [T.bulkAll, List.length_cons]
      have : 1 ≤ k.bulk := by rw [T.bulk_eq]; omega
      omega
  have := h t.ks
  rw [T.bulk_eq]; omega
end Go.Proofs.YtbhbekocmpmjfaaGreatDoor
/- WHAT AN OPERATION'S FORM IS, AND WHICH ONE UNDOES IT: plain. -/
namespace Go.Proofs.YtbhbekocmpmjfaaGreatDoor
open Go Go.RowKit

def sameSelP (a b : SelE) : Bool := decide (a.is = b.is) && sameP a.a b.a && sameP a.f b.f
def OpE.nil : OpE := OpE.of 0 [] [] 0 T.zero []
/-- the letters of a kind's fields -/
def hasL (k : Int) : Option (List Int) :=
  if k = 1 then some [112, 110] else if k = 2 then some [112, 110] else if k = 3 then some [112, 97, 111] else if k = 4 then some [112, 97, 119] else if k = 5 then some [112, 116] else if k = 6 then some [112, 111, 119]
  else if k = 7 then some [112, 97, 120] else if k = 8 then some [112, 97, 120] else if k = 9 then some [115] else none
/-- the fields, each with its letter, and whether it is set -/
noncomputable def fieldsE (o : OpE) : List (Int × Bool) := [(112, decide (0 < o.path.length)), (116, decide (0 < o.dest.length)), (97, decide (o.pos ≠ 0)), (110, decide (o.node ≠ T.zero)), (111, decide (0 < o.old.length)), (119, decide (0 < o.new.length)), (120, decide (0 < o.text.length)), (115, !sameSelP o.src SelE.nil), (115, !sameSelP o.dst SelE.nil)]
def setOf (l : List (Int × Bool)) : List Int := (l.filter (·.2)).map (·.1)
noncomputable def setE (o : OpE) : List Int := setOf (fieldsE o)
noncomputable def formT (o : OpE) : Int := match hasL o.kind with
  | none => 1
  | some fs => if (setE o).all (fun c => decide (c ∈ fs)) then 0 else 1
def undoK (k : Int) : Int := if k = 1 then 2 else if k = 2 then 1 else if k = 3 then 4 else if k = 4 then 3 else if k = 7 then 8 else if k = 8 then 7 else if k = 5 then 5 else if k = 6 then 6 else if k = 9 then 9 else 0
def OpE.turned (o : OpE) : OpE := ⟨undoK o.kind, o.path, o.dest, o.pos, o.node, o.new, o.old, o.text, o.dst, o.src⟩
noncomputable def invT (o : OpE) : OpE × Int :=
  if formT o ≠ 0 then (OpE.nil, formT o)
  else if o.kind = 5 then ({ o.turned with path := o.dest, dest := o.path }, 0)
  else if o.kind = 3 then (if (backP o.path).2 ≠ 0 then (OpE.nil, (backP o.path).2) else ({ o.turned with path := (backP o.path).1 }, 0))
  else if o.kind = 4 then (if (nextP o.path).2 ≠ 0 then (OpE.nil, (nextP o.path).2) else ({ o.turned with path := (nextP o.path).1 }, 0))
  else (o.turned, 0)
end Go.Proofs.YtbhbekocmpmjfaaGreatDoor
