/- What prop.Patch and prop.Diff say, in plain Lean. -/
import Derived.Test.YtjbfimeckplcmaaDoorPatch
namespace Go.Proofs.YtjbfimeckplcmaaDoor
open Go Go.RowKit Go.Maps

theorem chkPs_iff : ∀ {l : List PropL} {last : ByteArray}, chkPs last l = 0 ↔ (∀ p ∈ l, isKey p.1 = true ∧ isVal p.2 = true) ∧ Up l ∧ ∀ p ∈ l, ltS last p.1
  | [], _ => by simp [chkPs, Up]
  | p :: r, last => by
    constructor
    · intro h
      refine ⟨fun q hq => ?_, up_of_chk h⟩
      simp only [chkPs] at h
      split at h
      · rename_i h1
        split at h
        · cases h
        · rcases List.mem_cons.1 hq with rfl | hq
          · exact Bool.and_eq_true_iff.1 h1
          · exact (chkPs_iff.1 h).1 q hq
      · cases h
    · rintro ⟨h1, h2, h3⟩
      have h4 := h1 p List.mem_cons_self
      have h5 := (not_leS p.1 last).2 (h3 p List.mem_cons_self)
      simp only [chkPs, h4.1, h4.2, h5, Bool.and_self, ↓reduceIte, Bool.false_eq_true]
      have h6 := List.pairwise_cons.1 h2
      exact chkPs_iff.2 ⟨fun q hq => h1 q (List.mem_cons_of_mem _ hq), h6.2, fun q hq => h6.1 q hq⟩
theorem ltS_empty {s : ByteArray} (h : isKey s = true) : ltS .empty s := (not_leS s .empty).1 (leS_empty s h)
theorem checkPs_iff {l : List PropL} : checkPs l = 0 ↔ l.length ≤ 16 ∧ (∀ p ∈ l, isKey p.1 = true ∧ isVal p.2 = true) ∧ Up l := by
  unfold checkPs
  by_cases h : 16 < l.length
  · rw [if_pos h]
    constructor
    · intro e; cases e
    · rintro ⟨e, _⟩; omega
  · rw [if_neg h, chkPs_iff]
    constructor
    · rintro ⟨h1, h2, _⟩; exact ⟨by omega, h1, h2⟩
    · rintro ⟨_, h1, h2⟩; exact ⟨h1, h2, fun p hp => ltS_empty (h1 p hp).1⟩
theorem checkPs_sub {l m : List PropL} (h : checkPs l = 0) (hs : m.Sublist l) : checkPs m = 0 := by
  obtain ⟨h1, h2, h3⟩ := checkPs_iff.1 h
  exact checkPs_iff.2 ⟨Nat.le_trans hs.length_le h1, fun p hp => h2 p (hs.subset hp), List.Pairwise.sublist hs h3⟩
theorem firstBad_three {a b c : List PropL} : firstBad [a, b, c] = 0 ↔ checkPs a = 0 ∧ checkPs b = 0 ∧ checkPs c = 0 := by
  simp only [firstBad]
  by_cases h1 : checkPs a = 0 <;> by_cases h2 : checkPs b = 0 <;> by_cases h3 : checkPs c = 0 <;> simp [h1, h2, h3]
theorem firstBad_two {a b : List PropL} : firstBad [a, b] = 0 ↔ checkPs a = 0 ∧ checkPs b = 0 := by
  simp only [firstBad]
  by_cases h1 : checkPs a = 0 <;> by_cases h2 : checkPs b = 0 <;> simp [h1, h2]

theorem mem_dropK {k : ByteArray} {l : List PropL} {p : PropL} : p ∈ dropK k l ↔ p ∈ l ∧ p.1 ≠ k := by
  unfold dropK
  rw [List.mem_filter]
  simp
theorem mem_minus {p : PropL} : ∀ {o l : List PropL}, p ∈ minusK l o ↔ p ∈ l ∧ p.1 ∉ o.map (·.1)
  | [], l => by simp [minusK]
  | q :: r, l => by
    rw [minusK_cons, mem_minus, mem_dropK, List.map_cons, List.mem_cons, not_or]
    exact ⟨fun ⟨⟨a, b⟩, c⟩ => ⟨a, b, c⟩, fun ⟨a, b, c⟩ => ⟨⟨a, b⟩, c⟩⟩
theorem minus_sub : ∀ (o l : List PropL), (minusK l o).Sublist l
  | [], l => List.Sublist.refl _
  | q :: r, l => by
    rw [minusK_cons]
    exact (minus_sub r _).trans List.filter_sublist
theorem nodup_sub {l m : List PropL} (h : (l.map (·.1)).Nodup) (hs : m.Sublist l) : (m.map (·.1)).Nodup := h.sublist (hs.map _)
theorem key_one {l : List PropL} (h : (l.map (·.1)).Nodup) {p q : PropL} (hp : p ∈ l) (hq : q ∈ l) (e : p.1 = q.1) : p = q := by
  have h1 := (getP_some h).2 (show (p.1, p.2) ∈ l from hp)
  have h2 := (getP_some h).2 (show (q.1, q.2) ∈ l from hq)
  rw [e, h2] at h1
  exact Prod.ext e (Option.some.inj h1).symm
theorem perm_of_mem {a b : List PropL} (ha : (a.map (·.1)).Nodup) (hb : (b.map (·.1)).Nodup) (h : ∀ p, p ∈ a ↔ p ∈ b) : a.Perm b := (List.perm_ext_iff_of_nodup (nodup_of_map _ ha) (nodup_of_map _ hb)).2 h
theorem getP_perm {a b : List PropL} (ha : (a.map (·.1)).Nodup) (h : a.Perm b) (k : ByteArray) : getP k a = getP k b := by
  have hb : (b.map (·.1)).Nodup := (h.map _).nodup_iff.1 ha
  cases hk : getP k a with
  | none =>
    symm
    rw [getP_none] at hk ⊢
    exact fun hm => hk ((h.map _).mem_iff.2 hm)
  | some v =>
    rw [getP_some ha] at hk
    exact ((getP_some hb).2 (h.mem_iff.1 hk)).symm
theorem nodup_append {a b : List PropL} (ha : (a.map (·.1)).Nodup) (hb : (b.map (·.1)).Nodup) (h : ∀ p ∈ a, ∀ q ∈ b, p.1 ≠ q.1) : ((a ++ b).map (·.1)).Nodup := by
  rw [List.map_append, List.nodup_append]
  refine ⟨ha, hb, fun x hx y hy => ?_⟩
  obtain ⟨p, hp, rfl⟩ := List.mem_map.1 hx
  obtain ⟨q, hq, rfl⟩ := List.mem_map.1 hy
  exact h p hp q hq

/-- what it takes that a patch can be done -/
theorem patchE_zero {l old new : List PropL} : patchE l old new = 0 ↔ (checkPs l = 0 ∧ checkPs old = 0 ∧ checkPs new = 0) ∧ (∀ p ∈ old, p ∈ l) ∧ (∀ p ∈ new, ∀ q ∈ l, q.1 = p.1 → q.1 ∈ old.map (·.1)) ∧ (minusK l old ++ new).length ≤ 16 := by
  unfold patchE
  by_cases h0 : firstBad [l, old, new] = 0
  · have h0' := firstBad_three.1 h0
    have nl : (l.map (·.1)).Nodup := (checkPs_iff.1 h0'.1).2.2.nodup
    rw [if_neg (by simp [h0])]
    have e1 : (old.all fun p => decide (getP p.1 l = some p.2)) = false ↔ ¬ ∀ p ∈ old, p ∈ l := by
      rw [← Bool.not_eq_true, List.all_eq_true]
      simp only [decide_eq_true_eq]
      refine not_congr ⟨fun h p hp => (getP_some nl).1 (h p hp), fun h p hp => (getP_some nl).2 (h p hp)⟩
    have e2 : (new.any fun p => (getP p.1 (minusK l old)).isSome) = true ↔ ¬ ∀ p ∈ new, ∀ q ∈ l, q.1 = p.1 → q.1 ∈ old.map (·.1) := by
      rw [List.any_eq_true]
      constructor
      · rintro ⟨p, hp, hs⟩ h
        obtain ⟨v, hv⟩ := Option.isSome_iff_exists.1 hs
        have hm := (getP_some (nodup_sub nl (minus_sub old l))).1 hv
        obtain ⟨h1, h2⟩ := mem_minus.1 hm
        exact h2 (h p hp _ h1 rfl)
      · intro h
        apply Classical.byContradiction
        intro hc
        apply h
        intro p hp q hq e
        apply Classical.byContradiction
        intro hn
        refine hc ⟨p, hp, ?_⟩
        have hm : (q.1, q.2) ∈ minusK l old := mem_minus.2 ⟨hq, hn⟩
        rw [← e, (getP_some (nodup_sub nl (minus_sub old l))).2 hm]
        rfl
    by_cases h1 : ∀ p ∈ old, p ∈ l
    · rw [if_neg (fun h => (e1.1 h) h1)]
      by_cases h2 : ∀ p ∈ new, ∀ q ∈ l, q.1 = p.1 → q.1 ∈ old.map (·.1)
      · rw [if_neg (fun h => (e2.1 h) h2)]
        by_cases h3 : 16 < (minusK l old ++ new).length
        · rw [if_pos h3]
          constructor
          · intro e; cases e
          · rintro ⟨_, _, _, h⟩; omega
        · rw [if_neg h3]
          exact ⟨fun _ => ⟨h0', h1, h2, by omega⟩, fun _ => rfl⟩
      · rw [if_pos (e2.2 h2)]
        constructor
        · intro e; cases e
        · rintro ⟨_, _, h, _⟩; exact absurd h h2
    · rw [if_pos (e1.2 h1)]
      constructor
      · intro e; cases e
      · rintro ⟨_, h, _⟩; exact absurd h h1
  · rw [if_pos h0]
    constructor
    · intro e; exact absurd e h0
    · rintro ⟨h, _⟩; exact absurd (firstBad_three.2 h) h0
theorem patch_ms_nodup {l old new : List PropL} (h : patchE l old new = 0) : ((minusK l old ++ new).map (·.1)).Nodup := by
  obtain ⟨⟨h1, _, h3⟩, _, h5, _⟩ := patchE_zero.1 h
  refine nodup_append (nodup_sub (checkPs_iff.1 h1).2.2.nodup (minus_sub _ _)) (checkPs_iff.1 h3).2.2.nodup (fun p hp q hq e => ?_)
  obtain ⟨h6, h7⟩ := mem_minus.1 hp
  exact h7 (h5 q hq p h6 e)

/-- nothing changed -/
theorem patch_nothing (a : List PropL) : patchE a [] [] = checkPs a := by
  by_cases h : checkPs a = 0
  · rw [h]
    refine patchE_zero.2 ⟨⟨h, rfl, rfl⟩, fun p hp => (by cases hp), fun p hp => (by cases hp), ?_⟩
    have := (checkPs_iff.1 h).1
    simpa [minusK] using this
  · unfold patchE
    have : firstBad [a, [], []] = checkPs a := by simp [firstBad, h]
    rw [this, if_pos h]
theorem patch_nothing_is {a R : List PropL} (h : checkPs a = 0) (hR : IsSort R (minusK a [] ++ [])) : R = a := by
  have : minusK a [] ++ [] = a := by simp [minusK]
  rw [this] at hR
  exact up_unique hR.1 hR.2 (checkPs_iff.1 h).2.2

theorem mem_without {a b : List PropL} {p : PropL} : p ∈ withoutP a b ↔ p ∈ a ∧ p ∉ b := by
  unfold withoutP hasP
  rw [List.mem_filter]
  simp only [Bool.not_eq_true', List.any_eq_false, decide_eq_true_eq]
  exact and_congr_right fun _ => ⟨fun h hm => h p hm rfl, fun h q hq e => h (e ▸ hq)⟩
theorem without_none {a b : List PropL} : withoutP a b = [] ↔ ∀ p ∈ a, p ∈ b := by
  rw [List.eq_nil_iff_forall_not_mem]
  constructor
  · intro h p hp
    apply Classical.byContradiction
    intro hn
    exact h p (mem_without.2 ⟨hp, hn⟩)
  · intro h p hp
    obtain ⟨h1, h2⟩ := mem_without.1 hp
    exact h2 (h p h1)
theorem same_iff {a b : List PropL} (ha : checkPs a = 0) (hb : checkPs b = 0) : a = b ↔ (withoutP a b).length + (withoutP b a).length = 0 := by
  have ua := (checkPs_iff.1 ha).2.2
  have ub := (checkPs_iff.1 hb).2.2
  constructor
  · rintro rfl
    have : withoutP a a = [] := without_none.2 (fun p hp => hp)
    simp [this]
  · intro h
    have h1 := without_none.1 (List.length_eq_zero_iff.1 (show (withoutP a b).length = 0 by omega))
    have h2 := without_none.1 (List.length_eq_zero_iff.1 (show (withoutP b a).length = 0 by omega))
    exact up_unique (perm_of_mem ua.nodup ub.nodup (fun p => ⟨h1 p, h2 p⟩)) ua ub
/-- one list patched with what differs -/
theorem patch_diff {a b : List PropL} (ha : checkPs a = 0) (hb : checkPs b = 0) : patchE a (withoutP a b) (withoutP b a) = 0 ∧ ∀ R, IsSort R (minusK a (withoutP a b) ++ withoutP b a) → R = b := by
  have ua := (checkPs_iff.1 ha).2.2
  have ub := (checkPs_iff.1 hb).2.2
  have s1 : (withoutP a b).Sublist a := List.filter_sublist
  have s2 : (withoutP b a).Sublist b := List.filter_sublist
  have hkey : ∀ p ∈ withoutP b a, ∀ q ∈ a, q.1 = p.1 → q.1 ∈ (withoutP a b).map (·.1) := by
    intro p hp q hq e
    obtain ⟨h1, h2⟩ := mem_without.1 hp
    refine List.mem_map.2 ⟨q, mem_without.2 ⟨hq, fun hqb => ?_⟩, rfl⟩
    have := key_one ub.nodup hqb h1 e
    exact h2 (this ▸ hq)
  have hmem : ∀ p, p ∈ minusK a (withoutP a b) ++ withoutP b a ↔ p ∈ b := by
    intro p
    rw [List.mem_append, mem_minus, mem_without]
    constructor
    · rintro (⟨h1, h2⟩ | ⟨h1, _⟩)
      · apply Classical.byContradiction
        intro hn
        exact h2 (List.mem_map.2 ⟨p, mem_without.2 ⟨h1, hn⟩, rfl⟩)
      · exact h1
    · intro h
      by_cases hpa : p ∈ a
      · refine Or.inl ⟨hpa, fun hm => ?_⟩
        obtain ⟨q, hq, e⟩ := List.mem_map.1 hm
        obtain ⟨h1, h2⟩ := mem_without.1 hq
        have := key_one ua.nodup h1 hpa e
        exact h2 (this ▸ h)
      · exact Or.inr ⟨h, hpa⟩
  have hnd : ((minusK a (withoutP a b) ++ withoutP b a).map (·.1)).Nodup := by
    refine nodup_append (nodup_sub ua.nodup (minus_sub _ _)) (nodup_sub ub.nodup s2) (fun p hp q hq e => ?_)
    obtain ⟨h6, h7⟩ := mem_minus.1 hp
    exact h7 (hkey q hq p h6 e)
  have hperm := perm_of_mem hnd ub.nodup hmem
  refine ⟨patchE_zero.2 ⟨⟨ha, checkPs_sub ha s1, checkPs_sub hb s2⟩, fun p hp => (mem_without.1 hp).1, hkey, ?_⟩, fun R hR => up_unique (hR.1.trans hperm) hR.2 ub⟩
  rw [hperm.length_eq]
  exact (checkPs_iff.1 hb).1
/-- what was patched may be, and is patched back -/
theorem patch_back {l old new R : List PropL} (h : patchE l old new = 0) (hR : IsSort R (minusK l old ++ new)) : checkPs R = 0 ∧ patchE R new old = 0 ∧ ∀ R', IsSort R' (minusK R new ++ old) → R' = l := by
  have hnd := patch_ms_nodup h
  obtain ⟨⟨h1, h2, h3⟩, h4, h5, h6⟩ := patchE_zero.1 h
  obtain ⟨a1, a2, a3⟩ := checkPs_iff.1 h1
  obtain ⟨b1, b2, b3⟩ := checkPs_iff.1 h2
  obtain ⟨c1, c2, c3⟩ := checkPs_iff.1 h3
  have hmem : ∀ p, p ∈ R ↔ (p ∈ l ∧ p.1 ∉ old.map (·.1)) ∨ p ∈ new := fun p => by rw [hR.1.mem_iff, List.mem_append, mem_minus]
  have hRc : checkPs R = 0 := checkPs_iff.2 ⟨by rw [hR.1.length_eq]; exact h6, fun p hp => by
    rcases (hmem p).1 hp with ⟨hp, _⟩ | hp
    · exact a2 p hp
    · exact c2 p hp, hR.2⟩
  have hkey : ∀ p ∈ old, ∀ q ∈ R, q.1 = p.1 → q.1 ∈ new.map (·.1) := by
    intro p hp q hq e
    rcases (hmem q).1 hq with ⟨_, hq⟩ | hq
    · exact absurd (List.mem_map.2 ⟨p, hp, e.symm⟩) hq
    · exact List.mem_map.2 ⟨q, hq, rfl⟩
  have hm2 : ∀ p, p ∈ minusK R new ++ old ↔ p ∈ l := by
    intro p
    rw [List.mem_append, mem_minus, hmem]
    constructor
    · rintro (⟨⟨hp, _⟩ | hp, hn⟩ | hp)
      · exact hp
      · exact absurd (List.mem_map.2 ⟨p, hp, rfl⟩) hn
      · exact h4 p hp
    · intro hp
      by_cases ho : p.1 ∈ old.map (·.1)
      · obtain ⟨q, hq, e⟩ := List.mem_map.1 ho
        have := key_one a3.nodup (h4 q hq) hp e
        exact Or.inr (this ▸ hq)
      · refine Or.inl ⟨Or.inl ⟨hp, ho⟩, fun hn => ?_⟩
        obtain ⟨q, hq, e⟩ := List.mem_map.1 hn
        exact ho (h5 q hq p hp e.symm)
  have hnd2 : ((minusK R new ++ old).map (·.1)).Nodup := by
    refine nodup_append (nodup_sub hR.2.nodup (minus_sub _ _)) b3.nodup (fun p hp q hq e => ?_)
    obtain ⟨h7, h8⟩ := mem_minus.1 hp
    exact h8 (hkey q hq p h7 e)
  have hperm := perm_of_mem hnd2 a3.nodup hm2
  refine ⟨hRc, patchE_zero.2 ⟨⟨hRc, h3, h2⟩, fun p hp => (hmem p).2 (Or.inr hp), hkey, ?_⟩, fun R' hR' => up_unique (hR'.1.trans hperm) hR'.2 a3⟩
  rw [hperm.length_eq]
  exact a1
/-- a key behind a patch -/
theorem patch_key {l old new R : List PropL} (h : patchE l old new = 0) (hR : IsSort R (minusK l old ++ new)) (k : ByteArray) : getP k R = (match getP k new with
    | some v => some v
    | none => if (getP k old).isSome then none else getP k l) := by
  have hnd := patch_ms_nodup h
  have hndR := hR.2.nodup
  rw [getP_perm hndR hR.1, getP_append]
  obtain ⟨⟨h1, h2, h3⟩, h4, h5, h6⟩ := patchE_zero.1 h
  cases hn : getP k new with
  | some v =>
    have hnone : getP k (minusK l old) = none := by
      rw [getP_none]
      intro hm
      obtain ⟨p, hp, e⟩ := List.mem_map.1 hm
      have hv := (getP_some (checkPs_iff.1 h3).2.2.nodup).1 hn
      obtain ⟨h7, h8⟩ := mem_minus.1 hp
      exact h8 (h5 _ hv p h7 e)
    rw [hnone]
    simp
  | none =>
    by_cases ho : k ∈ old.map (·.1)
    · have : (getP k old).isSome = true := by
        cases hg : getP k old with
        | none => exact absurd ho (getP_none.1 hg)
        | some _ => rfl
      rw [getP_minus_in ho]
      simp [this]
    · rw [getP_minus_out ho, getP_none.2 ho]
      simp
end Go.Proofs.YtjbfimeckplcmaaDoor
