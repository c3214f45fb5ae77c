/- What prop.Patch and prop.Diff say, in plain Lean. -/
import Derived.Test.YtdopncbmlehnoaaGreatDoorK25
import Derived.Test.YtdopncbmlehnoaaGreatDoorK37
namespace Go.Proofs.YtdopncbmlehnoaaGreatDoor
open Go Go.RowKit Go.Maps

theorem chkPs_iff : ∀ {l : List PropL} {last : ByteArray}, chkPs last l = 0 ↔ (∀ p ∈ l, isKey p.1 = true ∧ isVal p.2 = true) ∧ Up l ∧ ∀ p ∈ l, ltS last p.1
  | [], _ => by simp [chkPs, Up]
  | p :: r, last => by
    constructor
    · intro h
      refine ⟨fun q hq => ?_, up_of_chk h⟩
      simp only [chkPs] at h
      split at h
      · rename_i h1
        split at h
        · cases h
        · rcases List.mem_cons.1 hq with rfl | hq
          · exact Bool.and_eq_true_iff.1 h1
          · exact (chkPs_iff.1 h).1 q hq
      · cases h
    · rintro ⟨h1, h2, h3⟩
      have h4 := h1 p List.mem_cons_self
      have h5 := (not_leS p.1 last).2 (h3 p List.mem_cons_self)
      simp only [chkPs, h4.1, h4.2, h5, Bool.and_self, ↓reduceIte, Bool.false_eq_true]
      have h6 := List.pairwise_cons.1 h2
      exact chkPs_iff.2 ⟨fun q hq => h1 q (List.mem_cons_of_mem _ hq), h6.2, fun q hq => h6.1 q hq⟩
theorem ltS_empty {s : ByteArray} (h : isKey s = true) : ltS .empty s := (not_leS s .empty).1 (leS_empty s h)
theorem checkPs_iff {l : List PropL} : checkPs l = 0 ↔ l.length ≤ 16 ∧ (∀ p ∈ l, isKey p.1 = true ∧ isVal p.2 = true) ∧ Up l := by
  unfold checkPs
  by_cases h : 16 < l.length
  · rw [if_pos h]
    constructor
    · intro e; cases e
    · rintro ⟨e, _⟩; omega
  · rw [if_neg h, chkPs_iff]
    constructor
    · rintro ⟨h1, h2, _⟩; exact ⟨by omega, h1, h2⟩
    · rintro ⟨_, h1, h2⟩; exact ⟨h1, h2, fun p hp => ltS_empty (h1 p hp).1⟩
theorem firstBad_three {a b c : List PropL} : firstBad [a, b, c] = 0 ↔ checkPs a = 0 ∧ checkPs b = 0 ∧ checkPs c = 0 := by
  simp only [firstBad]
  by_cases h1 : checkPs a = 0 <;> by_cases h2 : checkPs b = 0 <;> by_cases h3 : checkPs c = 0 <;> simp [h1, h2, h3]
theorem mem_dropK {k : ByteArray} {l : List PropL} {p : PropL} : p ∈ dropK k l ↔ p ∈ l ∧ p.1 ≠ k := by
  unfold dropK
  rw [List.mem_filter]
  simp
theorem mem_minus {p : PropL} : ∀ {o l : List PropL}, p ∈ minusK l o ↔ p ∈ l ∧ p.1 ∉ o.map (·.1)
  | [], l => by simp [minusK]
  | q :: r, l => by
    rw [minusK_cons, mem_minus, mem_dropK, List.map_cons, List.mem_cons, not_or]
    exact ⟨fun ⟨⟨a, b⟩, c⟩ => ⟨a, b, c⟩, fun ⟨a, b, c⟩ => ⟨⟨a, b⟩, c⟩⟩
theorem minus_sub : ∀ (o l : List PropL), (minusK l o).Sublist l
  | [], l => List.Sublist.refl _
  | q :: r, l => by
    rw [minusK_cons]
    exact (minus_sub r _).trans List.filter_sublist
theorem nodup_sub {l m : List PropL} (h : (l.map (·.1)).Nodup) (hs : m.Sublist l) : (m.map (·.1)).Nodup := h.sublist (hs.map _)
theorem key_one {l : List PropL} (h : (l.map (·.1)).Nodup) {p q : PropL} (hp : p ∈ l) (hq : q ∈ l) (e : p.1 = q.1) : p = q := by
  have h1 := (getP_some h).2 (show (p.1, p.2) ∈ l from hp)
  have h2 := (getP_some h).2 (show (q.1, q.2) ∈ l from hq)
  rw [e, h2] at h1
  exact Prod.ext e (Option.some.inj h1).symm
theorem perm_of_mem {a b : List PropL} (ha : (a.map (·.1)).Nodup) (hb : (b.map (·.1)).Nodup) (h : ∀ p, p ∈ a ↔ p ∈ b) : a.Perm b := (List.perm_ext_iff_of_nodup (nodup_of_map _ ha) (nodup_of_map _ hb)).2 h
theorem nodup_append {a b : List PropL} (ha : (a.map (·.1)).Nodup) (hb : (b.map (·.1)).Nodup) (h : ∀ p ∈ a, ∀ q ∈ b, p.1 ≠ q.1) : ((a ++ b).map (·.1)).Nodup := by
  rw [List.map_append, List.nodup_append]
  refine ⟨ha, hb, fun x hx y hy => ?_⟩
  obtain ⟨p, hp, rfl⟩ := List.mem_map.1 hx
  obtain ⟨q, hq, rfl⟩ := List.mem_map.1 hy
  exact h p hp q hq

/-- what it takes that a patch can be done -/
theorem patchE_zero {l old new : List PropL} : patchE l old new = 0 ↔ (checkPs l = 0 ∧ checkPs old = 0 ∧ checkPs new = 0) ∧ (∀ p ∈ old, p ∈ l) ∧ (∀ p ∈ new, ∀ q ∈ l, q.1 = p.1 → q.1 ∈ old.map (·.1)) ∧ (minusK l old ++ new).length ≤ 16 := by
  unfold patchE
  by_cases h0 : firstBad [l, old, new] = 0
  · have h0' := firstBad_three.1 h0
    have nl : (l.map (·.1)).Nodup := (checkPs_iff.1 h0'.1).2.2.nodup
    rw [if_neg (by simp [h0])]
    have e1 : (old.all fun p => decide (getP p.1 l = some p.2)) = false ↔ ¬ ∀ p ∈ old, p ∈ l := by
      rw [← Bool.not_eq_true, List.all_eq_true]
      simp only [decide_eq_true_eq]
      refine not_congr ⟨fun h p hp => (getP_some nl).1 (h p hp), fun h p hp => (getP_some nl).2 (h p hp)⟩
    have e2 : (new.any fun p => (getP p.1 (minusK l old)).isSome) = true ↔ ¬ ∀ p ∈ new, ∀ q ∈ l, q.1 = p.1 → q.1 ∈ old.map (·.1) := by
      rw [List.any_eq_true]
      constructor
      · rintro ⟨p, hp, hs⟩ h
        obtain ⟨v, hv⟩ := Option.isSome_iff_exists.1 hs
        have hm := (getP_some (nodup_sub nl (minus_sub old l))).1 hv
        obtain ⟨h1, h2⟩ := mem_minus.1 hm
        exact h2 (h p hp _ h1 rfl)
      · intro h
        apply Classical.byContradiction
        intro hc
        apply h
        intro p hp q hq e
        apply Classical.byContradiction
        intro hn
        refine hc ⟨p, hp, ?_⟩
        have hm : (q.1, q.2) ∈ minusK l old := mem_minus.2 ⟨hq, hn⟩
        rw [← e, (getP_some (nodup_sub nl (minus_sub old l))).2 hm]
        rfl
    by_cases h1 : ∀ p ∈ old, p ∈ l
    · rw [if_neg (fun h => (e1.1 h) h1)]
      by_cases h2 : ∀ p ∈ new, ∀ q ∈ l, q.1 = p.1 → q.1 ∈ old.map (·.1)
      · rw [if_neg (fun h => (e2.1 h) h2)]
        by_cases h3 : 16 < (minusK l old ++ new).length
        · rw [if_pos h3]
          constructor
          · intro e; cases e
          · rintro ⟨_, _, _, h⟩; omega
        · rw [if_neg h3]
          exact ⟨fun _ => ⟨h0', h1, h2, by omega⟩, fun _ => rfl⟩
      · rw [if_pos (e2.2 h2)]
        constructor
        · intro e; cases e
        · rintro ⟨_, _, h, _⟩; exact absurd h h2
    · rw [if_pos (e1.2 h1)]
      constructor
      · intro e; cases e
      · rintro ⟨_, h, _⟩; exact absurd h h1
  · rw [if_pos h0]
    constructor
    · intro e; exact absurd e h0
    · rintro ⟨h, _⟩; exact absurd (firstBad_three.2 h) h0
theorem patch_ms_nodup {l old new : List PropL} (h : patchE l old new = 0) : ((minusK l old ++ new).map (·.1)).Nodup := by
  obtain ⟨⟨h1, _, h3⟩, _, h5, _⟩ := patchE_zero.1 h
  refine nodup_append (nodup_sub (checkPs_iff.1 h1).2.2.nodup (minus_sub _ _)) (checkPs_iff.1 h3).2.2.nodup (fun p hp q hq e => ?_)
  obtain ⟨h6, h7⟩ := mem_minus.1 hp
  exact h7 (h5 q hq p h6 e)

/-- what was patched may be, and is patched back -/
theorem patch_back {l old new R : List PropL} (h : patchE l old new = 0) (hR : IsSort R (minusK l old ++ new)) : checkPs R = 0 ∧ patchE R new old = 0 ∧ ∀ R', IsSort R' (minusK R new ++ old) → R' = l := by
  have hnd := patch_ms_nodup h
  obtain ⟨⟨h1, h2, h3⟩, h4, h5, h6⟩ := patchE_zero.1 h
  obtain ⟨a1, a2, a3⟩ := checkPs_iff.1 h1
  obtain ⟨b1, b2, b3⟩ := checkPs_iff.1 h2
  obtain ⟨c1, c2, c3⟩ := checkPs_iff.1 h3
  have hmem : ∀ p, p ∈ R ↔ (p ∈ l ∧ p.1 ∉ old.map (·.1)) ∨ p ∈ new := fun p => by rw [hR.1.mem_iff, List.mem_append, mem_minus]
  have hRc : checkPs R = 0 := checkPs_iff.2 ⟨by rw [hR.1.length_eq]; exact h6, fun p hp => by
    rcases (hmem p).1 hp with ⟨hp, _⟩ | hp
    · exact a2 p hp
    · exact c2 p hp, hR.2⟩
  have hkey : ∀ p ∈ old, ∀ q ∈ R, q.1 = p.1 → q.1 ∈ new.map (·.1) := by
    intro p hp q hq e
    rcases (hmem q).1 hq with ⟨_, hq⟩ | hq
    · exact absurd (List.mem_map.2 ⟨p, hp, e.symm⟩) hq
    · exact List.mem_map.2 ⟨q, hq, rfl⟩
  have hm2 : ∀ p, p ∈ minusK R new ++ old ↔ p ∈ l := by
    intro p
    rw [List.mem_append, mem_minus, hmem]
    constructor
    · rintro (⟨⟨hp, _⟩ | hp, hn⟩ | hp)
      · exact hp
      · exact absurd (List.mem_map.2 ⟨p, hp, rfl⟩) hn
      · exact h4 p hp
    · intro hp
      by_cases ho : p.1 ∈ old.map (·.1)
      · obtain ⟨q, hq, e⟩ := List.mem_map.1 ho
        have := key_one a3.nodup (h4 q hq) hp e
        exact Or.inr (this ▸ hq)
      · refine Or.inl ⟨Or.inl ⟨hp, ho⟩, fun hn => ?_⟩
        obtain ⟨q, hq, e⟩ := List.mem_map.1 hn
        exact ho (h5 q hq p hp e.symm)
  have hnd2 : ((minusK R new ++ old).map (·.1)).Nodup := by
    refine nodup_append (nodup_sub hR.2.nodup (minus_sub _ _)) b3.nodup (fun p hp q hq e => ?_)
    obtain ⟨h7, h8⟩ := mem_minus.1 hp
    exact h8 (hkey q hq p h7 e)
  have hperm := perm_of_mem hnd2 a3.nodup hm2
  refine ⟨hRc, patchE_zero.2 ⟨⟨hRc, h3, h2⟩, fun p hp => (hmem p).2 (Or.inr hp), hkey, ?_⟩, fun R' hR' => up_unique (hR'.1.trans hperm) hR'.2 a3⟩
  rw [hperm.length_eq]
  exact a1
end Go.Proofs.YtdopncbmlehnoaaGreatDoor
/- BEHIND AN OPERATION all leaves say what they said, where no text and no node was put in, taken out, or moved; and a tree may be; plain. -/
namespace Go.Proofs.YtdopncbmlehnoaaGreatDoor
open Go Go.RowKit

theorem T.chks_zero : ∀ {l : List T}, T.chks l = 0 ↔ ∀ k ∈ l, k.chk = 0
  | [] => by simp [T.chks]
  | k :: r => by
    rw [T.chks]
    by_cases h : k.chk = 0
    · rw [if_neg (by simpa using h), T.chks_zero]; simp [h]
    · rw [if_pos h]; simp [h]
theorem T.chk_zero {t : T} : t.chk = 0 ↔ t.own = 0 ∧ ∀ k ∈ t.ks, k.chk = 0 := by
  rw [T.chk_eq]
  by_cases h : t.own = 0
  · rw [if_neg (by simpa using h), T.chks_zero]; simp [h]
  · rw [if_pos h]; simp [h]
theorem T.own_zero {t : T} : t.own = 0 ↔ checkPs t.ps = 0 ∧ (t.lf = true → t.ks = []) ∧ (t.lf = false → t.ts = []) ∧ checkRs t.ts = 0 := by
  unfold T.own
  by_cases h1 : checkPs t.ps = 0
  · rw [if_neg (by simpa using h1)]
    simp only [h1, true_and]
    cases hl : t.lf with
    | true =>
      cases hk : t.ks with
      | nil => simp
      | cons k r => simp
    | false =>
      cases hk : t.ts with
      | nil => simp
      | cons k r => simp
  · rw [if_pos h1]; simp [h1]
theorem T.mem_getD {l : List T} {i : Nat} (h : i < l.length) : l.getD i default ∈ l := by
  rw [List.getD, List.getElem?_eq_getElem h]
  exact List.getElem_mem h
theorem T.chk_at {y : T} : ∀ {p : List Int} {t : T}, t.chk = 0 → t.at p = some y → y.chk = 0 := by
  intro p
  induction p with
  | nil => intro t h e; injection e with e; subst e; exact h
  | cons i r ih =>
    intro t h e
    rw [T.at] at e
    split at e
    · cases e
    · rename_i hn
      exact ih ((T.chk_zero.1 h).2 _ (T.mem_getD (by omega))) e
theorem T.own_kids {u : T} {l : List T} (h : u.own = 0) (hl : u.lf = true → l = []) : (u.kids l).own = 0 := by
  rw [T.own_zero] at h ⊢
  exact ⟨h.1, hl, h.2.2.1, h.2.2.2⟩
theorem T.chk_kids {u : T} {l : List T} (h : u.chk = 0) (hl : u.lf = true → l = []) (hk : ∀ k ∈ l, k.chk = 0) : (u.kids l).chk = 0 := T.chk_zero.2 ⟨T.own_kids (T.chk_zero.1 h).1 hl, hk⟩
theorem T.setAt_cons (y t : T) (i : Int) (r : List Int) : T.setAt y t (i :: r) = t.kids (t.ks.set i.toNat (T.setAt y (t.ks.getD i.toNat default) r)) := rfl
theorem T.chk_set {y y' : T} (hy : y'.chk = 0) : ∀ {p : List Int} {t : T}, t.chk = 0 → t.at p = some y → (T.setAt y' t p).chk = 0 := by
  intro p
  induction p with
  | nil => intro t _ _; exact hy
  | cons i r ih =>
    intro t h e
    rw [T.at] at e
    split at e
    · cases e
    · rename_i hn
      rw [T.setAt_cons]
      have hm := T.mem_getD (l := t.ks) (i := i.toNat) (by omega)
      have hk := ih ((T.chk_zero.1 h).2 _ hm) e
      refine T.chk_kids h (fun hl => ?_) (fun k hk' => ?_)
      · rw [(T.own_zero.1 (T.chk_zero.1 h).1).2.1 hl]; rfl
      · rcases List.mem_or_eq_of_mem_set hk' with h1 | h1
        · exact (T.chk_zero.1 h).2 _ h1
        · rw [h1]; exact hk
theorem T.setAt_lf {y y' : T} {p : List Int} {t : T} (h : t.at p = some y) (hy : y'.lf = y.lf) : (T.setAt y' t p).lf = t.lf := by
  cases p with
  | nil => injection h with h; subst h; exact hy
  | cons i r => rfl
theorem T.setAt_lf' {y' : T} {p : List Int} {t : T} (hp : p ≠ []) : (T.setAt y' t p).lf = t.lf := by
  cases p with
  | nil => exact absurd rfl hp
  | cons i r => rfl
theorem T.setAt_is {y y' : T} {p : List Int} {t : T} {b : Bool} (h : t.at p = some y) (hy : y'.lf = y.lf) (ht : t.lf = b) : (T.setAt y' t p).lf = b := (T.setAt_lf h hy).trans ht
theorem checkRs_app {a b : List Int} : checkRs (a ++ b) = 0 ↔ checkRs a = 0 ∧ checkRs b = 0 := by
  unfold checkRs
  rw [List.all_append]
  cases a.all isRune <;> cases b.all isRune <;> decide
theorem checkRs_take {a : List Int} (i : Nat) (h : checkRs a = 0) : checkRs (a.take i) = 0 := by
  rw [← List.take_append_drop i a, checkRs_app] at h; exact h.1
theorem checkRs_drop {a : List Int} (i : Nat) (h : checkRs a = 0) : checkRs (a.drop i) = 0 := by
  rw [← List.take_append_drop i a, checkRs_app] at h; exact h.2
/-- the forms of a node that may be -/
theorem T.chk_leaf {k : T} (h : k.chk = 0) (hl : k.lf = true) : k.ks = [] := (T.own_zero.1 (T.chk_zero.1 h).1).2.1 hl
theorem T.chk_elem {k : T} (h : k.chk = 0) (hl : k.lf = false) : k.ts = [] := (T.own_zero.1 (T.chk_zero.1 h).1).2.2.1 hl
theorem T.chk_ps {k : T} (h : k.chk = 0) : checkPs k.ps = 0 := (T.own_zero.1 (T.chk_zero.1 h).1).1
theorem T.chk_ts {k : T} (h : k.chk = 0) : checkRs k.ts = 0 := (T.own_zero.1 (T.chk_zero.1 h).1).2.2.2
theorem T.chk_ks {k : T} (h : k.chk = 0) : ∀ x ∈ k.ks, x.chk = 0 := (T.chk_zero.1 h).2
theorem T.chk_of {lf : Bool} {ps : List PropL} {ts : List Int} {ks : List T} (h1 : checkPs ps = 0) (h2 : lf = true → ks = []) (h3 : lf = false → ts = []) (h4 : checkRs ts = 0) (h5 : ∀ k ∈ ks, k.chk = 0) : (T.mk lf ps ts ks).chk = 0 :=
  T.chk_zero.2 ⟨T.own_zero.2 ⟨h1, h2, h3, h4⟩, h5⟩
theorem T.chk_join {x k : T} (hx : x.chk = 0) (hk : k.chk = 0) (hl : x.lf = k.lf) : (x.join k).chk = 0 := by
  refine T.chk_of (T.chk_ps hx) (fun h => ?_) (fun h => ?_) (checkRs_app.2 ⟨T.chk_ts hx, T.chk_ts hk⟩) (fun y hy => ?_)
  · rw [T.chk_leaf hx h, T.chk_leaf hk (hl ▸ h)]; rfl
  · rw [T.chk_elem hx h, T.chk_elem hk (hl ▸ h)]; rfl
  · rcases List.mem_append.1 hy with h | h
    · exact T.chk_ks hx y h
    · exact T.chk_ks hk y h
theorem T.chk_first {k : T} (h : k.chk = 0) (i : Nat) : (k.first i).chk = 0 := by
  unfold T.first
  split
  · rename_i hl
    exact T.chk_of (T.chk_ps h) (fun _ => T.chk_leaf h hl) (fun h => by cases h) (checkRs_take _ (T.chk_ts h)) (T.chk_ks h)
  · rename_i hl
    exact T.chk_of (T.chk_ps h) (fun h => by cases h) (fun _ => T.chk_elem h (by simpa using hl)) (T.chk_ts h) (fun x hx => T.chk_ks h x (List.mem_of_mem_take hx))
theorem T.chk_second {k : T} (h : k.chk = 0) (i : Nat) {new : List PropL} (hn : checkPs new = 0) : (k.second i new).chk = 0 := by
  unfold T.second
  split
  · exact T.chk_of hn (fun _ => rfl) (fun h => by cases h) (checkRs_drop _ (T.chk_ts h)) (fun x hx => by cases hx)
  · exact T.chk_of hn (fun h => by cases h) (fun _ => rfl) rfl (fun x hx => T.chk_ks h x (List.mem_of_mem_drop hx))
theorem T.parts_text {k : T} (h : k.chk = 0) (i : Nat) (new : List PropL) : (k.first i).text ++ (k.second i new).text = k.text := by
  unfold T.first T.second
  rw [T.text_eq k]
  split
  · rename_i hl
    simp only [T.text, T.chk_leaf h hl, T.texts, List.append_nil, List.take_append_drop]
  · rename_i hl
    simp only [T.text, T.chk_elem h (by simpa using hl), List.nil_append, ← T.texts_append, List.take_append_drop]
theorem T.join_text {x k : T} (hx : x.chk = 0) (hk : k.chk = 0) (hl : x.lf = k.lf) : (x.join k).text = x.text ++ k.text := by
  unfold T.join
  rw [T.text, T.text_eq x, T.text_eq k, T.texts_append]
  cases h : x.lf with
  | true => rw [T.chk_leaf hx h, T.chk_leaf hk (hl ▸ h)]; simp [T.texts]
  | false => rw [T.chk_elem hx h, T.chk_elem hk (hl ▸ h)]; simp
theorem T.kids_text (u : T) {l : List T} (h : T.texts l = T.texts u.ks) : (u.kids l).text = u.text := by
  rw [T.text_eq u, T.kids, T.text, h]
theorem getE_elem {u : T} {x : T} (hu : u.chk = 0) (hx : x ∈ u.ks) : u.lf = false := by
  cases h : u.lf with
  | false => rfl
  | true => rw [T.chk_leaf hu h] at hx; cases hx
/-- what all leaves say -/
theorem apply_text {n : T} {s : SelE} {o : OpE} (hb : n.bulk ≤ 4611686018427387904) (h : (applyT n s o).2.2 = 0) (hk : o.kind ≠ 1 ∧ o.kind ≠ 2 ∧ o.kind ≠ 5 ∧ o.kind ≠ 7 ∧ o.kind ≠ 8) : (applyT n s o).1.text = n.text := by
  obtain ⟨hm, h⟩ := apply_ok h
  obtain ⟨hc, _, _, hf⟩ := may_ok hm
  rcases h with ⟨h9, _, _, he⟩ | ⟨h9, hs, _, he⟩
  · rw [he]
  · have hkk := form_kind hf
    rw [he]
    show (shapedT n o).1.text = _
    rcases (show o.kind = 3 ∨ o.kind = 4 ∨ o.kind = 6 by omega) with h3 | h4 | h6
    · obtain ⟨up, i, u, x, k, a, b, _, e2, e3, _, e5, _, _, e8⟩ := done3 hb hf h3 hs
      have hu := T.chk_at hc e2
      rw [e8]
      refine T.text_setAt (T.kids_text u ?_) e2
      have hx := T.chk_ks hu x (by rw [e3]; simp)
      have hk := T.chk_ks hu k (by rw [e3]; simp)
      rw [e3, T.texts_append, T.texts_append, T.texts, T.texts, T.texts, T.join_text hx hk e5, List.append_assoc]
    · obtain ⟨up, i, u, k, a, b, _, e2, _, e3, _, _, _, _, e8⟩ := done4 hf h4 hs
      have hu := T.chk_at hc e2
      rw [e8]
      refine T.text_setAt (T.kids_text u ?_) e2
      have hk := T.chk_ks hu k (by rw [e3]; simp)
      rw [e3, T.texts_append, T.texts_append, T.texts, T.texts, T.texts, ← T.parts_text hk o.pos.toNat o.new, List.append_assoc]
    · obtain ⟨k, k', e1, e2, e3⟩ := done6 hf (.inl h6) hs
      rw [e2]
      refine T.text_setAt ?_ e1
      rcases e3 with ⟨_, _, _, rfl⟩ | ⟨h, _⟩ | ⟨h, _⟩
      · rw [T.text, T.text_eq k]
      · omega
      · omega
theorem isSort_ex : ∀ (ms : List PropL), (ms.map (·.1)).Nodup → ∃ R, IsSort R ms
  | [], _ => ⟨[], List.Perm.refl _, List.Pairwise.nil⟩
  | p :: ms, h => by
    rw [List.map_cons, List.nodup_cons] at h
    obtain ⟨R, hp, hu⟩ := isSort_ex ms h.2
    have hne : ∀ q ∈ R, q.1 ≠ p.1 := fun q hq e => h.1 (e ▸ List.mem_map_of_mem (f := fun x : PropL => x.1) (hp.subset hq))
    have hdec : ∀ q : PropL, Decidable (ltS q.1 p.1) := fun q => Classical.propDecidable _
    refine ⟨R.filter (fun q => @decide (ltS q.1 p.1) (hdec q)) ++ p :: R.filter (fun q => !(@decide (ltS q.1 p.1) (hdec q))), ?_, ?_⟩
    · refine List.perm_middle.trans (List.Perm.cons p ?_)
      exact (List.filter_append_perm _ R).trans hp
    · refine List.pairwise_append.2 ⟨hu.filter _, List.pairwise_cons.2 ⟨fun q hq => ?_, hu.filter _⟩, fun q hq r hr => ?_⟩
      · rw [List.mem_filter] at hq
        rcases ltS_tri p.1 q.1 with h1 | h1 | h1
        · exact h1
        · exact absurd h1.symm (hne q hq.1)
        · simp [h1] at hq
      · rw [List.mem_filter] at hq
        have h1 : ltS q.1 p.1 := by simpa using hq.2
        rcases List.mem_cons.1 hr with rfl | hr
        · exact h1
        · rw [List.mem_filter] at hr
          rcases ltS_tri p.1 r.1 with h2 | h2 | h2
          · exact ltS_trans h1 h2
          · exact h2 ▸ h1
          · simp [h2] at hr
theorem patchT_chk {l old new : List PropL} (h : (patchT l old new).2 = 0) : checkPs (patchT l old new).1 = 0 ∧ patchE l old new = 0 ∧ (patchT (patchT l old new).1 new old) = (l, 0) := by
  have h0 : patchE l old new = 0 := h
  have hR : IsSort (patchT l old new).1 (minusK l old ++ new) := by
    have : ∃ R, IsSort R (minusK l old ++ new) := isSort_ex _ (patch_ms_nodup h0)
    unfold patchT
    rw [if_pos h0]
    exact Classical.epsilon_spec (p := fun R => IsSort R (minusK l old ++ new)) this
  obtain ⟨h1, h2, h3⟩ := patch_back h0 hR
  refine ⟨h1, h0, ?_⟩
  have hR' : IsSort (patchT (patchT l old new).1 new old).1 (minusK (patchT l old new).1 new ++ old) := by
    have : ∃ R, IsSort R (minusK (patchT l old new).1 new ++ old) := isSort_ex _ (patch_ms_nodup h2)
    show IsSort (if patchE (patchT l old new).1 new old = 0 then _ else []) _
    rw [if_pos h2]
    exact Classical.epsilon_spec (p := fun R => IsSort R (minusK (patchT l old new).1 new ++ old)) this
  exact Prod.ext (h3 _ hR') h2
/-- a tree may be, and is no leaf -/
theorem apply_chk {n : T} {s : SelE} {o : OpE} (hb : n.bulk ≤ 4611686018427387904) (h : (applyT n s o).2.2 = 0) : (applyT n s o).1.chk = 0 ∧ (applyT n s o).1.lf = false := by
  obtain ⟨hm, h⟩ := apply_ok h
  obtain ⟨hc, hl, _, hf⟩ := may_ok hm
  rcases h with ⟨h9, _, _, he⟩ | ⟨h9, hs, _, he⟩
  · rw [he]; exact ⟨hc, hl⟩
  · have hkk := form_kind hf
    rw [he]
    show (shapedT n o).1.chk = 0 ∧ (shapedT n o).1.lf = false
    rcases (show o.kind = 1 ∨ o.kind = 2 ∨ o.kind = 3 ∨ o.kind = 4 ∨ o.kind = 5 ∨ (o.kind = 6 ∨ o.kind = 7 ∨ o.kind = 8) by omega) with h1 | h2 | h3 | h4 | h5 | h6
    · obtain ⟨up, i, u, a, b, _, e2, hul, e3, _, hcn, e8⟩ := done1 hf h1 hs
      have hu := T.chk_at hc e2
      rw [e8]
      refine ⟨T.chk_set (T.chk_kids hu (fun h => by rw [hul] at h; cases h) (fun x hx => ?_)) hc e2, T.setAt_is e2 rfl hl⟩
      rw [List.mem_append, List.mem_cons] at hx
      rcases hx with hx | rfl | hx
      · exact T.chk_ks hu x (by rw [e3]; simp [hx])
      · exact hcn
      · exact T.chk_ks hu x (by rw [e3]; simp [hx])
    · obtain ⟨up, i, u, a, b, _, e2, e3, _, e8⟩ := done2 hf h2 hs
      have hu := T.chk_at hc e2
      have hul := getE_elem hu (x := o.node) (by rw [e3]; simp)
      rw [e8]
      refine ⟨T.chk_set (T.chk_kids hu (fun h => by rw [hul] at h; cases h) (fun x hx => ?_)) hc e2, T.setAt_is e2 rfl hl⟩
      rw [List.mem_append] at hx
      rcases hx with hx | hx
      · exact T.chk_ks hu x (by rw [e3]; simp [hx])
      · exact T.chk_ks hu x (by rw [e3]; simp [hx])
    · obtain ⟨up, i, u, x, k, a, b, _, e2, e3, _, e5, _, _, e8⟩ := done3 hb hf h3 hs
      have hu := T.chk_at hc e2
      have hul := getE_elem hu (x := k) (by rw [e3]; simp)
      rw [e8]
      refine ⟨T.chk_set (T.chk_kids hu (fun h => by rw [hul] at h; cases h) (fun y hx => ?_)) hc e2, T.setAt_is e2 rfl hl⟩
      rw [List.mem_append, List.mem_cons] at hx
      rcases hx with hx | rfl | hx
      · exact T.chk_ks hu y (by rw [e3]; simp [hx])
      · exact T.chk_join (T.chk_ks hu x (by rw [e3]; simp)) (T.chk_ks hu k (by rw [e3]; simp)) e5
      · exact T.chk_ks hu y (by rw [e3]; simp [hx])
    · obtain ⟨up, i, u, k, a, b, _, e2, hul, e3, _, _, _, hnew, e8⟩ := done4 hf h4 hs
      have hu := T.chk_at hc e2
      have hk := T.chk_ks hu k (by rw [e3]; simp)
      rw [e8]
      refine ⟨T.chk_set (T.chk_kids hu (fun h => by rw [hul] at h; cases h) (fun y hx => ?_)) hc e2, T.setAt_is e2 rfl hl⟩
      rw [List.mem_append, List.mem_cons, List.mem_cons] at hx
      rcases hx with hx | rfl | rfl | hx
      · exact T.chk_ks hu y (by rw [e3]; simp [hx])
      · exact T.chk_first hk _
      · exact T.chk_second hk _ hnew
      · exact T.chk_ks hu y (by rw [e3]; simp [hx])
    · obtain ⟨up, vp, i, j, u, v, k, r, a, b, c, d, _, e2, e3, _, er, _, f2, f3, f4, _, e8⟩ := done5 hf h5 hs
      have hu := T.chk_at hc e2
      have hul := getE_elem hu (x := k) (by rw [e3]; simp)
      have hr : r.chk = 0 := by
        rw [er]
        refine T.chk_set (T.chk_kids hu (fun h => by rw [hul] at h; cases h) (fun y hx => ?_)) hc e2
        rw [List.mem_append] at hx
        rcases hx with hx | hx
        · exact T.chk_ks hu y (by rw [e3]; simp [hx])
        · exact T.chk_ks hu y (by rw [e3]; simp [hx])
      have hrl : r.lf = false := by rw [er]; exact T.setAt_is e2 rfl hl
      have hv := T.chk_at hr f2
      rw [e8]
      refine ⟨T.chk_set (T.chk_kids hv (fun h => by rw [f3] at h; cases h) (fun y hx => ?_)) hr f2, T.setAt_is f2 rfl hrl⟩
      rw [List.mem_append, List.mem_cons] at hx
      rcases hx with hx | rfl | hx
      · exact T.chk_ks hv y (by rw [f4]; simp [hx])
      · exact T.chk_ks hu y (by rw [e3]; simp)
      · exact T.chk_ks hv y (by rw [f4]; simp [hx])
    · obtain ⟨k, k', e1, e2, e3⟩ := done6 hf h6 hs
      have hk := T.chk_at hc e1
      rw [e2]
      rcases e3 with ⟨_, hp, hpt, rfl⟩ | ⟨_, hkl, hi, rfl⟩ | ⟨_, hkl, hi, rfl⟩
      · exact ⟨T.chk_set (T.chk_of (patchT_chk hpt).1 (T.chk_leaf hk) (T.chk_elem hk) (T.chk_ts hk) (T.chk_ks hk)) hc e1, (T.setAt_lf' (List.ne_nil_of_length_pos (by omega))).trans hl⟩
      · obtain ⟨_, _, h3, h4, h5⟩ := insert_ok hi
        have h6 := T.chk_ts hk
        refine ⟨T.chk_set (T.chk_of (T.chk_ps hk) (T.chk_leaf hk) (fun h => by rw [hkl] at h; cases h) ?_ (T.chk_ks hk)) hc e1, T.setAt_is e1 rfl hl⟩
        rw [h5]
        exact checkRs_app.2 ⟨checkRs_app.2 ⟨checkRs_take _ h6, h4⟩, checkRs_drop _ h6⟩
      · obtain ⟨_, _, h3, h5⟩ := remove_ok hi
        have h6 := T.chk_ts hk
        refine ⟨T.chk_set (T.chk_of (T.chk_ps hk) (T.chk_leaf hk) (fun h => by rw [hkl] at h; cases h) ?_ (T.chk_ks hk)) hc e1, T.setAt_is e1 rfl hl⟩
        rw [h5]
        exact checkRs_app.2 ⟨checkRs_take _ h6, checkRs_drop _ h6⟩
end Go.Proofs.YtdopncbmlehnoaaGreatDoor
/- WHERE A NODE STANDS behind a tree was changed at a path; plain. -/
namespace Go.Proofs.YtdopncbmlehnoaaGreatDoor
open Go Go.RowKit

/-- what a node has beside its Kids -/
def T.data (t : T) : T := t.kids []
theorem T.data_lf {a b : T} (h : a.data = b.data) : a.lf = b.lf := by
  have : a.data.lf = b.data.lf := by rw [h]
  exact this
theorem T.data_ts {a b : T} (h : a.data = b.data) : a.ts = b.ts := by
  have : a.data.ts = b.data.ts := by rw [h]
  exact this
theorem T.at_go {t : T} {i : Int} {r : List Int} (h0 : 0 ≤ i) (h1 : i < t.ks.length) : t.at (i :: r) = (t.ks.getD i.toNat default).at r := by rw [T.at, if_neg (by omega)]
theorem T.at_of {t y : T} {i : Int} {r : List Int} (h : t.at (i :: r) = some y) : 0 ≤ i ∧ i < t.ks.length ∧ (t.ks.getD i.toNat default).at r = some y := by
  rw [T.at] at h
  split at h
  · cases h
  · exact ⟨by omega, by omega, h⟩
theorem T.at_on {z x u : T} {up : List Int} (h : x.at up = some u) (r : List Int) : (T.setAt z x up).at (up ++ r) = z.at r := by
  rw [T.at_both, T.at_setAt h]; rfl
theorem T.at_up {x u : T} {up : List Int} (h : x.at up = some u) (r : List Int) : x.at (up ++ r) = u.at r := by
  rw [T.at_both, h]; rfl
theorem getD_setOff {α : Type} (l : List α) {i j : Nat} (x d : α) (h : i ≠ j) : (l.set i x).getD j d = l.getD j d := by
  simp [List.getD, h]
/-- a node that does not stand below the place of the change -/
theorem T.at_not {z : T} : ∀ {up p : List Int} {x u y : T}, x.at up = some u → x.at p = some y → (∀ j r, p ≠ up ++ j :: r) → (p = up → z.data = u.data) → ∃ y', (T.setAt z x up).at p = some y' ∧ y'.data = y.data ∧ ((∀ r, up ≠ p ++ r) → y' = y) := by
  intro up
  induction up with
  | nil =>
    intro p x u y hu hp hn hz
    cases p with
    | cons j r => exact absurd rfl (hn j r)
    | nil =>
      injection hu with hu
      injection hp with hp
      subst hu
      subst hp
      exact ⟨z, rfl, hz rfl, fun h => absurd rfl (h [])⟩
  | cons i s ih =>
    intro p x u y hu hp hn hz
    cases p with
    | nil =>
      injection hp with hp
      subst hp
      exact ⟨_, rfl, rfl, fun h => absurd rfl (h (i :: s))⟩
    | cons j r =>
      obtain ⟨hi0, hi1, hu'⟩ := T.at_of hu
      obtain ⟨hj0, hj1, hp'⟩ := T.at_of hp
      have hL : (T.setAt z x (i :: s)).ks = x.ks.set i.toNat (T.setAt z (x.ks.getD i.toNat default) s) := rfl
      have hgo : (T.setAt z x (i :: s)).at (j :: r) = ((x.ks.set i.toNat (T.setAt z (x.ks.getD i.toNat default) s)).getD j.toNat default).at r := by
        rw [T.at_go hj0 (by rw [hL, List.length_set]; exact hj1), hL]
      by_cases hij : i = j
      · subst hij
        rw [getD_setIdx _ _ _ _ (by omega)] at hgo
        obtain ⟨y', h1, h2, h3⟩ := ih hu' hp' (fun j' r' e => hn j' r' (by rw [e]; rfl)) (fun e => hz (by rw [e]))
        exact ⟨y', by rw [hgo, h1], h2, fun h => h3 (fun r' e => h r' (by rw [e]; rfl))⟩
      · rw [getD_setOff _ _ _ (by omega)] at hgo
        exact ⟨y, by rw [hgo, hp'], rfl, fun _ => rfl⟩
theorem getD_app_left {a b : List T} {j : Nat} (h : j < a.length) : (a ++ b).getD j default = a.getD j default := by
  simp [List.getD, List.getElem?_append, h]
theorem getD_app_right {a b : List T} {j : Nat} (h : a.length ≤ j) : (a ++ b).getD j default = b.getD (j - a.length) default := by
  simp [List.getD, List.getElem?_append, Nat.not_lt.2 h]
theorem alike_app (up : List Int) (a b : List Int) : alikeN (up ++ a) (up ++ b) = up.length + alikeN a b := by
  induction up with
  | nil => simp
  | cons x r ih => simp only [List.cons_append, alikeN, if_pos, List.length_cons, ih]; omega
theorem alike_take : ∀ (a b : List Int), a.take (alikeN a b) = b.take (alikeN a b)
  | [], b => by simp [alikeN]
  | x :: a, [] => by simp [alikeN]
  | x :: a, y :: b => by
    unfold alikeN
    split
    · rename_i h
      rw [List.take_succ_cons, List.take_succ_cons, alike_take a b, h]
    · rfl
/-- how a place stands to a path below its parent -/
theorem stands_on (up : List Int) (i j : Int) (r : List Int) : standsP (up ++ [i]) (up ++ j :: r) = if j = i then (if r = [] then 3 else 2) else if i < j then 1 else 0 := by
  unfold standsP
  rw [if_neg (by simp)]
  by_cases hj : j = i
  · subst hj
    rw [if_pos rfl]
    by_cases hr : r = []
    · subst hr
      rw [if_pos rfl, if_pos rfl]
    · have hne : ¬ (up ++ [j] = up ++ j :: r) := fun e => by
        have := List.append_cancel_left e
        injection this with _ h
        exact hr h.symm
      rw [if_neg hne, if_neg hr, if_pos]
      unfold aboveP
      have hl : 0 < r.length := List.length_pos_iff.2 hr
      have h1 : (up ++ [j]).length < (up ++ j :: r).length := by simp; omega
      have h2 : up ++ [j] = (up ++ j :: r).take (up ++ [j]).length := by
        rw [show up ++ j :: r = (up ++ [j]) ++ r by simp, List.take_left' rfl]
      simp only [decide_eq_true h1, decide_eq_true h2, Bool.and_self]
  · rw [if_neg hj]
    have hne : ¬ (up ++ [i] = up ++ j :: r) := fun e => by
      have := List.append_cancel_left e
      injection this with h _
      exact hj h.symm
    have hab : ¬ aboveP (up ++ [i]) (up ++ j :: r) = true := by
      rw [aboveP_alike, alike_app]
      have : alikeN [i] (j :: r) = 0 := by
        unfold alikeN; rw [if_neg (fun e => hj e.symm)]
      rw [this]
      simp
    rw [if_neg hne, if_neg hab]
    unfold leftG
    have hal : alikeN (up ++ [i]) (up ++ j :: r) = up.length := by
      rw [alike_app]
      have : alikeN [i] (j :: r) = 0 := by
        unfold alikeN; rw [if_neg (fun e => hj e.symm)]
      rw [this]; rfl
    rw [hal]
    have g1 : (up ++ [i]).getD up.length 0 = i := snoc_last up i
    have g2 : (up ++ j :: r).getD up.length 0 = j := by simp [List.getD]
    rw [g1, g2]
    by_cases hlt : i < j
    · rw [if_pos hlt, if_pos]
      simp [hlt]
    · rw [if_neg hlt, if_neg]
      simp [hlt]
theorem stands_off {up p : List Int} {i : Int} (h : ∀ j r, p ≠ up ++ j :: r) : standsP (up ++ [i]) p = 0 := by
  unfold standsP
  rw [if_neg (by simp), if_neg (fun e => h i [] e.symm)]
  have key : ∀ k : Nat, up.length ≤ k → k ≤ p.length → up.length < p.length → (up ++ [i]).take k = p.take k → False := by
    intro k h1 h2 h3 he
    have h4 : (up ++ [i]).take up.length = p.take up.length := by
      have := congrArg (List.take up.length) he
      rwa [List.take_take, List.take_take, Nat.min_eq_left h1] at this
    rw [snoc_take] at h4
    refine h (p.getD up.length 0) (p.drop (up.length + 1)) ?_
    conv => lhs; rw [← List.take_append_drop up.length p]
    rw [← h4, List.drop_eq_getElem_cons h3]
    simp [List.getD, List.getElem?_eq_getElem h3]
  rw [if_neg, if_neg]
  · unfold leftG
    intro hl
    simp only [Bool.and_eq_true, decide_eq_true_eq] at hl
    have h1 : alikeN (up ++ [i]) p = up.length := by have := hl.1; simp at this; omega
    exact key _ (by omega) (by omega) (by omega) (h1 ▸ alike_take (up ++ [i]) p)
  · unfold aboveP
    intro hl
    simp only [Bool.and_eq_true, decide_eq_true_eq] at hl
    have h1 := hl.1
    have h2 := hl.2
    rw [List.length_append, List.length_singleton] at h1
    refine key (up.length + 1) (by omega) (by omega) (by omega) ?_
    rw [List.length_append, List.length_singleton] at h2
    rw [← h2, List.take_of_length_le (by simp)]
/-- the two cases -/
theorem below_or (up p : List Int) : (∃ j r, p = up ++ j :: r) ∨ (∀ j r, p ≠ up ++ j :: r) := by
  by_cases h : ∃ j r, p = up ++ j :: r
  · exact Or.inl h
  · exact Or.inr fun j r e => h ⟨j, r, e⟩
theorem wrap64_near {j : Int} (h0 : -4611686018427387904 ≤ j) (h1 : j ≤ 4611686018427387904) : wrap64 j = j := by
  unfold wrap64
  omega
theorem shift_on (up : List Int) {j d : Int} (r : List Int) (h0 : -4611686018427387904 ≤ j + d) (h1 : j + d ≤ 4611686018427387904) : shiftP (up ++ j :: r) up.length d = up ++ (j + d) :: r := by
  unfold shiftP
  have g2 : (up ++ j :: r).getD up.length 0 = j := by simp [List.getD]
  rw [g2, wrap64_near h0 h1]
  simp
/-- a node is put in: where the others stand -/
theorem T.pos_ins {x u m y : T} {up p : List Int} {i : Nat} {a b : List T} (hu : x.at up = some u) (hk : u.ks = a ++ b) (hi : a.length = i) (hp : x.at p = some y) (hs : ∀ j ∈ p, j ≤ 1048576) :
    ∃ y', (T.setAt (u.kids (a ++ m :: b)) x up).at (insertP p (up ++ [(i : Int)])) = some y' ∧ y'.data = y.data ∧ ((∀ r, up ≠ p ++ r) → y' = y) := by
  unfold insertP
  rcases below_or up p with ⟨j, r, rfl⟩ | hn
  · rw [stands_on, snoc_len]
    have hj1 : j ≤ 1048576 := hs j (by simp)
    rw [T.at_up hu] at hp
    obtain ⟨h0, h1, h2⟩ := T.at_of hp
    rw [hk] at h1 h2
    refine ⟨y, ?_, rfl, fun _ => rfl⟩
    by_cases hlt : j < i
    · have e : (if j = (i : Int) then (if r = [] then (3 : Int) else 2) else if (i : Int) < j then 1 else 0) = 0 := by
        rw [if_neg (by omega), if_neg (by omega)]
      rw [if_pos e, T.at_on hu, T.at_go h0 (by rw [T.kids_ks, List.length_append, List.length_cons]; rw [List.length_append] at h1; omega), T.kids_ks, getD_app_left (by omega)]
      rw [getD_app_left (by omega)] at h2
      exact h2
    · have e : (if j = (i : Int) then (if r = [] then (3 : Int) else 2) else if (i : Int) < j then 1 else 0) ≠ 0 := by
        by_cases hj : j = i
        · rw [if_pos hj]; split <;> decide
        · rw [if_neg hj, if_pos (by omega)]; decide
      rw [if_neg e, shift_on up r (by omega) (by omega), T.at_on hu, T.at_go (by omega) (by rw [T.kids_ks, List.length_append, List.length_cons]; rw [List.length_append] at h1; omega), T.kids_ks]
      rw [getD_app_right (by omega)] at h2 ⊢
      have : (j + 1).toNat - a.length = (j.toNat - a.length) + 1 := by omega
      rw [this]
      exact h2
  · rw [stands_off hn, if_pos rfl]
    exact T.at_not hu hp hn (fun _ => rfl)
/-- a node is taken out: where the others stand -/
theorem T.pos_cut {x u k y : T} {up p : List Int} {i : Nat} {a b : List T} (hu : x.at up = some u) (hk : u.ks = a ++ k :: b) (hi : a.length = i) (hp : x.at p = some y) (hs : ∀ j ∈ p, j ≤ 1048576) (h3 : standsP (up ++ [(i : Int)]) p ≠ 3) (h2 : standsP (up ++ [(i : Int)]) p ≠ 2) :
    ∃ y', (T.setAt (u.kids (a ++ b)) x up).at (if standsP (up ++ [(i : Int)]) p = 1 then shiftP p up.length (-1) else p) = some y' ∧ y'.data = y.data ∧ ((∀ r, up ≠ p ++ r) → y' = y) := by
  rcases below_or up p with ⟨j, r, rfl⟩ | hn
  · rw [stands_on] at h3 h2 ⊢
    have hj1 : j ≤ 1048576 := hs j (by simp)
    have hji : ¬ j = (i : Int) := fun e => by
      rw [if_pos e] at h3 h2
      split at h3
      · exact h3 rfl
      · rename_i hr
        rw [if_neg hr] at h2
        exact h2 rfl
    rw [T.at_up hu] at hp
    obtain ⟨h0, h1, h4⟩ := T.at_of hp
    rw [hk] at h1 h4
    rw [List.length_append, List.length_cons] at h1
    refine ⟨y, ?_, rfl, fun _ => rfl⟩
    rw [if_neg hji]
    by_cases hlt : (i : Int) < j
    · rw [if_pos hlt, if_pos rfl, shift_on up r (by omega) (by omega), T.at_on hu, T.at_go (by omega) (by rw [T.kids_ks, List.length_append]; omega), T.kids_ks]
      rw [getD_app_right (by omega)] at h4 ⊢
      have : j.toNat - a.length = ((j + -1).toNat - a.length) + 1 := by omega
      rw [this] at h4
      exact h4
    · rw [if_neg hlt, if_neg (by decide), T.at_on hu, T.at_go h0 (by rw [T.kids_ks, List.length_append]; omega), T.kids_ks]
      rw [getD_app_left (by omega)] at h4 ⊢
      exact h4
  · rw [stands_off hn, if_neg (by decide)]
    exact T.at_not hu hp hn (fun _ => rfl)
/-- what stands at, or below, a place -/
theorem stands_in {up p : List Int} {i : Int} (h : standsP (up ++ [i]) p = 3 ∨ standsP (up ++ [i]) p = 2) : ∃ r, p = up ++ i :: r ∧ (standsP (up ++ [i]) p = 3 ↔ r = []) := by
  rcases below_or up p with ⟨j, r, rfl⟩ | hn
  · rw [stands_on] at h ⊢
    by_cases hj : j = i
    · subst hj
      refine ⟨r, rfl, ?_⟩
      rw [if_pos rfl]
      by_cases hr : r = []
      · simp [hr]
      · simp [hr]
    · rw [if_neg hj] at h
      split at h <;> omega
  · rw [stands_off hn] at h; omega
end Go.Proofs.YtdopncbmlehnoaaGreatDoor
