/- A POINT THAT STAYS, by an operation that was done, is in the tree behind it; plain. -/
import Derived.Test.YtdopncbmlehnoaaGreatDoorK38
import Derived.Test.YtdopncbmlehnoaaGreatDoorK10
namespace Go.Proofs.YtdopncbmlehnoaaGreatDoor
open Go Go.RowKit

theorem smallL_iff {l : List Int} : smallL l = true ↔ ∀ j ∈ l, 0 ≤ j ∧ j ≤ 1048576 := by
  unfold smallL
  rw [idxOf_any]
  constructor
  · intro h j hj
    have h' : l.any badN = false := by simpa using h
    rw [List.any_eq_false] at h'
    exact badN_bound (by simpa using h' j hj)
  · intro h
    have : l.any badN = false := by
      rw [List.any_eq_false]
      intro j hj
      have := h j hj
      unfold badN
      simp only [Bool.or_eq_true, decide_eq_true_eq]
      omega
    rw [this]; rfl
theorem move_small {p q d : List Int} {kind pos : Int} (h : (moveP p q d kind pos).2 = true) : (∀ j ∈ p, 0 ≤ j ∧ j ≤ 1048576) ∧ (∀ j ∈ q, 0 ≤ j ∧ j ≤ 1048576) ∧ (∀ j ∈ d, 0 ≤ j ∧ j ≤ 1048576) ∧ (0 ≤ pos ∧ pos ≤ 1048576) ∧ moveP p q d kind pos = if q.length = 0 then (p, true) else moveK p q d kind pos (standsP q p) := by
  unfold moveP at h ⊢
  split at h
  · rename_i hs
    rw [if_pos hs]
    obtain ⟨h1, h2, h3, h4⟩ := hs
    exact ⟨smallL_iff.1 h1, smallL_iff.1 h2, smallL_iff.1 h3, smallL_iff.1 h4 pos (by simp), rfl⟩
  · cases h
theorem checkPt_zero {t : T} {p : PtE} : checkPt t p = 0 ↔ ∃ k, t.at p.p = some k ∧ k.lf = true ∧ 0 ≤ p.o ∧ p.o ≤ k.ts.length := by
  unfold checkPt
  cases h : t.at p.p with
  | none => simp
  | some k =>
    simp only [Option.some.injEq, exists_eq_left']
    cases hl : k.lf with
    | false => simp
    | true =>
      simp only [Bool.true_eq_false, if_false, true_and]
      split
      · rename_i h1
        constructor
        · intro h; cases h
        · intro h; omega
      · rename_i h1
        constructor
        · intro _; omega
        · intro _; rfl
/-- what a point that stays says of its path -/
theorem stay_move {p : PtE} {o : OpE} (h : stayP p o = true) : (0 ≤ p.o ∧ p.o ≤ 1048576) ∧ (moveP p.p o.path o.dest o.kind o.pos).2 = true ∧
    (((moveP p.p o.path o.dest o.kind o.pos).1 = p.p ∧ (o.path = p.p → (o.kind = 7 → o.text.length = 0 ∨ p.o < o.pos) ∧ (o.kind = 8 → o.text.length = 0 ∨ p.o ≤ o.pos) ∧ (o.kind = 4 → p.p ≠ [] → p.o < o.pos))) ∨
     (o.kind = 4 ∧ o.path = p.p ∧ (nextP (moveP p.p o.path o.dest o.kind o.pos).1).2 = 0 ∧ (nextP (moveP p.p o.path o.dest o.kind o.pos).1).1 = p.p)) := by
  unfold stayP ptMoveE at h
  split at h
  · simp at h
  · rename_i hn
    have hb : 0 ≤ p.o ∧ p.o ≤ 1048576 := ⟨by omega, by omega⟩
    have hm : (moveP p.p o.path o.dest o.kind o.pos).2 = true := by
      cases hv : (moveP p.p o.path o.dest o.kind o.pos).2 with
      | true => rfl
      | false => exact absurd (Or.inl hv) hn
    refine ⟨hb, hm, ?_⟩
    generalize (moveP p.p o.path o.dest o.kind o.pos).1 = m at h ⊢
    clear hn hm
    unfold ptGo at h
    split at h
    · rename_i hne
      simp only [sameP, Bool.true_and, Bool.and_eq_true, decide_eq_true_eq] at h
      exact Or.inl ⟨h.1.symm, fun e => absurd e hne⟩
    · rename_i he
      have he : o.path = p.p := Classical.not_not.1 he
      unfold ptGo' at h
      split at h
      · rename_i h7
        simp only [sameP, Bool.true_and, Bool.and_eq_true, decide_eq_true_eq] at h
        exact Or.inl ⟨h.1.symm, fun _ => ⟨fun _ => by omega, fun e => by omega, fun e => by omega⟩⟩
      · rename_i h7
        split at h
        · rename_i h8
          simp only [sameP, Bool.true_and, Bool.and_eq_true, decide_eq_true_eq] at h
          exact Or.inl ⟨h.1.symm, fun _ => ⟨fun e => by omega, fun _ => by omega, fun e => by omega⟩⟩
        · rename_i h8
          split at h
          · rename_i h3
            simp only [sameP, Bool.true_and, Bool.and_eq_true, decide_eq_true_eq] at h
            exact Or.inl ⟨h.1.symm, fun _ => ⟨fun e => by omega, fun e => by omega, fun e => by omega⟩⟩
          · split at h
            · simp at h
            · split at h
              · rename_i h4
                split at h
                · rename_i hx
                  simp only [sameP, Bool.true_and, Bool.and_eq_true, decide_eq_true_eq] at h
                  exact Or.inr ⟨h4.1, he, hx, h.1.symm⟩
                · simp at h
              · rename_i h4
                simp only [sameP, Bool.true_and, Bool.and_eq_true, decide_eq_true_eq] at h
                refine Or.inl ⟨h.1.symm, fun _ => ⟨fun e => ?_, fun e => ?_, fun e hp => ?_⟩⟩
                · have : ¬ (o.pos < p.o ∨ o.pos = p.o ∧ (1 : Int) = 1) := fun h' => h7 ⟨e, h'⟩
                  omega
                · have : ¬ (o.pos < p.o) := fun h' => h8 ⟨e, h'⟩
                  omega
                · have : ¬ (o.pos < p.o ∨ o.pos = p.o ∧ (1 : Int) = 1) := fun h' => h4 ⟨e, by rw [← h.1]; simpa using hp, h'⟩
                  omega
theorem shiftP_at {z : List Int} {k : Nat} {d : Int} (hk : k < z.length) : (shiftP z k d).getD k 0 = wrap64 (z.getD k 0 + d) := by
  unfold shiftP
  simp [List.getD, hk]
theorem shiftP_off {z : List Int} {k j : Nat} {d : Int} (hk : k ≠ j) : (shiftP z k d).getD j 0 = z.getD j 0 := by
  unfold shiftP
  simp [List.getD, hk]
theorem shiftP_len (z : List Int) (k : Nat) (d : Int) : (shiftP z k d).length = z.length := by
  unfold shiftP; rw [List.length_set]
/-- a number that is shifted is another one -/
theorem shift_ne {z p : List Int} {k : Nat} {d : Int} (hk : k < p.length) (hl : z.length = p.length) (he : z.getD k 0 = p.getD k 0) (hs : ∀ j ∈ p, 0 ≤ j ∧ j ≤ 1048576) (hd : d = 1 ∨ d = -1) (h : shiftP z k d = p) : False := by
  have h1 := shiftP_at (z := z) (k := k) (d := d) (by omega)
  rw [h, he] at h1
  have hm : p.getD k 0 ∈ p := by
    rw [List.getD, List.getElem?_eq_getElem hk]
    exact List.getElem_mem hk
  have := hs _ hm
  rw [wrap64_near (by omega) (by omega)] at h1
  omega
theorem T.leaf_at {y k : T} {r : List Int} (hk : k.chk = 0) (hl : k.lf = true) (h : k.at r = some y) : r = [] ∧ y = k := by
  cases r with
  | nil => injection h with h; exact ⟨rfl, h.symm⟩
  | cons j r =>
    obtain ⟨_, h1, _⟩ := T.at_of h
    rw [T.chk_leaf hk hl] at h1
    simp at h1
    omega
set_option maxHeartbeats 1000000 in
/-- A POINT THAT STAYS is there behind the operation -/
theorem stay_pt {n : T} {p : PtE} {o : OpE} (hb : n.bulk ≤ 4611686018427387904) (hc : n.chk = 0) (_hnl : n.lf = false) (hf : formT o = 0) (h9 : o.kind ≠ 9) (hs : (shapedT n o).2 = 0) (hp : checkPt n p = 0) (h : stayP p o = true) : checkPt (shapedT n o).1 p = 0 := by
  have hkk := form_kind hf
  obtain ⟨hpo, hmv, hst⟩ := stay_move h
  obtain ⟨hsp, hsq, hsd, hspos, hme⟩ := move_small hmv
  have hsp' : ∀ j ∈ p.p, j ≤ 1048576 := fun j hj => (hsp j hj).2
  obtain ⟨y, hy, hyl, ho0, ho1⟩ := checkPt_zero.1 hp
  have hyc := T.chk_at hc hy
  -- a node with the same data at the same place will do
  have fin : ∀ y' : T, (shapedT n o).1.at p.p = some y' → y'.lf = true → p.o ≤ y'.ts.length → checkPt (shapedT n o).1 p = 0 := fun y' h1 h2 h3 => checkPt_zero.2 ⟨y', h1, h2, ho0, h3⟩
  have fin' : ∀ y' : T, (shapedT n o).1.at p.p = some y' → y'.data = y.data → checkPt (shapedT n o).1 p = 0 := fun y' h1 h2 => fin y' h1 (by rw [T.data_lf h2]; exact hyl) (by rw [T.data_ts h2]; exact ho1)
  rw [hme] at hmv hst
  rcases (show o.kind = 1 ∨ o.kind = 2 ∨ o.kind = 3 ∨ o.kind = 4 ∨ o.kind = 5 ∨ (o.kind = 6 ∨ o.kind = 7 ∨ o.kind = 8) by omega) with h1 | h1 | h1 | h1 | h1 | h1
  · obtain ⟨up, i, u, a, b, e1, e2, _, e3, e4, _, e8⟩ := done1 hf h1 hs
    have hm : insertP p.p (up ++ [(i : Int)]) = p.p := by
      rcases hst with h2 | h2
      · have := h2.1
        rw [e1, if_neg (by simp)] at this
        unfold moveK at this
        rw [if_pos h1] at this
        exact this
      · omega
    obtain ⟨y', h3, h4, _⟩ := T.pos_ins (m := o.node) e2 e3 e4 hy hsp'
    rw [hm] at h3
    rw [← e8] at h3
    exact fin' y' h3 h4
  · obtain ⟨up, i, u, a, b, e1, e2, e3, e4, e8⟩ := done2 hf h1 hs
    rw [e1, if_neg (by simp)] at hmv hst
    unfold moveK at hmv hst
    rw [if_neg (by omega), if_pos h1] at hmv hst
    rw [snoc_len'] at hst
    by_cases h32 : standsP (up ++ [(i : Int)]) p.p = 3 ∨ standsP (up ++ [(i : Int)]) p.p = 2
    · rw [if_pos h32] at hmv; cases hmv
    · rw [if_neg h32] at hst
      obtain ⟨y', h3, h4, _⟩ := T.pos_cut e2 e3 e4 hy hsp' (fun e => h32 (.inl e)) (fun e => h32 (.inr e))
      rw [← e8] at h3
      have hm : (if standsP (up ++ [(i : Int)]) p.p = 1 then shiftP p.p up.length (-1) else p.p) = p.p := by
        rcases hst with h2 | h2
        · have h2 := h2.1
          split at h2
          · rename_i hx
            rw [if_pos hx]
            rw [Nat.add_sub_cancel] at h2
            exact h2
          · rename_i hx
            rw [if_neg hx]
        · omega
      rw [hm] at h3
      exact fin' y' h3 h4
  · obtain ⟨up, i, u, x, k, a, b, e1, e2, e3, e4, e5, _, _, e8⟩ := done3 hb hf h1 hs
    have hu := T.chk_at hc e2
    have hx := T.chk_ks hu x (by rw [e3]; simp)
    have hst' : standsP (up ++ [((i + 1 : Nat) : Int)]) p.p = 0 := by
      rcases hst with h2 | h2
      · have h2 := h2.1
        rw [e1, if_neg (by simp)] at h2
        unfold moveK at h2
        rw [if_neg (by omega), if_neg (by omega), if_pos h1, snoc_len', Nat.add_sub_cancel, snoc_last, if_neg (by omega)] at h2
        rcases below_or up p.p with ⟨j, r, hj⟩ | hn
        · have hlen : up.length < p.p.length := by rw [hj]; simp
          split at h2
          · exact (shift_ne hlen (shiftP_len _ _ _) (shiftP_off (by omega)) hsp (.inr rfl) h2).elim
          · split at h2
            · exact (shift_ne hlen rfl rfl hsp (.inr rfl) h2).elim
            · rename_i h3 h4
              rw [hj, stands_on] at h3 h4 ⊢
              by_cases hji : j = ((i + 1 : Nat) : Int)
              · rw [if_pos hji] at h3 h4
                by_cases hr : r = []
                · rw [if_pos hr] at h4; exact absurd (Or.inl rfl) h4
                · rw [if_neg hr] at h3; exact absurd rfl h3
              · rw [if_neg hji] at h3 h4 ⊢
                split at h4
                · exact absurd (Or.inr rfl) h4
                · rename_i h5
                  rw [if_neg h5]
        · exact stands_off hn
      · omega
    rcases below_or up p.p with ⟨j, r, hj⟩ | hn
    · rw [hj, stands_on] at hst'
      have hji : j ≤ i := by
        by_cases hji : j = ((i + 1 : Nat) : Int)
        · rw [if_pos hji] at hst'; split at hst' <;> cases hst'
        · rw [if_neg hji] at hst'
          split at hst'
          · cases hst'
          · omega
      rw [hj, T.at_up e2] at hy
      obtain ⟨h0, h2, h3⟩ := T.at_of hy
      rw [e3] at h2 h3
      rw [e8, ] at fin fin'
      rw [e8]
      rw [hj, T.at_on e2, T.at_go h0 (by rw [T.kids_ks]; rw [List.length_append, List.length_cons] at h2 ⊢; omega), T.kids_ks] at fin fin'
      by_cases hlt : j < i
      · rw [getD_app_left (by omega)] at h3 fin'
        exact fin' y h3 rfl
      · have : j.toNat = a.length := by omega
        rw [this, getD_app_right (Nat.le_refl _), Nat.sub_self, List.getD_cons_zero] at h3 fin
        cases hxl : x.lf with
        | true =>
          obtain ⟨rfl, rfl⟩ := T.leaf_at hx hxl h3
          refine fin _ rfl hyl ?_
          show p.o ≤ ((y.ts ++ k.ts).length : Nat)
          rw [List.length_append]; omega
        | false =>
          cases r with
          | nil =>
            injection h3 with h3
            subst h3
            rw [hxl] at hyl; cases hyl
          | cons l r =>
            obtain ⟨g0, g1, g2⟩ := T.at_of h3
            refine fin y ?_ hyl ho1
            have hjk : (x.join k).ks = x.ks ++ k.ks := rfl
            rw [T.at_go g0 (by rw [hjk, List.length_append]; omega), hjk, getD_app_left (by omega)]
            exact g2
    · obtain ⟨y', g1, g2, _⟩ := T.at_not (z := u.kids (a ++ x.join k :: b)) e2 hy hn (fun _ => rfl)
      rw [← e8] at g1
      exact fin' y' g1 g2
  · obtain ⟨up, i, u, k, a, b, e1, e2, _, e3, e4, g0, g1, _, e8⟩ := done4 hf h1 hs
    have hu := T.chk_at hc e2
    have hk := T.chk_ks hu k (by rw [e3]; simp)
    have hmk : ∀ m : List Int × Bool, m = moveK p.p (up ++ [(i : Int)]) o.dest o.kind o.pos (standsP (up ++ [(i : Int)]) p.p) → m = (if standsP (up ++ [(i : Int)]) p.p = 2 ∧ o.pos ≤ p.p.getD (up.length + 1) 0 then (shiftP (shiftP p.p (up.length + 1) (-o.pos)) up.length 1, true) else if standsP (up ++ [(i : Int)]) p.p = 1 then (shiftP p.p up.length 1, true) else (p.p, true)) := by
      intro m hm
      rw [hm]
      unfold moveK
      rw [if_neg (by omega), if_neg (by omega), if_neg (by omega), if_pos h1, snoc_len', Nat.add_sub_cancel]
    rw [e1, if_neg (by simp), hmk _ rfl] at hst
    rcases below_or up p.p with ⟨j, r, hj⟩ | hn
    · have hlen : up.length < p.p.length := by rw [hj]; simp
      have hcase : (standsP (up ++ [(i : Int)]) p.p = 0) ∨ (standsP (up ++ [(i : Int)]) p.p = 2 ∧ p.p.getD (up.length + 1) 0 < o.pos) ∨ (standsP (up ++ [(i : Int)]) p.p = 3 ∧ p.o < o.pos) := by
        have hs4 : standsP (up ++ [(i : Int)]) p.p = 3 ∨ standsP (up ++ [(i : Int)]) p.p = 2 ∨ standsP (up ++ [(i : Int)]) p.p = 1 ∨ standsP (up ++ [(i : Int)]) p.p = 0 := by
          rw [hj, stands_on]
          split
          · split
            · exact .inl rfl
            · exact .inr (.inl rfl)
          · split
            · exact .inr (.inr (.inl rfl))
            · exact .inr (.inr (.inr rfl))
        rcases hst with ⟨h2, h3⟩ | ⟨_, h2, h3, h4⟩
        · by_cases hc1 : standsP (up ++ [(i : Int)]) p.p = 2 ∧ o.pos ≤ p.p.getD (up.length + 1) 0
          · rw [if_pos hc1] at h2
            exact (shift_ne hlen (shiftP_len _ _ _) (shiftP_off (by omega)) hsp (.inl rfl) h2).elim
          · rw [if_neg hc1] at h2
            by_cases hc2 : standsP (up ++ [(i : Int)]) p.p = 1
            · rw [if_pos hc2] at h2
              exact (shift_ne hlen rfl rfl hsp (.inl rfl) h2).elim
            · rcases hs4 with hs4 | hs4 | hs4 | hs4
              · refine .inr (.inr ⟨hs4, ?_⟩)
                obtain ⟨r', hr', hr⟩ := stands_in (.inl hs4)
                have := hr.1 hs4
                subst this
                exact (h3 hr'.symm).2.2 h1 (by rw [hr']; simp)
              · exact .inr (.inl ⟨hs4, Int.not_le.1 fun h => hc1 ⟨hs4, h⟩⟩)
              · exact absurd hs4 hc2
              · exact .inl hs4
        · exfalso
          have h30 : standsP (up ++ [(i : Int)]) p.p = 3 := by rw [← h2, stands_on, if_pos rfl, if_pos rfl]
          rw [if_neg (by rw [h30]; omega), if_neg (by rw [h30]; decide)] at h4
          have hi : (0 : Int) ≤ i ∧ (i : Int) ≤ 1048576 := hsp (i : Int) (by rw [← h2]; simp)
          rw [← h2, next_at (by omega)] at h4
          have := List.append_cancel_left h4
          injection this with this _
          omega
      rw [hj, T.at_up e2] at hy
      obtain ⟨q0, q2, q3⟩ := T.at_of hy
      rw [e3] at q2 q3
      rw [List.length_append, List.length_cons] at q2
      rw [e8] at fin fin'
      rw [e8]
      rw [hj, T.at_on e2] at fin fin'
      rw [hj, stands_on] at hcase
      rcases hcase with hc1 | ⟨hc1, hc2⟩ | ⟨hc1, hc2⟩
      · have hji : j < i := by
          by_cases hji : j = (i : Int)
          · rw [if_pos hji] at hc1; split at hc1 <;> cases hc1
          · rw [if_neg hji] at hc1
            split at hc1
            · cases hc1
            · omega
        refine fin' y ?_ rfl
        rw [T.at_go q0 (by rw [T.kids_ks, List.length_append]; omega), T.kids_ks, getD_app_left (by omega)]
        rw [getD_app_left (by omega)] at q3
        exact q3
      · have hji : j = (i : Int) ∧ r ≠ [] := by
          by_cases hji : j = (i : Int)
          · rw [if_pos hji] at hc1
            refine ⟨hji, fun hr => ?_⟩
            rw [if_pos hr] at hc1; cases hc1
          · rw [if_neg hji] at hc1
            split at hc1 <;> cases hc1
        obtain ⟨rfl, hr⟩ := hji
        have : (i : Int).toNat = a.length := by omega
        rw [this, getD_app_right (Nat.le_refl _), Nat.sub_self, List.getD_cons_zero] at q3
        cases r with
        | nil => exact absurd rfl hr
        | cons l r =>
          obtain ⟨v0, v1, v2⟩ := T.at_of q3
          have hkl : k.lf = false := by
            cases hkl : k.lf with
            | false => rfl
            | true => rw [T.chk_leaf hk hkl] at v1; simp at v1; omega
          have hl2 : l < o.pos := by
            have : p.p.getD (up.length + 1) 0 = l := by rw [hj]; simp [List.getD]
            rw [← this, hj]; exact hc2
          refine fin y ?_ hyl ho1
          rw [T.at_go q0 (by rw [T.kids_ks, List.length_append, List.length_cons]; omega), T.kids_ks, this, getD_app_right (Nat.le_refl _), Nat.sub_self, List.getD_cons_zero]
          have hfk : (k.first o.pos.toNat).ks = k.ks.take o.pos.toNat := by unfold T.first; rw [if_neg (by rw [hkl]; decide)]; rfl
          have hgt : (k.ks.take o.pos.toNat).getD l.toNat default = k.ks.getD l.toNat default := by
            simp [List.getD, show l.toNat < o.pos.toNat by omega]
          rw [T.at_go v0 (by rw [hfk, List.length_take]; omega), hfk, hgt]
          exact v2
      · have hji : j = (i : Int) ∧ r = [] := by
          by_cases hji : j = (i : Int)
          · rw [if_pos hji] at hc1
            refine ⟨hji, ?_⟩
            by_cases hr : r = []
            · exact hr
            · rw [if_neg hr] at hc1; cases hc1
          · rw [if_neg hji] at hc1
            split at hc1 <;> cases hc1
        obtain ⟨rfl, rfl⟩ := hji
        have : (i : Int).toNat = a.length := by omega
        rw [this, getD_app_right (Nat.le_refl _), Nat.sub_self, List.getD_cons_zero] at q3
        injection q3 with q3
        subst q3
        have hfk : (k.first o.pos.toNat).lf = true ∧ (k.first o.pos.toNat).ts = k.ts.take o.pos.toNat := by unfold T.first; rw [if_pos hyl]; exact ⟨rfl, rfl⟩
        refine fin (k.first o.pos.toNat) ?_ hfk.1 ?_
        · rw [T.at_go q0 (by rw [T.kids_ks, List.length_append, List.length_cons]; omega), T.kids_ks, this, getD_app_right (Nat.le_refl _), Nat.sub_self, List.getD_cons_zero]
          rfl
        · rw [hfk.2, List.length_take]; omega
    · obtain ⟨y', f1, f2, _⟩ := T.at_not (z := u.kids (a ++ k.first o.pos.toNat :: k.second o.pos.toNat o.new :: b)) e2 hy hn (fun _ => rfl)
      rw [← e8] at f1
      exact fin' y' f1 f2
  · obtain ⟨up, vp, i, j, u, v, k, r, a, b, c, d, e1, e2, e3, e4, er, f1, f2, f3, f4, f5, e8⟩ := done5 hf h1 hs
    have hm := (hst.resolve_right (fun h => by omega)).1
    rw [e1, if_neg (by simp)] at hm
    unfold moveK at hm
    rw [if_neg (by omega), if_neg (by omega), if_neg (by omega), if_neg (by omega), if_pos h1, snoc_len', Nat.add_sub_cancel] at hm
    by_cases h32 : standsP (up ++ [(i : Int)]) p.p = 3 ∨ standsP (up ++ [(i : Int)]) p.p = 2
    · rw [if_pos h32] at hm
      obtain ⟨s, hs', _⟩ := stands_in h32
      rw [hs', show up ++ (i : Int) :: s = (up ++ [(i : Int)]) ++ s by simp, List.drop_left' (by simp)] at hm
      have hm : o.dest ++ s = up ++ [(i : Int)] ++ s := hm
      have hd := List.append_cancel_right hm
      rw [f1] at hd
      have hl := congrArg List.length hd
      rw [List.length_append, List.length_append] at hl
      obtain ⟨hvu, hji⟩ := List.append_inj hd (by simpa using hl)
      injection hji with hji _
      have hji : j = i := by omega
      subst hvu
      subst hji
      rw [er, T.at_setAt e2] at f2
      injection f2 with f2
      subst f2
      rw [T.kids_ks] at f4
      obtain ⟨rfl, rfl⟩ := List.append_inj f4 (by omega)
      have hsame : (shapedT n o).1 = n := by
        rw [e8, er, T.setAt_setAt e2, T.kids_kids, ← e3, T.kids_self, T.setAt_same e2]
      rw [hsame]
      exact hp
    · rw [if_neg h32] at hm
      obtain ⟨y1, g1, g2, _⟩ := T.pos_cut e2 e3 e4 hy hsp' (fun e => h32 (.inl e)) (fun e => h32 (.inr e))
      rw [← er] at g1
      have hsm : ∀ l ∈ (if standsP (up ++ [(i : Int)]) p.p = 1 then shiftP p.p up.length (-1) else p.p), l ≤ 1048576 := by
        intro l hl
        split at hl
        · unfold shiftP at hl
          rcases List.mem_or_eq_of_mem_set hl with h | h
          · exact hsp' l h
          · rcases below_or up p.p with ⟨j', r', hj'⟩ | hn
            · have hg : p.p.getD up.length 0 = j' := by rw [hj']; simp [List.getD]
              have hj2 := hsp j' (by rw [hj']; simp)
              rw [hg, wrap64_near (by omega) (by omega)] at h
              omega
            · rename_i hx
              rw [stands_off hn] at hx; cases hx
        · exact hsp' l hl
      obtain ⟨y2, g3, g4, _⟩ := T.pos_ins (m := k) f2 f4 f5 g1 hsm
      rw [← e8, ← f1] at g3
      have hm : insertP (if standsP (up ++ [(i : Int)]) p.p = 1 then shiftP p.p up.length (-1) else p.p) o.dest = p.p := hm
      rw [hm] at g3
      exact fin' y2 g3 (g4.trans g2)
  · obtain ⟨k, k', e1, e2, e3⟩ := done6 hf h1 hs
    have hk := T.chk_at hc e1
    have hm := hst.resolve_right (fun h => by omega)
    by_cases hpp : p.p = o.path
    · have hyk : y = k := by rw [hpp, e1] at hy; injection hy with hy; exact hy.symm
      subst hyk
      have hat : (shapedT n o).1.at p.p = some k' := by rw [e2, hpp, T.at_setAt e1]
      have hx := hm.2 hpp.symm
      rcases e3 with ⟨_, _, _, rfl⟩ | ⟨h7, _, hi, rfl⟩ | ⟨h8, _, hi, rfl⟩
      · exact fin _ hat hyl ho1
      · obtain ⟨v0, v1, _, _, v2⟩ := insert_ok hi
        refine fin _ hat hyl ?_
        show p.o ≤ ((insertR y.ts o.pos o.text).1.length : Nat)
        rw [v2]
        simp only [List.length_append, List.length_take, List.length_drop]
        omega
      · obtain ⟨v0, v1, _, v2⟩ := remove_ok hi
        refine fin _ hat hyl ?_
        show p.o ≤ ((removeR y.ts o.pos o.text).1.length : Nat)
        rw [v2]
        simp only [List.length_append, List.length_take, List.length_drop]
        have := hx.2.1 h8
        omega
    · rcases below_or o.path p.p with ⟨j, r, hj⟩ | hn
      · rw [hj, T.at_up e1] at hy
        obtain ⟨q0, q1, q2⟩ := T.at_of hy
        have hkl : k.lf = false := by
          cases hkl : k.lf with
          | false => rfl
          | true => rw [T.chk_leaf hk hkl] at q1; simp at q1; omega
        rcases e3 with ⟨_, _, _, rfl⟩ | ⟨_, hl, _⟩ | ⟨_, hl, _⟩
        · refine fin y ?_ hyl ho1
          rw [e2, hj, T.at_on e1]
          exact (T.at_go (t := .mk k.lf (patchT k.ps o.old o.new).1 k.ts k.ks) q0 q1).trans q2
        · rw [hkl] at hl; cases hl
        · rw [hkl] at hl; cases hl
      · obtain ⟨y', f1, f2, _⟩ := T.at_not (z := k') e1 hy hn (fun e => absurd e hpp)
        rw [← e2] at f1
        exact fin' y' f1 f2
/-- THE SELECTION is in the tree behind an operation -/
theorem apply_sel {n : T} {s : SelE} {o : OpE} (hb : n.bulk ≤ 4611686018427387904) (h : (applyT n s o).2.2 = 0) : checkSelT (applyT n s o).1 (applyT n s o).2.1 = 0 ∧ (applyT n s o).2.1 = (if o.kind = 9 then o.dst else s) := by
  obtain ⟨hm, h⟩ := apply_ok h
  obtain ⟨hc, hl, hcs, hf⟩ := may_ok hm
  rcases h with ⟨h9, _, hcd, he⟩ | ⟨h9, hs, hst, he⟩
  · rw [he, if_pos h9]; exact ⟨hcd, rfl⟩
  · rw [he, if_neg h9]
    refine ⟨?_, rfl⟩
    show checkSelT (shapedT n o).1 s = 0
    unfold checkSelT at hcs ⊢
    cases hi : s.is with
    | false => rw [hi] at hcs; exact hcs
    | true =>
      rw [hi, if_pos rfl] at hcs
      rw [if_pos rfl]
      have ha : checkPt n s.a = 0 := by
        by_cases h0 : checkPt n s.a = 0
        · exact h0
        · rw [if_pos h0] at hcs; exact hcs
      rw [if_neg (by simpa using ha)] at hcs
      unfold staysT at hst
      rw [hi] at hst
      simp only [Bool.not_true, Bool.false_or, Bool.and_eq_true] at hst
      have h1 := stay_pt hb hc hl hf h9 hs ha hst.1.1.1.1
      have h2 := stay_pt hb hc hl hf h9 hs hcs hst.1.1.2
      rw [if_neg (by simpa using h1)]
      exact h2
end Go.Proofs.YtdopncbmlehnoaaGreatDoor
