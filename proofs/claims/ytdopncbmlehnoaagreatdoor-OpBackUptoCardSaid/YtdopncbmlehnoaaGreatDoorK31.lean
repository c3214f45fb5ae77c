/- BEHIND AN OPERATION a tree is as much greater as its node, its text, or one node says; plain. -/
import Derived.Test.YtdopncbmlehnoaaGreatDoorK28
import Derived.Test.YtdopncbmlehnoaaGreatDoorK25
import Derived.Test.YtdopncbmlehnoaaGreatDoorK29
import Derived.Test.YtdopncbmlehnoaaGreatDoorK30
namespace Go.Proofs.YtdopncbmlehnoaaGreatDoor
open Go Go.RowKit

def byT (o : OpE) : Int := if o.kind = 1 then o.node.size else if o.kind = 2 then -(o.node.size : Int) else if o.kind = 3 then -1 else if o.kind = 4 then 1 else if o.kind = 7 then o.text.length else if o.kind = 8 then -(o.text.length : Int) else 0
theorem may_ok {n : T} {s : SelE} {o : OpE} (h : mayT n s o = 0) : n.chk = 0 ∧ n.lf = false ∧ checkSelT n s = 0 ∧ formT o = 0 := by
  unfold mayT at h
  split at h
  · rename_i h1; exact absurd h h1
  · rename_i h1
    split at h
    · cases h
    · rename_i h2
      split at h
      · rename_i h3; exact absurd h h3
      · rename_i h3
        exact ⟨by simpa using h1, by simpa using h2, by simpa using h3, h⟩
theorem form_kind {o : OpE} (h : formT o = 0) : o.kind = 1 ∨ o.kind = 2 ∨ o.kind = 3 ∨ o.kind = 4 ∨ o.kind = 5 ∨ o.kind = 6 ∨ o.kind = 7 ∨ o.kind = 8 ∨ o.kind = 9 := by
  apply Classical.byContradiction
  intro hn
  have : hasL o.kind = none := by
    unfold hasL
    repeat rw [if_neg (by omega)]
  unfold formT at h
  rw [this] at h
  exact absurd h (show ¬ (1 : Int) = 0 by decide)
/-- what was done -/
theorem apply_ok {n : T} {s : SelE} {o : OpE} (h : (applyT n s o).2.2 = 0) : mayT n s o = 0 ∧ ((o.kind = 9 ∧ sameSelP s o.src = true ∧ checkSelT n o.dst = 0 ∧ applyT n s o = (n, o.dst, 0)) ∨ (o.kind ≠ 9 ∧ (shapedT n o).2 = 0 ∧ staysT s o = true ∧ applyT n s o = ((shapedT n o).1, s, 0))) := by
  unfold applyT at h ⊢
  by_cases h1 : mayT n s o ≠ 0
  · rw [if_pos h1] at h; exact absurd h h1
  · rw [if_neg h1] at h ⊢
    refine ⟨by simpa using h1, ?_⟩
    by_cases h2 : o.kind = 9
    · rw [if_pos h2] at h ⊢
      by_cases h3 : sameSelP s o.src = false
      · rw [if_pos h3] at h; exact absurd h (show ¬ (9 : Int) = 0 by decide)
      · rw [if_neg h3] at h ⊢
        by_cases h4 : checkSelT n o.dst ≠ 0
        · rw [if_pos h4] at h; exact absurd h h4
        · rw [if_neg h4]
          exact Or.inl ⟨h2, by simpa using h3, by simpa using h4, rfl⟩
    · rw [if_neg h2] at h ⊢
      by_cases h3 : (shapedT n o).2 ≠ 0
      · rw [if_pos h3] at h; exact absurd h h3
      · rw [if_neg h3] at h ⊢
        by_cases h4 : staysT s o = false
        · rw [if_pos h4] at h; exact absurd h (show ¬ (10 : Int) = 0 by decide)
        · rw [if_neg h4]
          exact Or.inr ⟨h2, by simpa using h3, by simpa using h4, rfl⟩
/-- a refusal's tree and selection -/
theorem apply_no {n : T} {s : SelE} {o : OpE} (h : (applyT n s o).2.2 ≠ 0) : (applyT n s o).1 = T.nilT ∧ (applyT n s o).2.1 = SelE.nil := by
  unfold applyT at h ⊢
  by_cases h1 : mayT n s o ≠ 0
  · rw [if_pos h1]; exact ⟨rfl, rfl⟩
  · rw [if_neg h1] at h ⊢
    by_cases h2 : o.kind = 9
    · rw [if_pos h2] at h ⊢
      by_cases h3 : sameSelP s o.src = false
      · rw [if_pos h3]; exact ⟨rfl, rfl⟩
      · rw [if_neg h3] at h ⊢
        by_cases h4 : checkSelT n o.dst ≠ 0
        · rw [if_pos h4]; exact ⟨rfl, rfl⟩
        · rw [if_neg h4] at h; exact absurd rfl h
    · rw [if_neg h2] at h ⊢
      by_cases h3 : (shapedT n o).2 ≠ 0
      · rw [if_pos h3]; exact ⟨rfl, rfl⟩
      · rw [if_neg h3] at h ⊢
        by_cases h4 : staysT s o = false
        · rw [if_pos h4]; exact ⟨rfl, rfl⟩
        · rw [if_neg h4] at h; exact absurd rfl h
theorem merged_ok {rest k : T} {o : OpE} (h : (mergedT rest k o).2 = 0) : (backP o.path).2 = 0 ∧ ∃ x, rest.at (backP o.path).1 = some x ∧ x.lf = k.lf ∧ (x.len : Int) = o.pos ∧ k.ps = o.old ∧ mergedT rest k o = (T.setAt (.mk x.lf x.ps (x.ts ++ k.ts) (x.ks ++ k.ks)) rest (backP o.path).1, 0) := by
  unfold mergedT at h ⊢
  by_cases h1 : (backP o.path).2 ≠ 0
  · rw [if_pos h1] at h; exact absurd h (show ¬ (8 : Int) = 0 by decide)
  · rw [if_neg h1] at h ⊢
    cases hx : rest.at (backP o.path).1 with
    | none => rw [hx] at h; exact absurd h (show ¬ (5 : Int) = 0 by decide)
    | some x =>
      simp only [hx] at h ⊢
      by_cases h2 : x.lf ≠ k.lf
      · rw [if_pos h2] at h; exact absurd h (show ¬ (7 : Int) = 0 by decide)
      · rw [if_neg h2] at h ⊢
        by_cases h3 : (x.len : Int) ≠ o.pos
        · rw [if_pos h3] at h; exact absurd h (show ¬ (8 : Int) = 0 by decide)
        · rw [if_neg h3] at h ⊢
          by_cases h4 : k.ps ≠ o.old
          · rw [if_pos h4] at h; exact absurd h (show ¬ (9 : Int) = 0 by decide)
          · rw [if_neg h4]
            exact ⟨by simpa using h1, x, rfl, by simpa using h2, by simpa using h3, by simpa using h4, put_ok hx⟩
theorem split_ok {rest k : T} {o : OpE} (h : (splitT rest k o).2 = 0) : 0 ≤ o.pos ∧ o.pos ≤ k.len ∧ (addT rest o.path (k.second o.pos.toNat o.new)).2 = 0 ∧ (addT (addT rest o.path (k.second o.pos.toNat o.new)).1 o.path (k.first o.pos.toNat)).2 = 0 ∧ splitT rest k o = addT (addT rest o.path (k.second o.pos.toNat o.new)).1 o.path (k.first o.pos.toNat) := by
  unfold splitT at h ⊢
  by_cases h1 : o.pos < 0 ∨ (k.len : Int) < o.pos
  · rw [if_pos h1] at h; exact absurd h (show ¬ (8 : Int) = 0 by decide)
  · rw [if_neg h1] at h ⊢
    by_cases h2 : (addT rest o.path (k.second o.pos.toNat o.new)).2 ≠ 0
    · rw [if_pos h2] at h; exact absurd h h2
    · rw [if_neg h2] at h ⊢
      exact ⟨by omega, by omega, by simpa using h2, h, rfl⟩
theorem T.split_size (k : T) (i : Nat) (new : List PropL) : (k.first i).size + (k.second i new).size = k.size + 1 := by
  have h1 := T.sizes_split k.ks i
  have h2 : (k.ts.take i).length + (k.ts.drop i).length = k.ts.length := by rw [← List.length_append, List.take_append_drop]
  unfold T.first T.second
  rw [T.size_eq k]
  split
  · simp only [T.size, T.sizes]; omega
  · simp only [T.size, List.length_nil]; omega
theorem insert_ok {ts ss : List Int} {i : Int} (h : (insertR ts i ss).2 = 0) : 0 ≤ i ∧ i ≤ ts.length ∧ checkRs ts = 0 ∧ checkRs ss = 0 ∧ insertR ts i ss = (ts.take i.toNat ++ ss ++ ts.drop i.toNat, 0) := by
  unfold insertR at h ⊢
  by_cases h1 : askedR ts i ss = 0
  · rw [if_pos h1]
    refine ⟨(asked_zero h1).1, (asked_zero h1).2, ?_⟩
    unfold askedR at h1
    split at h1
    · cases h1
    · rename_i h2
      exact ⟨by omega, by omega, rfl⟩
  · rw [if_neg h1] at h; exact absurd h h1
theorem remove_ok {ts ss : List Int} {i : Int} (h : (removeR ts i ss).2 = 0) : 0 ≤ i ∧ i.toNat + ss.length ≤ ts.length ∧ (ts.drop i.toNat).take ss.length = ss ∧ removeR ts i ss = (ts.take i.toNat ++ ts.drop (i.toNat + ss.length), 0) := by
  unfold removeR at h ⊢
  by_cases h1 : askedR ts i ss = 0
  · rw [if_pos h1] at h ⊢
    have h3 := asked_zero h1
    by_cases h2 : (ts.drop i.toNat).take (min (i.toNat + ss.length) ts.length - i.toNat) = ss
    · rw [if_pos h2]
      have hl := congrArg List.length h2
      rw [List.length_take, List.length_drop] at hl
      have hm : min (i.toNat + ss.length) ts.length = i.toNat + ss.length := by omega
      rw [hm] at h2 ⊢
      rw [show i.toNat + ss.length - i.toNat = ss.length by omega] at h2
      exact ⟨h3.1, by omega, h2, rfl⟩
    · rw [if_neg h2] at h; exact absurd h (show ¬ (9 : Int) = 0 by decide)
  · rw [if_neg h1] at h; exact absurd h h1
/-- what stands behind a change of a node's own -/
theorem content_ok {n : T} {o : OpE} (h : (contentT n o).2 = 0) : ∃ k k', n.at o.path = some k ∧ contentT n o = (T.setAt k' n o.path, 0) ∧
    ((o.kind = 6 ∧ o.path.length ≠ 0 ∧ (patchT k.ps o.old o.new).2 = 0 ∧ k' = .mk k.lf (patchT k.ps o.old o.new).1 k.ts k.ks) ∨ (o.kind = 7 ∧ k.lf = true ∧ (insertR k.ts o.pos o.text).2 = 0 ∧ k' = .mk k.lf k.ps (insertR k.ts o.pos o.text).1 k.ks) ∨ (o.kind ≠ 6 ∧ o.kind ≠ 7 ∧ k.lf = true ∧ (removeR k.ts o.pos o.text).2 = 0 ∧ k' = .mk k.lf k.ps (removeR k.ts o.pos o.text).1 k.ks)) := by
  unfold contentT at h ⊢
  by_cases h1 : o.kind = 6 ∧ o.path.length = 0
  · rw [if_pos h1] at h; exact absurd h (show ¬ (6 : Int) = 0 by decide)
  · rw [if_neg h1] at h ⊢
    cases hk : n.at o.path with
    | none => rw [hk] at h; exact absurd h (show ¬ (5 : Int) = 0 by decide)
    | some k =>
      simp only [hk] at h ⊢
      by_cases h6 : o.kind = 6
      · rw [if_pos h6] at h ⊢
        by_cases h2 : (patchT k.ps o.old o.new).2 ≠ 0
        · rw [if_pos h2] at h; exact absurd h h2
        · rw [if_neg h2]
          exact ⟨k, _, rfl, put_ok hk, Or.inl ⟨h6, fun h0 => h1 ⟨h6, h0⟩, by simpa using h2, rfl⟩⟩
      · rw [if_neg h6] at h ⊢
        by_cases hl : k.lf = false
        · rw [if_pos hl] at h; exact absurd h (show ¬ (7 : Int) = 0 by decide)
        · rw [if_neg hl] at h ⊢
          by_cases h7 : o.kind = 7
          · rw [if_pos h7] at h ⊢
            by_cases h2 : (insertR k.ts o.pos o.text).2 ≠ 0
            · rw [if_pos h2] at h; exact absurd h h2
            · rw [if_neg h2]
              exact ⟨k, _, rfl, put_ok hk, Or.inr (Or.inl ⟨h7, by simpa using hl, by simpa using h2, rfl⟩)⟩
          · rw [if_neg h7] at h ⊢
            by_cases h2 : (removeR k.ts o.pos o.text).2 ≠ 0
            · rw [if_pos h2] at h; exact absurd h h2
            · rw [if_neg h2]
              exact ⟨k, _, rfl, put_ok hk, Or.inr (Or.inr ⟨h6, h7, by simpa using hl, by simpa using h2, rfl⟩)⟩
theorem content_size {n : T} {o : OpE} (h : (contentT n o).2 = 0) (hk : o.kind = 6 ∨ o.kind = 7 ∨ o.kind = 8) : ((contentT n o).1.size : Int) = n.size + byT o := by
  obtain ⟨k, k', ha, he, hc⟩ := content_ok h
  have hs := T.size_setAt (y' := k') ha
  rw [he]
  show ((T.setAt k' n o.path).size : Int) = _
  rw [T.size_eq k] at hs
  rcases hc with ⟨h6, _, _, rfl⟩ | ⟨h7, _, hi, rfl⟩ | ⟨h6, h7, _, hr, rfl⟩
  · rw [T.size] at hs
    have : byT o = 0 := by unfold byT; repeat rw [if_neg (by omega)]
    omega
  · obtain ⟨h0, h1, _, _, hi⟩ := insert_ok hi
    rw [hi, T.size] at hs
    have hb : byT o = o.text.length := by
      unfold byT; rw [if_neg (by omega), if_neg (by omega), if_neg (by omega), if_neg (by omega), if_pos h7]
    have hlen : (k.ts.take o.pos.toNat ++ o.text ++ k.ts.drop o.pos.toNat).length = k.ts.length + o.text.length := by
      rw [List.length_append, List.length_append, List.length_take, List.length_drop]; omega
    simp only [hlen] at hs
    rw [hi]
    simp only
    omega
  · obtain ⟨h0, h1, _, hi⟩ := remove_ok hr
    rw [hi, T.size] at hs
    have hb : byT o = -(o.text.length : Int) := by
      unfold byT; rw [if_neg (by omega), if_neg (by omega), if_neg (by omega), if_neg (by omega), if_neg h7, if_pos (by omega)]
    have hlen : (k.ts.take o.pos.toNat ++ k.ts.drop (o.pos.toNat + o.text.length)).length + o.text.length = k.ts.length := by
      rw [List.length_append, List.length_take, List.length_drop]; omega
    simp only at hs
    rw [hi]
    simp only
    omega
theorem cut_no {n : T} {o : OpE} {x : T × Int} (h : (if (o.kind = 2 ∨ o.kind = 3 ∨ o.kind = 4 ∨ o.kind = 5) ∧ (cutT n o.path).2.2 ≠ 0 then (T.nilT, (cutT n o.path).2.2) else x).2 = 0) : ((o.kind = 2 ∨ o.kind = 3 ∨ o.kind = 4 ∨ o.kind = 5) → (cutT n o.path).2.2 = 0) ∧ (if (o.kind = 2 ∨ o.kind = 3 ∨ o.kind = 4 ∨ o.kind = 5) ∧ (cutT n o.path).2.2 ≠ 0 then (T.nilT, (cutT n o.path).2.2) else x) = x := by
  by_cases hc : (o.kind = 2 ∨ o.kind = 3 ∨ o.kind = 4 ∨ o.kind = 5) ∧ (cutT n o.path).2.2 ≠ 0
  · rw [if_pos hc] at h; exact absurd h hc.2
  · rw [if_neg hc]
    exact ⟨fun hk => Classical.byContradiction fun hn => hc ⟨hk, hn⟩, rfl⟩
/-- which change was made -/
theorem shaped_ok {n : T} {o : OpE} (hk : formT o = 0) (h9 : o.kind ≠ 9) (h : (shapedT n o).2 = 0) :
    (o.kind = 1 ∧ o.node.chk = 0 ∧ (addT n o.path o.node).2 = 0 ∧ shapedT n o = addT n o.path o.node) ∨
    (o.kind = 2 ∧ (cutT n o.path).2.2 = 0 ∧ (cutT n o.path).2.1 = o.node ∧ shapedT n o = ((cutT n o.path).1, 0)) ∨
    (o.kind = 3 ∧ (cutT n o.path).2.2 = 0 ∧ (mergedT (cutT n o.path).1 (cutT n o.path).2.1 o).2 = 0 ∧ shapedT n o = mergedT (cutT n o.path).1 (cutT n o.path).2.1 o) ∨
    (o.kind = 4 ∧ checkPs o.new = 0 ∧ (cutT n o.path).2.2 = 0 ∧ (splitT (cutT n o.path).1 (cutT n o.path).2.1 o).2 = 0 ∧ shapedT n o = splitT (cutT n o.path).1 (cutT n o.path).2.1 o) ∨
    (o.kind = 5 ∧ (cutT n o.path).2.2 = 0 ∧ (addT (cutT n o.path).1 o.dest (cutT n o.path).2.1).2 = 0 ∧ shapedT n o = addT (cutT n o.path).1 o.dest (cutT n o.path).2.1) ∨
    ((o.kind = 6 ∨ o.kind = 7 ∨ o.kind = 8) ∧ (contentT n o).2 = 0 ∧ shapedT n o = contentT n o) := by
  have hk := form_kind hk
  unfold shapedT at h ⊢
  by_cases h1 : o.kind = 1
  · rw [if_pos h1] at h ⊢
    by_cases hc : o.node.chk ≠ 0
    · rw [if_pos hc] at h; exact absurd h hc
    · rw [if_neg hc] at h ⊢
      exact Or.inl ⟨h1, by simpa using hc, h, rfl⟩
  · rw [if_neg h1] at h ⊢
    refine Or.inr ?_
    by_cases hp : o.kind = 4 ∧ checkPs o.new ≠ 0
    · rw [if_pos hp] at h; exact absurd h hp.2
    · rw [if_neg hp] at h ⊢
      obtain ⟨hc, he⟩ := cut_no h
      rw [he] at h ⊢
      clear he
      by_cases h2 : o.kind = 2
      · rw [if_pos h2] at h ⊢
        by_cases hs : (cutT n o.path).2.1 = o.node
        · rw [if_pos hs]
          exact Or.inl ⟨h2, hc (.inl h2), hs, rfl⟩
        · rw [if_neg hs] at h; exact absurd h (show ¬ (9 : Int) = 0 by decide)
      · rw [if_neg h2] at h ⊢
        refine Or.inr ?_
        by_cases h3 : o.kind = 3
        · rw [if_pos h3] at h ⊢
          exact Or.inl ⟨h3, hc (.inr (.inl h3)), h, rfl⟩
        · rw [if_neg h3] at h ⊢
          refine Or.inr ?_
          by_cases h4 : o.kind = 4
          · rw [if_pos h4] at h ⊢
            exact Or.inl ⟨h4, Classical.byContradiction fun hn => hp ⟨h4, hn⟩, hc (.inr (.inr (.inl h4))), h, rfl⟩
          · rw [if_neg h4] at h ⊢
            refine Or.inr ?_
            by_cases h5 : o.kind = 5
            · rw [if_pos h5] at h ⊢
              exact Or.inl ⟨h5, hc (.inr (.inr (.inr h5))), h, rfl⟩
            · rw [if_neg h5] at h ⊢
              exact Or.inr ⟨by omega, h, rfl⟩
theorem shaped_size {n : T} {o : OpE} (hk : formT o = 0) (h9 : o.kind ≠ 9) (h : (shapedT n o).2 = 0) : ((shapedT n o).1.size : Int) = n.size + byT o := by
  rcases shaped_ok hk h9 h with ⟨h1, _, ha, he⟩ | ⟨h1, hc, hs, he⟩ | ⟨h1, hc, hm, he⟩ | ⟨h1, _, hc, hm, he⟩ | ⟨h1, hc, ha, he⟩ | ⟨h1, hc, he⟩
  · have := add_size ha
    rw [he, this]
    unfold byT; rw [if_pos h1]; omega
  · have := cut_size hc
    rw [hs] at this
    rw [he]
    unfold byT; rw [if_neg (by omega), if_pos h1]
    simp only
    omega
  · have h2 := cut_size hc
    obtain ⟨_, x, hx, _, _, _, hm⟩ := merged_ok hm
    rw [he, hm]
    have h3 := T.size_setAt (y' := .mk x.lf x.ps (x.ts ++ (cutT n o.path).2.1.ts) (x.ks ++ (cutT n o.path).2.1.ks)) hx
    rw [T.size, T.sizes_append, List.length_append, T.size_eq x] at h3
    rw [T.size_eq (cutT n o.path).2.1] at h2
    unfold byT; rw [if_neg (by omega), if_neg (by omega), if_pos h1]
    simp only
    omega
  · have h2 := cut_size hc
    obtain ⟨_, _, ha, hb, hm⟩ := split_ok hm
    have h3 := add_size ha
    have h4 := add_size hb
    have h5 := T.split_size (cutT n o.path).2.1 o.pos.toNat o.new
    rw [he, hm, h4, h3]
    unfold byT; rw [if_neg (by omega), if_neg (by omega), if_neg (by omega), if_pos h1]
    omega
  · have h2 := cut_size hc
    have h3 := add_size ha
    rw [he, h3]
    have hb : byT o = 0 := by unfold byT; repeat rw [if_neg (by omega)]
    omega
  · rw [he]
    exact content_size hc h1
theorem apply_size {n : T} {s : SelE} {o : OpE} (h : (applyT n s o).2.2 = 0) : ((applyT n s o).1.size : Int) = n.size + byT o ∧ (o.kind = 9 → (applyT n s o).1 = n) := by
  obtain ⟨hm, h⟩ := apply_ok h
  obtain ⟨_, _, _, hf⟩ := may_ok hm
  rcases h with ⟨h9, _, _, he⟩ | ⟨h9, hs, _, he⟩
  · rw [he]
    refine ⟨?_, fun _ => rfl⟩
    have hb : byT o = 0 := by unfold byT; repeat rw [if_neg (by omega)]
    show (n.size : Int) = _
    omega
  · rw [he]
    exact ⟨shaped_size hf h9 hs, fun h => absurd h h9⟩
end Go.Proofs.YtdopncbmlehnoaaGreatDoor
/- op.shaped: the contract. -/
namespace Go.Proofs.YtdopncbmlehnoaaGreatDoor
open Go Go.RowKit

/-- the boxes of op.shaped that stay -/
def Base (w : World) (n : NT) (o : OpL) (wz : World) : Prop := wz.rangeAt w.heap.size 0 n.cells4 ∧ wz.rangeAt (w.heap.size + 1) 0 o.cells ∧ wz.there (w.heap.size + 2) 0 4 ∧ Grew w wz ∧ w.heap.size + 5 ≤ wz.heap.size
theorem Base.grew {w wz w' : World} {n : NT} {o : OpL} (h : Base w n o wz) (g : Grew wz w') : Base w n o w' := by
  obtain ⟨h1, h2, h3, h4, h5⟩ := h
  exact ⟨rangeAt_grew h1 g (by omega), rangeAt_grew h2 g (by omega), there_grew h3 g (by omega), h4.trans g, Nat.le_trans h5 g.size⟩
theorem Base.keep {w wz w' : World} {n : NT} {o : OpL} (h : Base w n o wz) (k : Keeps (fun k => k = w.heap.size + 3 ∨ k = w.heap.size + 4) wz w') : Base w n o w' := by
  obtain ⟨h1, h2, h3, h4, h5⟩ := h
  refine ⟨rangeAt_keeps h1 k (by omega) (by show ¬ (_ ∨ _); omega), rangeAt_keeps h2 k (by omega) (by show ¬ (_ ∨ _); omega), fun j hj => ?_, h4.keep k (fun j hj => by omega), Nat.le_trans h5 k.size⟩
  obtain ⟨q1, q2⟩ := h3 j hj
  exact ⟨by rw [k.cell (p := ⟨w.heap.size + 2, 0 + j, none⟩) (by show w.heap.size + 2 < _; omega) (by show ¬ (w.heap.size + 2 = _ ∨ w.heap.size + 2 = _); omega)]; exact q1, by rw [k.frozen (p := ⟨w.heap.size + 2, 0 + j, none⟩) (by show w.heap.size + 2 < _; omega) (by show ¬ (w.heap.size + 2 = _ ∨ w.heap.size + 2 = _); omega)]; exact q2⟩
theorem Base.n {w wz : World} {n : NT} {o : OpL} (h : Base w n o wz) : wz.cell? ⟨w.heap.size, 0, none⟩ = some (.bool n.lf) ∧ wz.cell? ⟨w.heap.size, 1, none⟩ = some (.slice n.pa n.ps.length n.pc) ∧ wz.cell? ⟨w.heap.size, 2, none⟩ = some (.slice n.ta n.ts.length n.tc) ∧ wz.cell? ⟨w.heap.size, 3, none⟩ = some (.slice n.ka n.ks.length n.kc) := by
  have h := NT.cells4_at.1 h.1
  unfold NodeAt at h
  simp only [Nat.zero_add] at h
  exact h
theorem retTE_nil {w wz wf : World} {r : T × Int} {er : Int} (hg : Grew w wz) (k3 : Keeps (· = w.heap.size + 2) wz wf) (hr : r = (T.nilT, er)) : RetTE r w (.returned (.tuple #[NT.nil.val, .int .i64 er])) wf := by
  subst hr
  exact ⟨NT.nil, rfl, hg.keep k3 (fun j hj => by rw [hj]; omega), NT.nil_in, nil_er⟩
theorem cut_bulk {t : T} {p : List Int} (h : (cutT t p).2.2 = 0) : (cutT t p).1.bulk + (cutT t p).2.1.bulk = t.bulk := by
  obtain ⟨_, u, hu, h0, h1, _, he⟩ := cut_ok h
  rw [he]
  have h2 := T.bulk_setAt (y' := .mk u.lf u.ps u.ts (u.ks.eraseIdx (p.getD (p.length - 1) 0).toNat)) hu
  have h3 : ∀ (l : List T) (i : Nat), i < l.length → T.bulkAll (l.eraseIdx i) + (l.getD i default).bulk = T.bulkAll l := by
    intro l
    induction l with
    | nil => intro i h; exact absurd h (Nat.not_lt_zero _)
    | cons x r ih =>
      intro i h
      cases i with
      | zero => simp only [List.eraseIdx_cons_zero, T.bulkAll, List.getD_cons_zero]; omega
      | succ i =>
        have := ih i (by simpa using h)
        simp only [List.eraseIdx_cons_succ, T.bulkAll, List.getD_cons_succ]; omega
  have h4 := h3 u.ks (p.getD (p.length - 1) 0).toNat (by omega)
  rw [T.bulk_eq u, T.bulk] at h2
  show (T.setAt _ t _).bulk + (u.ks.getD _ default).bulk = _
  omega
theorem treeCut_any (n : NT) (pa : Option Addr) (pc : Nat) (p : List Int) (w : World) (hn : n.Ok w) (hb : n.er.bulk ≤ 1048576) (hp : IntsIn w 0 w.heap.size pa pc p) (hl : p.length ≤ 1048576) :
    Calls Tryz.prog 87 #[n.val, .slice pa p.length pc] w (RetCut (cutT n.er p) w) := by
  by_cases h0 : p = []
  · subst h0
    exact treeCutNil_any n pa pc w
  · exact treeCutAt_any n pa pc p (List.length_pos_iff.2 h0) w hn hb hp hl
end Go.Proofs.YtdopncbmlehnoaaGreatDoor
/- op.shaped: the contract, kind 1. -/
namespace Go.Proofs.YtdopncbmlehnoaaGreatDoor
open Go Go.RowKit

set_option maxRecDepth 100000 in
set_option maxHeartbeats 8000000 in
theorem shaped1_any (n : NT) (o : OpL) (w : World) (hn : n.Ok w) (ho : o.In w 0 w.heap.size) (hb : n.er.bulk ≤ 262144) (ht : o.er.Tiny) (k1 : o.kind = 1) :
    Calls Tryz.prog 42 #[n.val, o.val] w (RetTE (shapedT n.er o.er) w) := by
  have Hk1 := Lib.hid k1
  clear k1
  have later : ∀ {w1}, Grew w w1 → o.In w1 0 w1.heap.size := fun g => (ho.grew g (Nat.le_refl _)).mono (Nat.le_refl _) g.size
  have CC := Lib.hid (fun w1 (g : Grew w w1) => check04_any o.node w1 (NT.In.ok (later g).2.1 (Nat.le_refl _)) ht.1.2.1)
  have CPC := Lib.hid (fun w1 (g : Grew w w1) => check01_any o.new o.na o.nc w1 0 w1.heap.size (later g).2.2.2.1 (Nat.le_refl _) (Nat.le_trans ht.2.1.2 (by omega)))
  have CCU := Lib.hid (fun w1 (g : Grew w w1) => treeCut_any n o.path.a o.path.c o.path.l w1 (NT.Ok.grew hn g) (by omega) (later g).1.1 ht.1.1.1)
  have CA := Lib.hid (fun w1 (g : Grew w w1) => treeAdd_any n o.node o.path.a o.path.c o.path.l w1 (NT.Ok.grew hn g) (by omega) (NT.In.ok (later g).2.1 (Nat.le_refl _)) ht.1.2.1 (later g).1.1 ht.1.1.1)
  have CS := Lib.hid (fun (y : NT) w1 (g : Grew w w1) (hy : y.Ok w1) (hyb : y.er.bulk ≤ 1048576) => nodeSame_any y o.node w1 hy (NT.In.ok (later g).2.1 (Nat.le_refl _)) hyb ht.1.2.1)
  have CM := Lib.hid (fun (x y : NT) w1 (g : Grew w w1) (hx : x.Ok w1) (hy : y.Ok w1) (hbb : x.er.bulk + y.er.bulk ≤ 1048576) => merged_any x y o w1 hx hy (later g) hbb ht.1)
  have CSP := Lib.hid (fun (x y : NT) w1 (g : Grew w w1) (hx : x.Ok w1) (hy : y.Ok w1) (hbb : x.er.bulk + y.er.bulk ≤ 262144) => opSplit_any x y o w1 hx hy (later g) (by have h : propsBulk o.new ≤ 262144 := ht.2.1.2; omega) ht.1)
  have CMV := Lib.hid (fun (x y : NT) w1 (g : Grew w w1) (hx : x.Ok w1) (hy : y.Ok w1) (h1 : x.er.bulk ≤ 1048576) (h2 : y.er.bulk ≤ 1048576) => treeAdd_any x y o.dest.a o.dest.c o.dest.l w1 hx h1 hy h2 (later g).1.2 ht.1.1.2)
  have CCT := Lib.hid (fun w1 (g : Grew w w1) => opContent_any n o w1 (NT.Ok.grew hn g) (later g) hb ht)
  have HB := Lib.hid hb
  have HCB := Lib.hid (fun h => cut_bulk (t := n.er) (p := o.path.l) h)
  have HM : Hid (shapedT n.er o.er = if o.kind = 1 then (if o.node.er.chk ≠ 0 then (T.nilT, o.node.er.chk) else addT n.er o.path.l o.node.er)
    else if o.kind = 4 ∧ checkPs o.new ≠ 0 then (T.nilT, checkPs o.new)
    else if (o.kind = 2 ∨ o.kind = 3 ∨ o.kind = 4 ∨ o.kind = 5) ∧ (cutT n.er o.path.l).2.2 ≠ 0 then (T.nilT, (cutT n.er o.path.l).2.2)
    else if o.kind = 2 then (if (cutT n.er o.path.l).2.1 = o.node.er then ((cutT n.er o.path.l).1, 0) else (T.nilT, 9))
    else if o.kind = 3 then mergedT (cutT n.er o.path.l).1 (cutT n.er o.path.l).2.1 o.er
    else if o.kind = 4 then splitT (cutT n.er o.path.l).1 (cutT n.er o.path.l).2.1 o.er
    else if o.kind = 5 then addT (cutT n.er o.path.l).1 o.dest.l (cutT n.er o.path.l).2.1
    else contentT n.er o.er) := rfl
  generalize shapedT n.er o.er = res at *
  generalize contentT n.er o.er = ctr at *
  generalize addT n.er o.path.l o.node.er = adr at *
  generalize cutT n.er o.path.l = cu at *
  obtain ⟨cx, cy, ce⟩ := cu
  clear later hn ho hb ht
  unfold NT.val at CC CA CS CCU CM CSP CMV CCT ⊢
  unfold OpL.val at CM CSP CCT ⊢
  go_enter Tryz.func42, Tryz.ntmps42
  go_upto_region 2 with fail
  generalize hW : ((((w.alloc _).alloc _).alloc _).alloc _).alloc _ = w1
  obtain ⟨g0, rN, rO, _, tF, z0⟩ := boxes3 w n.cells4 o.cells NT.nil.cells4 26 35 26 _ rfl
  obtain ⟨g1, _, tX, _, tY, z1⟩ := boxes2 (((w.alloc (.cells n.cells4.toArray 26)).alloc (.cells o.cells.toArray 35)).alloc (.cells NT.nil.cells4.toArray 26)) NT.nil.cells4 NT.nil.cells4 _ _ w1 hW
  clear hW
  rw [z0] at tX tY z1
  have hb1 : Base w n o w1 := ⟨rangeAt_grew rN g1 (by omega), rangeAt_grew rO g1 (by omega), there_grew tF g1 (by omega), g0.trans g1, by omega⟩
  obtain ⟨ov, hov⟩ : ∃ v, o.val = v := ⟨_, rfl⟩
  unfold OpL.val at hov
  rw [hov]
  clear hov
  have HB1 := Lib.hid hb1
  have TX : Hid (w1.there (w.heap.size + 3) 0 4) := tX
  have TY : Hid (w1.there (w.heap.size + 4) 0 4) := by show w1.there _ 0 4; exact tY
  have HZ1 : Hid (w1.heap.size = w.heap.size + 5) := by show _ = _; omega
  clear g0 rN rO tF z0 g1 tX tY z1 hb1
  have k0 := rangeAt_at0 HB1.out.2.1 (j := 0) rfl
  have k1 := Hk1.out
  have t1 : (o.kind == 1) = true := by simpa using k1
  have t2 : (o.kind == 2) = false := by simpa using (show ¬ o.kind = 2 by omega)
  have t3 : (o.kind == 3) = false := by simpa using (show ¬ o.kind = 3 by omega)
  have t4 : (o.kind == 4) = false := by simpa using (show ¬ o.kind = 4 by omega)
  have t5 : (o.kind == 5) = false := by simpa using (show ¬ o.kind = 5 by omega)
  have HMx : Hid (res = if o.node.er.chk ≠ 0 then (T.nilT, o.node.er.chk) else adr) := by show _ = _; rw [HM.out, if_pos k1]
  have j4 := rangeAt_at0 HB1.out.2.1 (j := 4) rfl
  have j5 := rangeAt_at0 HB1.out.2.1 (j := 5) rfl
  have j6 := rangeAt_at0 HB1.out.2.1 (j := 6) rfl
  have j7 := rangeAt_at0 HB1.out.2.1 (j := 7) rfl
  have HCx := Lib.hid (CC.out w1 HB1.out.2.2.2.1)
  generalize o.node.er.chk = ck at *
  clear HM
  go_wp2_with fail
  refine HCx.out.mono ?_
  rintro e w2 ⟨rfl, g2⟩
  have hBZ := HB1.out.grew g2
  clear j4 j5 j6 j7 k0 HCx g2
  by_cases hck : ck = 0
  · have tck : (ck != 0) = false := by simp [hck]
    have HRR : Hid (res = adr) := by show _ = _; rw [HMx.out, if_neg (by simp [hck])]
    have HCC := Lib.hid (CA.out w2 hBZ.2.2.2.1)
    rw [← HRR.out] at HCC
    obtain ⟨n0, n1, n2, n3⟩ := hBZ.n
    have j1 := rangeAt_at0 hBZ.2.1 (j := 1) rfl
    have j4 := rangeAt_at0 hBZ.2.1 (j := 4) rfl
    have j5 := rangeAt_at0 hBZ.2.1 (j := 5) rfl
    have j6 := rangeAt_at0 hBZ.2.1 (j := 6) rfl
    have j7 := rangeAt_at0 hBZ.2.1 (j := 7) rfl
    clear hck HMx
    go_wp2_with fail
    refine HCC.out.mono ?_
    rintro e wB ⟨y, rfl, gB, hy, hye⟩
    have hBB := hBZ.grew gB
    have t3 := hBB.2.2.1
    have HP := Lib.hid (rangeAt_put (cs := y.cells4) t3)
    have HK := Lib.hid (setCells_keepsO (w.heap.size + 2) y.cells4 0 wB)
    have HFIN := Lib.hid (fun wf (k3 : Keeps (· = w.heap.size + 2) wB wf) => retTE_box (x := y) (r := res) (bx := w.heap.size + 2) (by omega) (by have := hBZ.2.2.2.2; omega) hBZ.2.2.2.1 gB hy hye k3)
    clear hy hye gB hBB hBZ
    go_wp2_with (refine wpList_store_mid rfl 26 (.tmp 4) (.tmp 55) rfl (w.heap.size + 2) 0 y.cells4.toArray rfl rfl t3 infoNode4 (NT.cells4_all _) ?_; generalize hF : World.setCells wB _ _ _ = wf; have r3 : wf.rangeAt (w.heap.size + 2) 0 y.cells4 := hF ▸ HP.out; have k3 : Keeps (· = w.heap.size + 2) wB wf := hF ▸ HK.out; clear hF HP HK)
    exact bodyPost_ret (v := .tuple #[y.val, .int .i64 res.2]) (results_cellE Tryz.results42 _ wf (w.heap.size + 2) 0 y.cells4 _ _ rfl rfl r3 Tryz.underlying26 rfl infoNode4) rfl (HFIN.out wf k3)
  · have tck : (ck != 0) = true := by simpa using hck
    have HN : Hid (res = (T.nilT, ck)) := by show _ = _; rw [HMx.out, if_pos hck]
    clear hck HMx
    have t3 := hBZ.2.2.1
    have HP := Lib.hid (rangeAt_put (cs := NT.nil.cells4) t3)
    have HK := Lib.hid (setCells_keepsO (w.heap.size + 2) NT.nil.cells4 0 w2)
    have FIN := Lib.hid (fun wq (k3 : Keeps (· = w.heap.size + 2) w2 wq) => retTE_nil hBZ.2.2.2.1 k3 HN.out)
    clear hBZ
    go_wp2_with (refine wpList_store_mid rfl 26 (.tmp 4) (.tmp 47) rfl (w.heap.size + 2) 0 NT.nil.cells4.toArray rfl rfl t3 infoNode4 (NT.cells4_all _) ?_; generalize hF : World.setCells w2 _ _ _ = wf; have r3 : wf.rangeAt (w.heap.size + 2) 0 NT.nil.cells4 := hF ▸ HP.out; have k3 : Keeps (· = w.heap.size + 2) w2 wf := hF ▸ HK.out; clear hF HP HK)
    exact bodyPost_ret (v := .tuple #[NT.nil.val, .int .i64 ck]) (results_cellE Tryz.results42 _ wf (w.heap.size + 2) 0 NT.nil.cells4 _ _ rfl rfl r3 Tryz.underlying26 rfl infoNode4) rfl (FIN.out wf k3)
end Go.Proofs.YtdopncbmlehnoaaGreatDoor
