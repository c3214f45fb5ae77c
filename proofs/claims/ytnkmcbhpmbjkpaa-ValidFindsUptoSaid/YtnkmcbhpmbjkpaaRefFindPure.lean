/- redlineref16.Find: what it answers, and that it is what valid.Find answers: plain laws. -/
import Derived.Test.YtnkmcbhpmbjkpaaFindLaws
import Derived.Test.YtnkmcbhpmbjkpaaWrong
import Derived.Test.YtnkmcbhpmbjkpaaRefWrong
namespace Go.Proofs.Ytnkmcbhpmbjkpaa
open Go Go.RowKit

/-- the first Kid with which something of a class is wrong, or -1; how many there are from there on -/
def idxR (r : RuleT) (ks : List T) (c : Int) : Int := idxOf (fun i => refWrongT r ks c i) (List.range ks.length)
def runR (r : RuleT) (ks : List T) (c : Int) (i : Nat) : Int := if c = 3 then (runOf (ks.map r.actOf) i : Int) else 1
def findAllR (r : RuleT) (n : T) : List Int → FindL
  | [] => (0, 0, 0)
  | c :: l => if c = 6 ∧ n.ks = [] ∧ r.fill ≠ 0 then (c, 0, 1) else if 0 ≤ idxR r n.ks c then (c, idxR r n.ks c, runR r n.ks c (idxR r n.ks c).toNat) else findAllR r n l

theorem idxOf_congr {α : Type} {f g : α → Bool} (l : List α) (h : ∀ x ∈ l, f x = g x) : idxOf f l = idxOf g l := by
  unfold idxOf
  have : l.findIdx? f = l.findIdx? g := by
    induction l with
    | nil => rfl
    | cons x r ih => rw [List.findIdx?_cons, List.findIdx?_cons, h x (by simp), ih (fun y hy => h y (by simp [hy]))]
  rw [this]
theorem idxOf_false {α : Type} {f : α → Bool} (l : List α) (h : ∀ x ∈ l, f x = false) : idxOf f l = -1 := by
  unfold idxOf
  rw [List.findIdx?_eq_none_iff.2 h]
theorem range_getD (n j : Nat) (h : j < n) : (List.range n).getD j default = j := by simp [List.getD, h]
theorem idxOf_range {α : Type} [Inhabited α] (p : α → Bool) (l : List α) : idxOf (fun i => p (l.getD i default)) (List.range l.length) = idxOf p l := by
  rcases first_true (fun i => p (l.getD i default)) l.length with h | ⟨k, hk, h1, h2⟩
  · rw [idxOf_none h, idxOf_none (l := List.range l.length) (fun j hj => by
      rw [List.length_range] at hj
      rw [range_getD _ _ hj]; exact h j hj)]
  · rw [idxOf_found hk h1 h2, idxOf_found (l := List.range l.length) (k := k) (by simpa using hk) (by rw [range_getD _ _ hk]; exact h1) (fun j hj => by rw [range_getD _ _ (by omega)]; exact h2 j hj)]
theorem getD_map {α β : Type} [Inhabited α] [Inhabited β] (f : α → β) (l : List α) (i : Nat) (h : i < l.length) : (l.map f).getD i default = f (l.getD i default) := by simp [List.getD, List.getElem?_eq_getElem h]
theorem idx_act (r : RuleT) (ks : List T) (d : Int) : idxOf (fun i => decide ((r.actOf (ks.getD i default)).1 = d)) (List.range ks.length) = idxOf (fun a : ActL => decide (a.1 = d)) (ks.map r.actOf) := by
  rw [← idxOf_range (fun a : ActL => decide (a.1 = d)) (ks.map r.actOf), List.length_map]
  refine idxOf_congr _ fun i hi => ?_
  rw [getD_map _ _ _ (List.mem_range.1 hi)]
theorem doing_of (l : List ActL) (d : Int) : (0 ≤ (doingOf l d).1 ↔ 0 ≤ idxOf (fun a => decide (a.1 = d)) l) ∧ (0 ≤ idxOf (fun a => decide (a.1 = d)) l → doingOf l d = (idxOf (fun a => decide (a.1 = d)) l, ((if d = 4 then runOf l (idxOf (fun a => decide (a.1 = d)) l).toNat else 1 : Nat) : Int))) := by
  rcases doing_idx l d with ⟨h1, h2⟩ | ⟨j, hj, h1, h2⟩
  · rw [h1, h2]; simp
  · rw [h1, h2]; simp
/-- one class, in the order that is asked -/
theorem look_ref (r : RuleT) (n : T) (c : Int) (h1 : ¬ (c < 1 ∨ 6 < c)) (h6 : ¬ (c = 6 ∧ n.ks = [] ∧ r.fill ≠ 0)) :
    (0 ≤ (lookT r n c).1 ↔ 0 ≤ idxR r n.ks c) ∧ (0 ≤ idxR r n.ks c → lookT r n c = (idxR r n.ks c, runR r n.ks c (idxR r n.ks c).toNat)) := by
  have hc : c = 1 ∨ c = 2 ∨ c = 3 ∨ c = 4 ∨ c = 5 ∨ c = 6 := by omega
  rcases hc with rfl | rfl | rfl | rfl | rfl | rfl
  · have e : idxR r n.ks 1 = idxOf (fun a : ActL => decide (a.1 = 2)) (n.ks.map r.actOf) := idx_act r n.ks 2
    have := doing_of (n.ks.map r.actOf) 2
    rw [e]; exact this
  · have e : idxR r n.ks 2 = idxOf (fun a : ActL => decide (a.1 = 3)) (n.ks.map r.actOf) := idx_act r n.ks 3
    have := doing_of (n.ks.map r.actOf) 3
    rw [e]; exact this
  · have e : idxR r n.ks 3 = idxOf (fun a : ActL => decide (a.1 = 4)) (n.ks.map r.actOf) := idx_act r n.ks 4
    have := doing_of (n.ks.map r.actOf) 4
    rw [e]; exact this
  · have e : idxR r n.ks 4 = mergeOf n.ks := by
      unfold idxR mergeOf
      refine idxOf_congr _ fun i _ => ?_
      unfold mergeAt
      show (decide (0 < i) && _) = _
      rw [Bool.and_comm (n.ks.getD i default).lf, show decide (1 ≤ i) = decide (0 < i) from rfl]
      congr 2
      exact decide_eq_decide.2 eq_comm
    rw [e]
    exact ⟨Iff.rfl, fun _ => rfl⟩
  · have e : idxR r n.ks 5 = emptyOf n.ks := by
      unfold idxR emptyOf
      by_cases hl : n.ks.length < 2
      · rw [if_pos hl]
        refine idxOf_false _ fun i _ => ?_
        show (_ && decide (1 < n.ks.length)) = false
        rw [decide_eq_false (by omega), Bool.and_false]
      · rw [if_neg hl, ← idxOf_range isEmptyT n.ks]
        refine idxOf_congr _ fun i _ => ?_
        show (_ && decide (1 < n.ks.length)) = _
        rw [decide_eq_true (by omega), Bool.and_true]; rfl
    rw [e]
    exact ⟨Iff.rfl, fun _ => rfl⟩
  · have e : idxR r n.ks 6 = -1 := idxOf_false _ fun i _ => rfl
    have e2 : fillOf n.ks r.fill = -1 := by
      unfold fillOf
      cases hk : n.ks with
      | nil =>
        have : r.fill = 0 := Classical.byContradiction fun hf => h6 ⟨rfl, hk, hf⟩
        simp [this]
      | cons x l => rfl
    have e3 : lookT r n 6 = (fillOf n.ks r.fill, 1) := rfl
    rw [e, e3, e2]
    simp
theorem refFind_all (r : RuleT) (n : T) (l : List Int) : findAllR r n l = findAll r n l := by
  induction l with
  | nil => rfl
  | cons c l ih =>
    rw [findAllR, findAll, ih]
    by_cases h6 : c = 6 ∧ n.ks = [] ∧ r.fill ≠ 0
    · obtain ⟨rfl, hk, hf⟩ := h6
      have e3 : lookT r n 6 = (0, 1) := by
        show (fillOf n.ks r.fill, 1) = _
        unfold fillOf
        rw [hk]; simp [hf]
      rw [if_pos ⟨rfl, hk, hf⟩, if_neg (by omega), e3]; rfl
    · rw [if_neg h6]
      by_cases h1 : c < 1 ∨ 6 < c
      · have e : idxR r n.ks c = -1 := idxOf_false _ fun i _ => by
          show refWrongT r n.ks c i = false
          unfold refWrongT
          rw [if_neg (by omega), if_neg (by omega), if_neg (by omega), if_neg (by omega), if_neg (by omega)]
        rw [if_pos h1, e]; rfl
      · rw [if_neg h1]
        have h := look_ref r n c h1 h6
        by_cases h0 : 0 ≤ idxR r n.ks c
        · rw [if_pos h0, if_pos (h.1.2 h0), h.2 h0]
        · rw [if_neg h0, if_neg (fun h2 => h0 (h.1.1 h2))]
/-- what redlineref16.Find answers -/
def refFindT (s : SchT) (n : T) : FindL := if n.lf then (0, 0, 0) else findAllR (s.ruleOf n.type) n s.order
theorem refFind_eq (s : SchT) (n : T) : refFindT s n = findT s n := by unfold refFindT findT; rw [refFind_all]
end Go.Proofs.Ytnkmcbhpmbjkpaa
