/- A REGION THAT DRAWS ITS ORDER: an operation that only reads may be taken first where what it reads is kept by every operation that may come ahead of it ('need'); of the others (a store that waits for it) nothing is asked. -/
import Derived.OrdersHeld
import Derived.RegionTactic
namespace Go.Proofs.Ytgnlgfkolbecmaa
open Go

section
variable {P : Program} {ops : Array Oper} {Q : Exit → Act → World → Prop} {md : Region.Mode} {S : World → Prop} {need : Nat → Bool}

/-- whatever order is picked from here on, and behind each operation of 'need' S holds -/
def wpAnyN (P : Program) (md : Region.Mode) (ops : Array Oper) (Q : Exit → Act → World → Prop) (S : World → Prop) (need : Nat → Bool) : Nat → Array Bool → Act → World → Prop
  | 0, listed, a, w => Region.ready md ops listed = [] ∧ Q .normal a w
  | fuel + 1, listed, a, w =>
    (Region.ready md ops listed = [] → Q .normal a w) ∧
    ∀ i ∈ Region.ready md ops listed, wpOp P ops Q i (fun a' w' => (need i = true → S w') ∧ wpAnyN P md ops Q S need fuel (listed.setIfInBounds i true) a' w') a w

theorem wpAny_of_N : ∀ (fuel : Nat) (listed : Array Bool) (a : Act) (w : World), wpAnyN P md ops Q S need fuel listed a w → wpAny P md ops Q fuel listed a w
  | 0, _, _, _, h => h
  | fuel + 1, _, _, _, h => ⟨h.1, fun i hi => wpOp_mono (fun a' w' h' => wpAny_of_N fuel _ a' w' h'.2) (h.2 i hi)⟩

theorem wpAnyN_first {i : Nat} {oi : Oper} {v : Value} (hi : ops[i]? = some oi) (hsel : ∀ (j : Nat) (o : Oper) cs b, ops[j]? = some o → o.op ≠ .select cs b)
    (hQ : ∀ c a w, Q (.panic c) (a.put oi.dst v) w → Q (.panic c) a w) :
    ∀ (fuel : Nat) (listed : Array Bool) (a : Act) (w : World),
      (∀ j oj, ops[j]? = some oj → j ≠ i → listed.getD j true = false → (∀ e ∈ oj.after, Region.binds md e = true → e.on ≠ i) → oi.apart ops oj = true ∧ need j = true) →
      i ∈ Region.ready md ops listed → YieldsIf P ops S oi v a → S w →
      wpAnyN P md ops Q S need fuel (listed.setIfInBounds i true) (a.put oi.dst v) w → wpAnyN P md ops Q S need (fuel + 1) listed a w := by
  intro fuel
  induction fuel with
  | zero =>
    intro listed a w _ hr hy hS H
    refine ⟨fun h => (by rw [h] at hr; cases hr), fun j hj => ?_⟩
    by_cases hji : j = i
    · subst hji; exact hy.wpOp hi hS ⟨fun _ => hS, H⟩
    · have h1 := ready_mono hj hji
      rw [H.1] at h1
      cases h1
  | succ fuel ih =>
    intro listed a w hfree hr hy hS H
    have hun := (mem_ready.1 hr).1
    refine ⟨fun h => (by rw [h] at hr; cases hr), fun j hj => ?_⟩
    by_cases hji : j = i
    · subst hji; exact hy.wpOp hi hS ⟨fun _ => hS, H⟩
    · have h1 := H.2 j (ready_mono hj hji)
      obtain ⟨hjun, oj, hoj, hall⟩ := mem_ready.1 hj
      have hnot : ∀ e ∈ oj.after, Region.binds md e = true → e.on ≠ i := fun e he hb heq => by
        have h2 := hall e he hb
        rw [heq] at h2
        rcases Nat.lt_or_ge i listed.size with h' | h'
        · simp [h'] at hun h2; rw [hun] at h2; cases h2
        · simp [Array.getElem?_eq_none h'] at h2
      have hap := hfree j oj hoj hji hjun hnot
      have h2 := wpOp_putIf hoj hap.1 (fun cs b => hsel i oi cs b hi) (fun cs b => hsel j oj cs b hoj) hQ hy h1
      have hfree' : ∀ k ok, ops[k]? = some ok → k ≠ i → (listed.setIfInBounds j true).getD k true = false →
          (∀ e ∈ ok.after, Region.binds md e = true → e.on ≠ i) → oi.apart ops ok = true ∧ need k = true := fun k ok hk hki hku hno => by
        refine hfree k ok hk hki ?_ hno
        by_cases hjk : j = k
        · subst hjk; exact hjun
        · rw [getD_set_ne true hjk] at hku; exact hku
      refine wpOp_mono (fun a' w' h3 => ⟨fun _ => h3.2.1 hap.2, ih (listed.setIfInBounds j true) a' w' hfree' (ready_mono hr (Ne.symm hji)) h3.1 (h3.2.1 hap.2) ?_⟩) h2
      rw [Array.setIfInBounds_comm _ _ hji]
      exact h3.2.2

/-- who has not come up, and does not wait for operation i, is of 'need' -/
def needsAll (need : Nat → Bool) (md : Region.Mode) (ops : Array Oper) (listed : Array Bool) (i : Nat) : Bool :=
  (List.range ops.size).all fun j => j == i || listed.getD j true || need j || ((ops.getD j default).after.any fun e => Region.binds md e && e.on == i)
theorem needsAll_spec {listed : Array Bool} {i : Nat} (h : needsAll need md ops listed i = true) (j : Nat) (oj : Oper) (hj : ops[j]? = some oj) (hji : j ≠ i) (hun : listed.getD j true = false)
    (hno : ∀ e ∈ oj.after, Region.binds md e = true → e.on ≠ i) : need j = true := by
  have hlt : j < ops.size := by
    rcases Nat.lt_or_ge j ops.size with h1 | h1
    · exact h1
    · rw [Array.getElem?_eq_none h1] at hj; cases hj
  unfold needsAll at h
  rw [List.all_eq_true] at h
  have h1 := h j (List.mem_range.2 hlt)
  have e1 : ops.getD j default = oj := by
    rw [Array.getD_eq_getD_getElem?, hj]; rfl
  rw [e1, hun] at h1
  simp only [Bool.or_eq_true, Bool.false_eq_true, or_false, beq_iff_eq] at h1
  rcases h1 with (h1 | h1) | h1
  · exact absurd h1 hji
  · exact h1
  · rw [Array.any_eq_true'] at h1
    obtain ⟨e, he, h2⟩ := h1
    rw [Bool.and_eq_true] at h2
    exact absurd (by simpa using h2.2) (hno e he h2.1)

/-- take number i first -/
theorem wpAnyN_take {i : Nat} {oi : Oper} {v : Value} {fuel : Nat} {listed : Array Bool} {a : Act} {w : World} (hi : ops[i]? = some oi)
    (hs : Region.noSelect ops = true) (hf : Region.free md ops listed i = true) (hn : needsAll need md ops listed i = true) (hr : (Region.ready md ops listed).contains i = true)
    (hQ : ∀ c a w, Q (.panic c) (a.put oi.dst v) w → Q (.panic c) a w) (hy : YieldsIf P ops S oi v a) (hS : S w)
    (h : wpAnyN P md ops Q S need fuel (listed.setIfInBounds i true) (a.put oi.dst v) w) : wpAnyN P md ops Q S need (fuel + 1) listed a w :=
  wpAnyN_first hi (Region.noSelect_spec hs) hQ fuel listed a w (fun j oj hj hji hun hno => ⟨Region.free_spec hi hf j oj hj hji hun hno, needsAll_spec hn j oj hj hji hun hno⟩) (by simpa using hr) hy hS h
/-- the one operation that may come up -/
theorem wpAnyN_one {i : Nat} {o : Oper} {fuel : Nat} {listed : Array Bool} {a : Act} {w : World} (hr : Region.ready md ops listed = [i]) (ho : ops[i]? = some o) (hw : Region.wanted o (yielded ops a.tmps) = true)
    (h : ∀ K' : Act → World → Prop, (∀ a' w', (need i = true → S w') ∧ wpAnyN P md ops Q S need fuel (listed.setIfInBounds i true) a' w' → K' a' w') → Oper.wp P o a w K' Q) :
    wpAnyN P md ops Q S need (fuel + 1) listed a w := by
  refine ⟨(fun h0 => by rw [hr] at h0; cases h0), fun j hj => ?_⟩
  rw [hr] at hj
  obtain rfl : j = i := by simpa using hj
  exact wpOp_step ho (fun K' hK => by rw [if_pos hw]; exact h K' hK)
/-- one of two comes up -/
theorem wpAnyN_two {i j : Nat} {oi oj : Oper} {fuel : Nat} {listed : Array Bool} {a : Act} {w : World} (hr : Region.ready md ops listed = [i, j]) (hi : ops[i]? = some oi) (wi : Region.wanted oi (yielded ops a.tmps) = true)
    (hj : ops[j]? = some oj) (wj : Region.wanted oj (yielded ops a.tmps) = true)
    (h1 : ∀ K' : Act → World → Prop, (∀ a' w', (need i = true → S w') ∧ wpAnyN P md ops Q S need fuel (listed.setIfInBounds i true) a' w' → K' a' w') → Oper.wp P oi a w K' Q)
    (h2 : ∀ K' : Act → World → Prop, (∀ a' w', (need j = true → S w') ∧ wpAnyN P md ops Q S need fuel (listed.setIfInBounds j true) a' w' → K' a' w') → Oper.wp P oj a w K' Q) :
    wpAnyN P md ops Q S need (fuel + 1) listed a w := by
  refine ⟨(fun h0 => by rw [hr] at h0; cases h0), fun k hk => ?_⟩
  rw [hr] at hk
  simp only [List.mem_cons, List.not_mem_nil, or_false] at hk
  rcases hk with rfl | rfl
  · exact wpOp_step hi (fun K' hK => by rw [if_pos wi]; exact h1 K' hK)
  · exact wpOp_step hj (fun K' hK => by rw [if_pos wj]; exact h2 K' hK)
/-- one of three comes up -/
theorem wpAnyN_three {i j k : Nat} {oi oj ok : Oper} {fuel : Nat} {listed : Array Bool} {a : Act} {w : World} (hr : Region.ready md ops listed = [i, j, k]) (hi : ops[i]? = some oi) (wi : Region.wanted oi (yielded ops a.tmps) = true)
    (hj : ops[j]? = some oj) (wj : Region.wanted oj (yielded ops a.tmps) = true) (hk : ops[k]? = some ok) (wk : Region.wanted ok (yielded ops a.tmps) = true)
    (h1 : ∀ K' : Act → World → Prop, (∀ a' w', (need i = true → S w') ∧ wpAnyN P md ops Q S need fuel (listed.setIfInBounds i true) a' w' → K' a' w') → Oper.wp P oi a w K' Q)
    (h2 : ∀ K' : Act → World → Prop, (∀ a' w', (need j = true → S w') ∧ wpAnyN P md ops Q S need fuel (listed.setIfInBounds j true) a' w' → K' a' w') → Oper.wp P oj a w K' Q)
    (h3 : ∀ K' : Act → World → Prop, (∀ a' w', (need k = true → S w') ∧ wpAnyN P md ops Q S need fuel (listed.setIfInBounds k true) a' w' → K' a' w') → Oper.wp P ok a w K' Q) :
    wpAnyN P md ops Q S need (fuel + 1) listed a w := by
  refine ⟨(fun h0 => by rw [hr] at h0; cases h0), fun x hx => ?_⟩
  rw [hr] at hx
  simp only [List.mem_cons, List.not_mem_nil, or_false] at hx
  rcases hx with rfl | rfl | rfl
  · exact wpOp_step hi (fun K' hK => by rw [if_pos wi]; exact h1 K' hK)
  · exact wpOp_step hj (fun K' hK => by rw [if_pos wj]; exact h2 K' hK)
  · exact wpOp_step hk (fun K' hK => by rw [if_pos wk]; exact h3 K' hK)
theorem wpAnyN_done {listed : Array Bool} {a : Act} {w : World} (hr : Region.ready md ops listed = []) (h : Q .normal a w) :
    ∀ fuel, wpAnyN P md ops Q S need fuel listed a w
  | 0 => ⟨hr, h⟩
  | _ + 1 => ⟨fun _ => h, by rw [hr]; simp⟩
/-- the beginning: from the world behind the draw -/
theorem wp_region_need (S : World → Prop) (need : Nat → Bool) {id : Nat} {a : Act} {w : World} (hm : P.follows .mixedOrders = true)
    (h : wpAnyN P .any ops Q S need ops.size (Array.replicate ops.size false) a w.drew) : (Code.region id ops true).wp P Q a w :=
  wp_region_any hm (wpAny_of_N _ _ _ _ h)
end
end Go.Proofs.Ytgnlgfkolbecmaa
