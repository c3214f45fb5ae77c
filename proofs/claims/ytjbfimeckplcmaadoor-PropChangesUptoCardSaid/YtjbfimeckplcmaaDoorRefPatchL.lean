/- What redlineref01.Patch says is what prop.Patch says, in plain Lean. -/
import Derived.Test.YtjbfimeckplcmaaDoorPatchLaw
import Derived.Test.YtjbfimeckplcmaaDoorRefPut
namespace Go.Proofs.YtjbfimeckplcmaaDoor
open Go Go.RowKit

theorem putT_perm (p : PropL) : ∀ l : List PropL, (putT p l).Perm (p :: l)
  | [] => List.Perm.refl _
  | x :: r => by
    simp only [putT]
    split
    · exact List.Perm.refl _
    · exact ((putT_perm p r).cons x).trans (List.Perm.swap p x r)
theorem putT_up {p : PropL} : ∀ {l : List PropL}, Up l → p.1 ∉ l.map (·.1) → Up (putT p l)
  | [], _, _ => List.pairwise_singleton _ _
  | x :: r, h, hn => by
    obtain ⟨h1, h2⟩ := List.pairwise_cons.1 h
    simp only [List.map_cons, List.mem_cons, not_or] at hn
    simp only [putT]
    split
    · rename_i hlt
      rw [bytesLess_ltS] at hlt
      refine List.pairwise_cons.2 ⟨fun q hq => ?_, h⟩
      rcases List.mem_cons.1 hq with rfl | hq
      · exact hlt
      · exact ltS_trans hlt (h1 q hq)
    · rename_i hlt
      rw [bytesLess_ltS] at hlt
      have hx : ltS x.1 p.1 := by
        rcases ltS_tri p.1 x.1 with h3 | h3 | h3
        · exact absurd h3 hlt
        · exact absurd h3 hn.1
        · exact h3
      refine List.pairwise_cons.2 ⟨fun q hq => ?_, putT_up h2 hn.2⟩
      rcases List.mem_cons.1 ((putT_perm p r).mem_iff.1 hq) with rfl | hq
      · exact hx
      · exact h1 q hq
/-- all put to their places -/
def putsT (l new : List PropL) : List PropL := new.foldl (fun m p => putT p m) l
theorem putsT_snoc (l o : List PropL) (p : PropL) : putsT l (o ++ [p]) = putT p (putsT l o) := by simp [putsT]
theorem puts_perm : ∀ (new l : List PropL), (putsT l new).Perm (l ++ new)
  | [], l => by simp [putsT]
  | p :: r, l => (puts_perm r (putT p l)).trans (((putT_perm p l).append_right r).trans List.perm_middle.symm)
theorem puts_up : ∀ (new : List PropL) {l : List PropL}, Up l → ((l ++ new).map (·.1)).Nodup → Up (putsT l new)
  | [], _, h, _ => h
  | p :: r, l, h, hn => by
    have hp : ((p :: (l ++ r)).map (·.1)).Nodup := nodup_keys_perm List.perm_middle.symm hn
    have h3 := (List.nodup_cons.1 (show (p.1 :: (l ++ r).map (·.1)).Nodup from hp)).1
    refine puts_up r (putT_up h (fun hm => h3 (by rw [List.map_append]; exact List.mem_append_left _ hm))) ?_
    exact nodup_keys_perm ((putT_perm p l).append_right r) hp
/-- what redlineref01.Patch says -/
def refE (l old new : List PropL) : Int :=
  if firstBad [l, old, new] ≠ 0 then firstBad [l, old, new] else if (old.all fun p => hasP l p) = false then 9
  else if (new.any fun p => (getP p.1 l).isSome && !(getP p.1 old).isSome) = true then 9 else if 16 < (putsT (withoutP l old) new).length then 2 else 0
theorem hasP_mem {l : List PropL} {p : PropL} : hasP l p = true ↔ p ∈ l := by
  unfold hasP
  rw [List.any_eq_true]
  simp only [decide_eq_true_eq]
  exact ⟨fun ⟨q, hq, e⟩ => e ▸ hq, fun h => ⟨p, h, rfl⟩⟩
theorem without_minus {l old : List PropL} (hl : Up l) (ho : ∀ p ∈ old, p ∈ l) : (withoutP l old).Perm (minusK l old) := by
  refine perm_of_mem (nodup_sub hl.nodup List.filter_sublist) (nodup_sub hl.nodup (minus_sub _ _)) (fun p => ?_)
  rw [mem_without, mem_minus]
  refine and_congr_right fun hp => not_congr ⟨fun h => List.mem_map.2 ⟨p, h, rfl⟩, fun h => ?_⟩
  obtain ⟨q, hq, e⟩ := List.mem_map.1 h
  have := key_one hl.nodup (ho q hq) hp e
  exact this ▸ hq
theorem refE_is (l old new : List PropL) : refE l old new = patchE l old new := by
  unfold refE patchE
  by_cases h0 : firstBad [l, old, new] = 0
  · obtain ⟨ul, uo, un⟩ := firstBad_ups h0
    have e1 : (old.all fun p => hasP l p) = (old.all fun p => decide (getP p.1 l = some p.2)) := by
      refine List.all_congr rfl (fun p => ?_)
      rw [Bool.eq_iff_iff, hasP_mem, decide_eq_true_iff]
      exact (getP_some ul.nodup).symm
    have e2 : (new.any fun p => (getP p.1 l).isSome && !(getP p.1 old).isSome) = (new.any fun p => (getP p.1 (minusK l old)).isSome) := by
      refine List.any_congr rfl (fun p => ?_)
      by_cases hk : p.1 ∈ old.map (·.1)
      · rw [getP_minus_in hk]
        cases hg : getP p.1 old with
        | none => exact absurd hk (getP_none.1 hg)
        | some v => simp
      · rw [getP_minus_out hk, getP_none.2 hk]
        simp
    have hn : ¬ (firstBad [l, old, new] ≠ 0) := fun h => h h0
    rw [if_neg hn, if_neg hn, e1, e2]
    by_cases h1 : (old.all fun p => decide (getP p.1 l = some p.2)) = false
    · rw [if_pos h1, if_pos h1]
    · rw [if_neg h1, if_neg h1]
      have hm : ∀ p ∈ old, p ∈ l := by
        rw [Bool.not_eq_false, List.all_eq_true] at h1
        exact fun p hp => (getP_some ul.nodup).1 (of_decide_eq_true (h1 p hp))
      have e3 : (putsT (withoutP l old) new).length = (minusK l old ++ new).length := by
        rw [(puts_perm new _).length_eq, List.length_append, List.length_append, (without_minus ul hm).length_eq]
      rw [e3]
  · rw [if_pos h0, if_pos h0]
theorem refE_sort {l old new : List PropL} (h : patchE l old new = 0) : IsSort (putsT (withoutP l old) new) (minusK l old ++ new) := by
  have hnd := patch_ms_nodup h
  obtain ⟨⟨h1, h2, h3⟩, h4, h5, h6⟩ := patchE_zero.1 h
  have ul := (checkPs_iff.1 h1).2.2
  have hp := (without_minus ul h4).append_right new
  exact ⟨(puts_perm new _).trans hp, puts_up new (List.Pairwise.sublist List.filter_sublist ul) (nodup_keys_perm hp hnd)⟩
end Go.Proofs.YtjbfimeckplcmaaDoor
