/- valid's element: empty, fill: the contracts. -/
import Derived.Test.YtnkmcbhpmbjkpaaElem
namespace Go.Proofs.Ytnkmcbhpmbjkpaa
open Go Go.RowKit

def isEmptyT (k : T) : Bool := k.lf && k.ts.isEmpty
def emptyOf (ks : List T) : Int := if ks.length < 2 then -1 else idxOf isEmptyT ks
def fillOf (ks : List T) (fill : Int) : Int := if ks.isEmpty then (if fill = 0 then -1 else 0) else -1
theorem idxOf_er (pr : T → Bool) (ks : List NT) : idxOf pr (ks.map NT.er) = idxOf (fun k => pr k.er) ks := by
  unfold idxOf
  rw [List.findIdx?_map]
  rfl

set_option maxHeartbeats 400000 in
theorem emptyFn_any (n : NT) (w : World) :
    Calls Try.prog 73 #[n.val] w fun e w' => e = .returned (.bool (isEmptyT n.er)) ∧ Grew w w' := by
  unfold NT.val
  cases hlf : n.lf with
  | false =>
    have HE : Hid (isEmptyT n.er = false) := by show _ = _; simp [isEmptyT, hlf]
    clear hlf
    go_enter Try.func73, Try.ntmps73
    go_wp2_with fail
    go_ret
    exact ⟨ret_bool (by rw [HE.out]), Grew.alloc1 _ _⟩
  | true =>
    have HE : Hid (isEmptyT n.er = ((n.ts.length : Int) == 0)) := by
      show _ = _
      cases h : n.ts with
      | nil => simp [isEmptyT, hlf, h]
      | cons x r => simp [isEmptyT, hlf, h]; omega
    clear hlf
    go_enter Try.func73, Try.ntmps73
    go_wp2_with fail
    go_ret
    exact ⟨ret_bool (by rw [HE.out]), Grew.alloc1 _ _⟩

set_option maxHeartbeats 400000 in
theorem fill_any (e : EN) (w : World) :
    Calls Try.prog 53 #[e.val] w fun e' w' => e' = .returned (.tuple #[.int .i64 (fillOf (e.n.ks.map NT.er) e.r.fill), .int .i64 1]) ∧ Grew w w' := by
  unfold EN.val
  by_cases h : e.n.ks = []
  · have hk : (0 : Int) < e.n.ks.length ↔ False := by simp [h]
    have hk' : e.n.ks.length = 0 := by simp [h]
    by_cases hf : e.r.fill = 0
    · have HE : Hid (fillOf (e.n.ks.map NT.er) e.r.fill = -1) := by show _ = _; simp [fillOf, h, hf]
      have ht : (e.r.fill == 0) = true := by simpa using hf
      clear h hf
      go_enter Try.func53, Try.ntmps53
      go_wp2_with fail
      go_ret2
      exact ⟨ret_val (by rw [HE.out]; rfl), Grew.alloc1 _ _⟩
    · have HE : Hid (fillOf (e.n.ks.map NT.er) e.r.fill = 0) := by show _ = _; simp [fillOf, h, hf]
      have ht : (e.r.fill == 0) = false := by simpa using hf
      clear h hf
      go_enter Try.func53, Try.ntmps53
      go_wp2_with fail
      go_ret2
      exact ⟨ret_val (by rw [HE.out]; rfl), Grew.alloc1 _ _⟩
  · have HE : Hid (fillOf (e.n.ks.map NT.er) e.r.fill = -1) := by show _ = _; simp [fillOf, h]
    have hk : 0 < e.n.ks.length := List.length_pos_iff.2 h
    clear h
    go_enter Try.func53, Try.ntmps53
    go_wp2_with fail
    go_ret2
    exact ⟨ret_val (by rw [HE.out]; rfl), Grew.alloc1 _ _⟩

set_option maxHeartbeats 400000 in
theorem empty_any (e : EN) (w : World) (hn : e.n.Ok w) (hl : e.n.ks.length ≤ 1048576) :
    Calls Try.prog 52 #[e.val] w fun e' w' => e' = .returned (.tuple #[.int .i64 (emptyOf (e.n.ks.map NT.er)), .int .i64 1]) ∧ Grew w w' := by
  have hk := (NT.In_iff.1 hn).2.2
  have CI := Lib.hid (fun w1 (hg : Grew w w1) => indexNodes_any e.n.ks e.n.ka e.n.kc 73 #[] 0 w.heap.size (fun k _ _ => ∀ j, j < k → isEmptyT (e.n.ks.getD j default).er = false) (fun k _ => (∀ j, j < k → isEmptyT (e.n.ks.getD j default).er = false) ∧ isEmptyT (e.n.ks.getD k default).er = true) Try.call73
    (fun j hj O w2 hI _ _ _ => (emptyFn_any (e.n.ks.getD j default) w2).mono (fun e' w' h => ⟨O, Moves.grew h.2, by
      cases hv : isEmptyT (e.n.ks.getD j default).er with
      | false =>
        left
        refine ⟨by rw [h.1, hv], fun i hi => ?_⟩
        rcases Nat.lt_or_ge i j with h1 | h1
        · exact hI i h1
        · obtain rfl : i = j := by omega
          exact hv
      | true => right; exact ⟨by rw [h.1, hv], hI, hv⟩⟩)) Noth (fun k _ _ h => h) hl w1 (hk.grew hg (Nat.le_refl _)) hg.size (fun j hj => by omega))
  unfold EN.val
  by_cases h : e.n.ks.length < 2
  · have HE : Hid (emptyOf (e.n.ks.map NT.er) = -1) := by show _ = _; simp [emptyOf, h]
    go_enter Try.func52, Try.ntmps52
    go_wp2_with fail
    go_ret2
    exact ⟨ret_val (by rw [HE.out]; rfl), Grew.alloc1 _ _⟩
  · have HE : Hid (emptyOf (e.n.ks.map NT.er) = idxOf (fun k => isEmptyT k.er) e.n.ks) := by show _ = _; rw [← idxOf_er]; simp [emptyOf, h]
    go_enter Try.func52, Try.ntmps52
    go_wp2_with fail
    refine (CI.out _ (Grew.alloc1 _ _)).mono ?_
    rintro e' w' ⟨O, hm, ⟨rfl, hI⟩ | ⟨j, hj, rfl, hJ⟩⟩
    all_goals have hG : Grew w w' := (Grew.alloc1 w _).trans (Keeps.grew hm.1)
    · have HX := Lib.hid (idxOf_none (pr := fun k : NT => isEmptyT k.er) hI)
      clear hI hm
      go_wp2_with fail
      go_ret2
      exact ⟨ret_val (by rw [HE.out, HX.out]; rfl), hG⟩
    · have HX := Lib.hid (idxOf_found (pr := fun k : NT => isEmptyT k.er) hj hJ.2 hJ.1)
      clear hJ hm
      go_wp2_with fail
      go_ret2
      exact ⟨ret_val (by rw [HE.out, HX.out]; rfl), hG⟩
end Go.Proofs.Ytnkmcbhpmbjkpaa
