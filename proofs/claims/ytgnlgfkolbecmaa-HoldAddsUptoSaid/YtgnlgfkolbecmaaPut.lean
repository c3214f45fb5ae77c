/- STORES INTO ONE BLOCK, cell by cell. No program is named here. -/
import Derived.Test.YtgnlgfkolbecmaaOwn
namespace Go.Proofs.Ytgnlgfkolbecmaa
open Go Go.RowKit

/-- the cells from o on, one by one -/
def putFrom (w : World) (b : Nat) : Nat → List Value → World
  | _, [] => w
  | o, u :: r => putFrom (w.setCell ⟨b, o, none⟩ u) b (o + 1) r
theorem putFrom_keeps (b : Nat) : ∀ (us : List Value) (o : Nat) (w : World), Keeps (· = b) w (putFrom w b o us)
  | [], _, w => Keeps.refl _ w
  | u :: r, o, w => ((Keeps.refl (· = b) w).own o u).trans (putFrom_keeps b r (o + 1) _)
theorem putFrom_below (b : Nat) : ∀ (us : List Value) (o : Nat) (w : World) (j : Nat), j < o → (putFrom w b o us).cell? ⟨b, j, none⟩ = w.cell? ⟨b, j, none⟩
  | [], _, _, _, _ => rfl
  | u :: r, o, w, j, h => by
    rw [putFrom, putFrom_below b r (o + 1) _ j (by omega), cell_ne (by omega)]
theorem putFrom_cells (b : Nat) : ∀ (us : List Value) (o : Nat) (w : World), (∀ j, j < us.length → ∃ v, w.cell? ⟨b, o + j, none⟩ = some v) → ∀ j, j < us.length → (putFrom w b o us).cell? ⟨b, o + j, none⟩ = some (us.getD j undef)
  | [], _, _, _, j, h => by simp at h
  | u :: r, o, w, hc, 0, _ => by
    obtain ⟨v, hv⟩ := hc 0 (by simp)
    show (putFrom (w.setCell ⟨b, o, none⟩ u) b (o + 1) r).cell? ⟨b, o, none⟩ = some u
    rw [putFrom_below b r (o + 1) _ o (by omega)]
    exact cell_same hv
  | u :: r, o, w, hc, j + 1, h => by
    rw [putFrom, show o + (j + 1) = o + 1 + j by omega]
    refine (putFrom_cells b r (o + 1) _ (fun i hi => ?_) j (by simpa using h)).trans (by simp)
    obtain ⟨v, hv⟩ := hc (i + 1) (by simpa using hi)
    exact ⟨v, by rw [cell_ne (by omega), show o + 1 + i = o + (i + 1) by omega]; exact hv⟩
/-- a whole block is written -/
theorem put_cells {w W : World} {b : Nat} {us : List Value} (hW : W = putFrom w b 0 us) (h : ∀ j, j < us.length → ∃ v, w.cell? ⟨b, j, none⟩ = some v) :
    (∀ j, j < us.length → W.cell? ⟨b, j, none⟩ = some (us.getD j undef)) ∧ Keeps (· = b) w W := by
  subst hW
  refine ⟨fun j hj => ?_, putFrom_keeps b us 0 w⟩
  have := putFrom_cells b us 0 w (fun i hi => by rw [Nat.zero_add]; exact h i hi) j hj
  rwa [Nat.zero_add] at this
theorem put2 {W W' : World} {b : Nat} {u0 u1 v0 v1 : Value} (h : W.cell? ⟨b, 0, none⟩ = some v0 ∧ W.cell? ⟨b, 1, none⟩ = some v1) (hW : ((W.setCell ⟨b, 0, none⟩ u0).setCell ⟨b, 1, none⟩ u1) = W') :
    (W'.cell? ⟨b, 0, none⟩ = some u0 ∧ W'.cell? ⟨b, 1, none⟩ = some u1) ∧ Keeps (· = b) W W' := by
  obtain ⟨q0, q1⟩ := h
  have hc := put_cells (us := [u0, u1]) hW.symm (fun j hj => by
    match j, hj with
    | 0, _ => exact ⟨_, q0⟩
    | 1, _ => exact ⟨_, q1⟩)
  exact ⟨⟨hc.1 0 (by simp), hc.1 1 (by simp)⟩, hc.2⟩
theorem put3 {W W' : World} {b : Nat} {u0 u1 u2 v0 v1 v2 : Value} (h : W.cell? ⟨b, 0, none⟩ = some v0 ∧ W.cell? ⟨b, 1, none⟩ = some v1 ∧ W.cell? ⟨b, 2, none⟩ = some v2) (hW : (((W.setCell ⟨b, 0, none⟩ u0).setCell ⟨b, 1, none⟩ u1).setCell ⟨b, 2, none⟩ u2) = W') :
    (W'.cell? ⟨b, 0, none⟩ = some u0 ∧ W'.cell? ⟨b, 1, none⟩ = some u1 ∧ W'.cell? ⟨b, 2, none⟩ = some u2) ∧ Keeps (· = b) W W' := by
  obtain ⟨q0, q1, q2⟩ := h
  have hc := put_cells (us := [u0, u1, u2]) hW.symm (fun j hj => by
    match j, hj with
    | 0, _ => exact ⟨_, q0⟩
    | 1, _ => exact ⟨_, q1⟩
    | 2, _ => exact ⟨_, q2⟩)
  exact ⟨⟨hc.1 0 (by simp), hc.1 1 (by simp), hc.1 2 (by simp)⟩, hc.2⟩
theorem put4 {W W' : World} {b : Nat} {u0 u1 u2 u3 v0 v1 v2 v3 : Value} (h : W.cell? ⟨b, 0, none⟩ = some v0 ∧ W.cell? ⟨b, 1, none⟩ = some v1 ∧ W.cell? ⟨b, 2, none⟩ = some v2 ∧ W.cell? ⟨b, 3, none⟩ = some v3) (hW : ((((W.setCell ⟨b, 0, none⟩ u0).setCell ⟨b, 1, none⟩ u1).setCell ⟨b, 2, none⟩ u2).setCell ⟨b, 3, none⟩ u3) = W') :
    (W'.cell? ⟨b, 0, none⟩ = some u0 ∧ W'.cell? ⟨b, 1, none⟩ = some u1 ∧ W'.cell? ⟨b, 2, none⟩ = some u2 ∧ W'.cell? ⟨b, 3, none⟩ = some u3) ∧ Keeps (· = b) W W' := by
  obtain ⟨q0, q1, q2, q3⟩ := h
  have hc := put_cells (us := [u0, u1, u2, u3]) hW.symm (fun j hj => by
    match j, hj with
    | 0, _ => exact ⟨_, q0⟩
    | 1, _ => exact ⟨_, q1⟩
    | 2, _ => exact ⟨_, q2⟩
    | 3, _ => exact ⟨_, q3⟩)
  exact ⟨⟨hc.1 0 (by simp), hc.1 1 (by simp), hc.1 2 (by simp), hc.1 3 (by simp)⟩, hc.2⟩
theorem put7 {W W' : World} {b : Nat} {u0 u1 u2 u3 u4 u5 u6 v0 v1 v2 v3 v4 v5 v6 : Value} (h : W.cell? ⟨b, 0, none⟩ = some v0 ∧ W.cell? ⟨b, 1, none⟩ = some v1 ∧ W.cell? ⟨b, 2, none⟩ = some v2 ∧ W.cell? ⟨b, 3, none⟩ = some v3 ∧ W.cell? ⟨b, 4, none⟩ = some v4 ∧ W.cell? ⟨b, 5, none⟩ = some v5 ∧ W.cell? ⟨b, 6, none⟩ = some v6) (hW : (((((((W.setCell ⟨b, 0, none⟩ u0).setCell ⟨b, 1, none⟩ u1).setCell ⟨b, 2, none⟩ u2).setCell ⟨b, 3, none⟩ u3).setCell ⟨b, 4, none⟩ u4).setCell ⟨b, 5, none⟩ u5).setCell ⟨b, 6, none⟩ u6) = W') :
    (W'.cell? ⟨b, 0, none⟩ = some u0 ∧ W'.cell? ⟨b, 1, none⟩ = some u1 ∧ W'.cell? ⟨b, 2, none⟩ = some u2 ∧ W'.cell? ⟨b, 3, none⟩ = some u3 ∧ W'.cell? ⟨b, 4, none⟩ = some u4 ∧ W'.cell? ⟨b, 5, none⟩ = some u5 ∧ W'.cell? ⟨b, 6, none⟩ = some u6) ∧ Keeps (· = b) W W' := by
  obtain ⟨q0, q1, q2, q3, q4, q5, q6⟩ := h
  have hc := put_cells (us := [u0, u1, u2, u3, u4, u5, u6]) hW.symm (fun j hj => by
    match j, hj with
    | 0, _ => exact ⟨_, q0⟩
    | 1, _ => exact ⟨_, q1⟩
    | 2, _ => exact ⟨_, q2⟩
    | 3, _ => exact ⟨_, q3⟩
    | 4, _ => exact ⟨_, q4⟩
    | 5, _ => exact ⟨_, q5⟩
    | 6, _ => exact ⟨_, q6⟩)
  exact ⟨⟨hc.1 0 (by simp), hc.1 1 (by simp), hc.1 2 (by simp), hc.1 3 (by simp), hc.1 4 (by simp), hc.1 5 (by simp), hc.1 6 (by simp)⟩, hc.2⟩
theorem put8 {W W' : World} {b : Nat} {u0 u1 u2 u3 u4 u5 u6 u7 v0 v1 v2 v3 v4 v5 v6 v7 : Value} (h : W.cell? ⟨b, 0, none⟩ = some v0 ∧ W.cell? ⟨b, 1, none⟩ = some v1 ∧ W.cell? ⟨b, 2, none⟩ = some v2 ∧ W.cell? ⟨b, 3, none⟩ = some v3 ∧ W.cell? ⟨b, 4, none⟩ = some v4 ∧ W.cell? ⟨b, 5, none⟩ = some v5 ∧ W.cell? ⟨b, 6, none⟩ = some v6 ∧ W.cell? ⟨b, 7, none⟩ = some v7) (hW : ((((((((W.setCell ⟨b, 0, none⟩ u0).setCell ⟨b, 1, none⟩ u1).setCell ⟨b, 2, none⟩ u2).setCell ⟨b, 3, none⟩ u3).setCell ⟨b, 4, none⟩ u4).setCell ⟨b, 5, none⟩ u5).setCell ⟨b, 6, none⟩ u6).setCell ⟨b, 7, none⟩ u7) = W') :
    (W'.cell? ⟨b, 0, none⟩ = some u0 ∧ W'.cell? ⟨b, 1, none⟩ = some u1 ∧ W'.cell? ⟨b, 2, none⟩ = some u2 ∧ W'.cell? ⟨b, 3, none⟩ = some u3 ∧ W'.cell? ⟨b, 4, none⟩ = some u4 ∧ W'.cell? ⟨b, 5, none⟩ = some u5 ∧ W'.cell? ⟨b, 6, none⟩ = some u6 ∧ W'.cell? ⟨b, 7, none⟩ = some u7) ∧ Keeps (· = b) W W' := by
  obtain ⟨q0, q1, q2, q3, q4, q5, q6, q7⟩ := h
  have hc := put_cells (us := [u0, u1, u2, u3, u4, u5, u6, u7]) hW.symm (fun j hj => by
    match j, hj with
    | 0, _ => exact ⟨_, q0⟩
    | 1, _ => exact ⟨_, q1⟩
    | 2, _ => exact ⟨_, q2⟩
    | 3, _ => exact ⟨_, q3⟩
    | 4, _ => exact ⟨_, q4⟩
    | 5, _ => exact ⟨_, q5⟩
    | 6, _ => exact ⟨_, q6⟩
    | 7, _ => exact ⟨_, q7⟩)
  exact ⟨⟨hc.1 0 (by simp), hc.1 1 (by simp), hc.1 2 (by simp), hc.1 3 (by simp), hc.1 4 (by simp), hc.1 5 (by simp), hc.1 6 (by simp), hc.1 7 (by simp)⟩, hc.2⟩
theorem put13 {W W' : World} {b : Nat} {u0 u1 u2 u3 u4 u5 u6 u7 u8 u9 u10 u11 u12 v0 v1 v2 v3 v4 v5 v6 v7 v8 v9 v10 v11 v12 : Value} (h : W.cell? ⟨b, 0, none⟩ = some v0 ∧ W.cell? ⟨b, 1, none⟩ = some v1 ∧ W.cell? ⟨b, 2, none⟩ = some v2 ∧ W.cell? ⟨b, 3, none⟩ = some v3 ∧ W.cell? ⟨b, 4, none⟩ = some v4 ∧ W.cell? ⟨b, 5, none⟩ = some v5 ∧ W.cell? ⟨b, 6, none⟩ = some v6 ∧ W.cell? ⟨b, 7, none⟩ = some v7 ∧ W.cell? ⟨b, 8, none⟩ = some v8 ∧ W.cell? ⟨b, 9, none⟩ = some v9 ∧ W.cell? ⟨b, 10, none⟩ = some v10 ∧ W.cell? ⟨b, 11, none⟩ = some v11 ∧ W.cell? ⟨b, 12, none⟩ = some v12) (hW : (((((((((((((W.setCell ⟨b, 0, none⟩ u0).setCell ⟨b, 1, none⟩ u1).setCell ⟨b, 2, none⟩ u2).setCell ⟨b, 3, none⟩ u3).setCell ⟨b, 4, none⟩ u4).setCell ⟨b, 5, none⟩ u5).setCell ⟨b, 6, none⟩ u6).setCell ⟨b, 7, none⟩ u7).setCell ⟨b, 8, none⟩ u8).setCell ⟨b, 9, none⟩ u9).setCell ⟨b, 10, none⟩ u10).setCell ⟨b, 11, none⟩ u11).setCell ⟨b, 12, none⟩ u12) = W') :
    (W'.cell? ⟨b, 0, none⟩ = some u0 ∧ W'.cell? ⟨b, 1, none⟩ = some u1 ∧ W'.cell? ⟨b, 2, none⟩ = some u2 ∧ W'.cell? ⟨b, 3, none⟩ = some u3 ∧ W'.cell? ⟨b, 4, none⟩ = some u4 ∧ W'.cell? ⟨b, 5, none⟩ = some u5 ∧ W'.cell? ⟨b, 6, none⟩ = some u6 ∧ W'.cell? ⟨b, 7, none⟩ = some u7 ∧ W'.cell? ⟨b, 8, none⟩ = some u8 ∧ W'.cell? ⟨b, 9, none⟩ = some u9 ∧ W'.cell? ⟨b, 10, none⟩ = some u10 ∧ W'.cell? ⟨b, 11, none⟩ = some u11 ∧ W'.cell? ⟨b, 12, none⟩ = some u12) ∧ Keeps (· = b) W W' := by
  obtain ⟨q0, q1, q2, q3, q4, q5, q6, q7, q8, q9, q10, q11, q12⟩ := h
  have hc := put_cells (us := [u0, u1, u2, u3, u4, u5, u6, u7, u8, u9, u10, u11, u12]) hW.symm (fun j hj => by
    match j, hj with
    | 0, _ => exact ⟨_, q0⟩
    | 1, _ => exact ⟨_, q1⟩
    | 2, _ => exact ⟨_, q2⟩
    | 3, _ => exact ⟨_, q3⟩
    | 4, _ => exact ⟨_, q4⟩
    | 5, _ => exact ⟨_, q5⟩
    | 6, _ => exact ⟨_, q6⟩
    | 7, _ => exact ⟨_, q7⟩
    | 8, _ => exact ⟨_, q8⟩
    | 9, _ => exact ⟨_, q9⟩
    | 10, _ => exact ⟨_, q10⟩
    | 11, _ => exact ⟨_, q11⟩
    | 12, _ => exact ⟨_, q12⟩)
  exact ⟨⟨hc.1 0 (by simp), hc.1 1 (by simp), hc.1 2 (by simp), hc.1 3 (by simp), hc.1 4 (by simp), hc.1 5 (by simp), hc.1 6 (by simp), hc.1 7 (by simp), hc.1 8 (by simp), hc.1 9 (by simp), hc.1 10 (by simp), hc.1 11 (by simp), hc.1 12 (by simp)⟩, hc.2⟩
end Go.Proofs.Ytgnlgfkolbecmaa
