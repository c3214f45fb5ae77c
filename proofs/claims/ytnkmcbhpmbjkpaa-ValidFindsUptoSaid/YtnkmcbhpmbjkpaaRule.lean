/- table.RuleOf, table.typed, table.ActOf: the contracts. -/
import Derived.Test.YtnkmcbhpmbjkpaaTable
import Derived.Test.YtnkmcbhpmbjkpaaOwn
namespace Go.Proofs.Ytnkmcbhpmbjkpaa
open Go Go.RowKit

theorem find_idx {α : Type} [Inhabited α] (pr : α → Bool) (l : List α) : (idxOf pr l = -1 ∧ l.find? pr = none) ∨ ∃ j : Nat, j < l.length ∧ idxOf pr l = j ∧ l.find? pr = some (l.getD j default) := by
  cases h : l.findIdx? pr with
  | none =>
    left
    refine ⟨by unfold idxOf; rw [h], ?_⟩
    rw [List.findIdx?_eq_none_iff] at h
    exact List.find?_eq_none.2 (fun x hx => by rw [h x hx]; simp)
  | some j =>
    right
    have h1 := (List.findIdx?_eq_some_iff_getElem.1 h)
    obtain ⟨hj, h2, h3⟩ := h1
    refine ⟨j, hj, by unfold idxOf; rw [h], ?_⟩
    have : l.find? pr = some l[j] := by
      rw [List.find?_eq_some_iff_getElem]
      exact ⟨h2, j, hj, rfl, fun i hi => by simpa using h3 i hi⟩
    rw [this]
    simp [List.getD, List.getElem?_eq_getElem hj]

set_option maxHeartbeats 400000 in
theorem ruleFn_any (p : RN) (k : ByteArray) (s : Nat) (w : World) (hc : w.cell? ⟨s, 0, none⟩ = some (.string k)) (hs : s < w.heap.size) :
    Calls Try.prog 30 #[p.val, .pointer (some ⟨s, 0, none⟩)] w fun e w' => e = .returned (.bool (decide (p.ty = k))) ∧ Grew w w' := by
  have HB := Lib.hid (toList_beq p.ty k)
  unfold RN.val
  go_enter Try.func30, Try.ntmps30
  go_wp2_with fail
  go_ret
  exact ⟨ret_bool HB.out, Grew.alloc1 _ _⟩
set_option maxHeartbeats 400000 in
theorem pairFn_any (p : PairL) (k : ByteArray) (s : Nat) (w : World) (hc : w.cell? ⟨s, 0, none⟩ = some (.string k)) (hs : s < w.heap.size) :
    Calls Try.prog 69 #[.agg #[.string p.1, .int .i64 p.2.1, .string p.2.2], .pointer (some ⟨s, 0, none⟩)] w fun e w' => e = .returned (.bool (decide (p.1 = k))) ∧ Grew w w' := by
  have HB := Lib.hid (toList_beq p.1 k)
  go_enter Try.func69, Try.ntmps69
  go_wp2_with fail
  go_ret
  exact ⟨ret_bool HB.out, Grew.alloc1 _ _⟩

/-- eight cells are written -/
theorem set8 {W W' : World} {b : Nat} {u0 u1 u2 u3 u4 u5 u6 u7 v0 v1 v2 v3 v4 v5 v6 v7 : Value} (h : W.cell? ⟨b, 0, none⟩ = some v0 ∧ W.cell? ⟨b, 1, none⟩ = some v1 ∧ W.cell? ⟨b, 2, none⟩ = some v2 ∧ W.cell? ⟨b, 3, none⟩ = some v3 ∧ W.cell? ⟨b, 4, none⟩ = some v4 ∧ W.cell? ⟨b, 5, none⟩ = some v5 ∧ W.cell? ⟨b, 6, none⟩ = some v6 ∧ W.cell? ⟨b, 7, none⟩ = some v7) (hW : W' = ((((((((W.setCell ⟨b, 0, none⟩ u0).setCell ⟨b, 1, none⟩ u1).setCell ⟨b, 2, none⟩ u2).setCell ⟨b, 3, none⟩ u3).setCell ⟨b, 4, none⟩ u4).setCell ⟨b, 5, none⟩ u5).setCell ⟨b, 6, none⟩ u6).setCell ⟨b, 7, none⟩ u7)) :
    (W'.cell? ⟨b, 0, none⟩ = some u0 ∧ W'.cell? ⟨b, 1, none⟩ = some u1 ∧ W'.cell? ⟨b, 2, none⟩ = some u2 ∧ W'.cell? ⟨b, 3, none⟩ = some u3 ∧ W'.cell? ⟨b, 4, none⟩ = some u4 ∧ W'.cell? ⟨b, 5, none⟩ = some u5 ∧ W'.cell? ⟨b, 6, none⟩ = some u6 ∧ W'.cell? ⟨b, 7, none⟩ = some u7) ∧ (∀ lo hi, b < lo ∨ hi ≤ b → Agree lo hi W W') ∧ (∀ a, Grew a W → a.heap.size ≤ b → Grew a W') ∧ W'.heap.size = W.heap.size := by
  obtain ⟨h0, h1, h2, h3, h4, h5, h6, h7⟩ := h
  subst hW
  have hat : ∀ {a c : World} {lo hi k : Nat} {u : Value}, (b < lo ∨ hi ≤ b) → Agree lo hi a c → Agree lo hi a (c.setCell ⟨b, k, none⟩ u) := fun hl h => h.trans (agree_set hl)
  refine ⟨⟨?_, ?_, ?_, ?_, ?_, ?_, ?_, ?_⟩, fun lo hi hl => ?_, fun a hg hb => ?_, by simp⟩
  · rw [cell_ne (by omega), cell_ne (by omega), cell_ne (by omega), cell_ne (by omega), cell_ne (by omega), cell_ne (by omega), cell_ne (by omega)]; exact cell_same h0
  · rw [cell_ne (by omega), cell_ne (by omega), cell_ne (by omega), cell_ne (by omega), cell_ne (by omega), cell_ne (by omega)]; exact cell_same (by rw [cell_ne (by omega)]; exact h1)
  · rw [cell_ne (by omega), cell_ne (by omega), cell_ne (by omega), cell_ne (by omega), cell_ne (by omega)]; exact cell_same (by rw [cell_ne (by omega), cell_ne (by omega)]; exact h2)
  · rw [cell_ne (by omega), cell_ne (by omega), cell_ne (by omega), cell_ne (by omega)]; exact cell_same (by rw [cell_ne (by omega), cell_ne (by omega), cell_ne (by omega)]; exact h3)
  · rw [cell_ne (by omega), cell_ne (by omega), cell_ne (by omega)]; exact cell_same (by rw [cell_ne (by omega), cell_ne (by omega), cell_ne (by omega), cell_ne (by omega)]; exact h4)
  · rw [cell_ne (by omega), cell_ne (by omega)]; exact cell_same (by rw [cell_ne (by omega), cell_ne (by omega), cell_ne (by omega), cell_ne (by omega), cell_ne (by omega)]; exact h5)
  · rw [cell_ne (by omega)]; exact cell_same (by rw [cell_ne (by omega), cell_ne (by omega), cell_ne (by omega), cell_ne (by omega), cell_ne (by omega), cell_ne (by omega)]; exact h6)
  · exact cell_same (by rw [cell_ne (by omega), cell_ne (by omega), cell_ne (by omega), cell_ne (by omega), cell_ne (by omega), cell_ne (by omega), cell_ne (by omega)]; exact h7)
  · exact (hat hl (hat hl (hat hl (hat hl (hat hl (hat hl (hat hl (hat hl (fun _ _ _ => rfl)))))))))
  · exact ((((((((hg.setCell hb _).setCell hb _).setCell hb _).setCell hb _).setCell hb _).setCell hb _).setCell hb _).setCell hb _)

/-- where table.RuleOf stands: the rule's box, the result's -/
def RuleBox (w : World) (ra : Option Addr) (rn rc : Nat) (q : RN) (w' : World) : Prop :=
  Grew w w' ∧ w.heap.size + 4 ≤ w'.heap.size ∧ w'.cell? ⟨w.heap.size, 0, none⟩ = some (.slice ra rn rc) ∧
  (w'.cell? ⟨w.heap.size + 1 + 1 + 1, 0, none⟩ = some (.string q.ty) ∧ w'.cell? ⟨w.heap.size + 1 + 1 + 1, 1, none⟩ = some (.int .i64 q.td) ∧ w'.cell? ⟨w.heap.size + 1 + 1 + 1, 2, none⟩ = some (.string q.tt) ∧ w'.cell? ⟨w.heap.size + 1 + 1 + 1, 3, none⟩ = some (.int .i64 q.od) ∧ w'.cell? ⟨w.heap.size + 1 + 1 + 1, 4, none⟩ = some (.string q.ot) ∧ w'.cell? ⟨w.heap.size + 1 + 1 + 1, 5, none⟩ = some (.slice q.ka q.kids.length q.kc) ∧ w'.cell? ⟨w.heap.size + 1 + 1 + 1, 6, none⟩ = some (.int .i64 q.fill) ∧ w'.cell? ⟨w.heap.size + 1 + 1 + 1, 7, none⟩ = some (.string q.ft)) ∧ (∀ j, w'.frozen? ⟨w.heap.size + 1 + 1 + 1, j, none⟩ = false) ∧
  (w'.cell? ⟨w.heap.size + 1 + 1, 0, none⟩ = some (.string { data := #[] }) ∧ w'.cell? ⟨w.heap.size + 1 + 1, 1, none⟩ = some (.int .i64 0) ∧ w'.cell? ⟨w.heap.size + 1 + 1, 2, none⟩ = some (.string { data := #[] }) ∧ w'.cell? ⟨w.heap.size + 1 + 1, 3, none⟩ = some (.int .i64 0) ∧ w'.cell? ⟨w.heap.size + 1 + 1, 4, none⟩ = some (.string { data := #[] }) ∧ w'.cell? ⟨w.heap.size + 1 + 1, 5, none⟩ = some (.slice none 0 0) ∧ w'.cell? ⟨w.heap.size + 1 + 1, 6, none⟩ = some (.int .i64 0) ∧ w'.cell? ⟨w.heap.size + 1 + 1, 7, none⟩ = some (.string { data := #[] })) ∧ (∀ j, w'.frozen? ⟨w.heap.size + 1 + 1, j, none⟩ = false)
theorem RuleBox.next {w : World} {ra : Option Addr} {rn rc : Nat} {q : RN} {w1 w2 : World} (h : RuleBox w ra rn rc q w1) (hg : Grew w1 w2) : RuleBox w ra rn rc q w2 := by
  obtain ⟨h1, h2, h3, h4, h5, h6, h7⟩ := h
  have e : ∀ b j, b < w.heap.size + 4 → w2.cell? ⟨b, j, none⟩ = w1.cell? ⟨b, j, none⟩ := fun b j hb => hg.cell (p := ⟨b, j, none⟩) (by show b < _; omega)
  have f : ∀ b j, b < w.heap.size + 4 → w2.frozen? ⟨b, j, none⟩ = w1.frozen? ⟨b, j, none⟩ := fun b j hb => hg.frozen (p := ⟨b, j, none⟩) (by show b < _; omega)
  refine ⟨h1.trans hg, Nat.le_trans h2 hg.size, ?_, ?_, ?_, ?_, ?_⟩
  · rw [e _ _ (by omega)]; exact h3
  · simp only [e _ _ (show w.heap.size + 1 + 1 + 1 < w.heap.size + 4 by omega)]; exact h4
  · simp only [f _ _ (show w.heap.size + 1 + 1 + 1 < w.heap.size + 4 by omega)]; exact h5
  · simp only [e _ _ (show w.heap.size + 1 + 1 < w.heap.size + 4 by omega)]; exact h6
  · simp only [f _ _ (show w.heap.size + 1 + 1 < w.heap.size + 4 by omega)]; exact h7

theorem rule_out {w w2 w3 W : World} {ra : Option Addr} {rn rc : Nat} {q : RN} {va : Option Addr} {vc : Nat} {e : TypeId} (hB : RuleBox w ra rn rc q w3) (hz2 : w.heap.size + 4 ≤ w2.heap.size)
    (hown : w3.ownsRow w2.heap.size e 3 (.slice va q.kids.length vc) q.kids.length (cellsOfPairs q.kids)) (hW : W = (((((((((w3.setCell ⟨w.heap.size + 1 + 1 + 1, 5, none⟩ (.slice va q.kids.length vc)).setCell ⟨w.heap.size + 1 + 1, 0, none⟩ (.string q.ty)).setCell ⟨w.heap.size + 1 + 1, 1, none⟩ (.int .i64 q.td)).setCell ⟨w.heap.size + 1 + 1, 2, none⟩ (.string q.tt)).setCell ⟨w.heap.size + 1 + 1, 3, none⟩ (.int .i64 q.od)).setCell ⟨w.heap.size + 1 + 1, 4, none⟩ (.string q.ot)).setCell ⟨w.heap.size + 1 + 1, 5, none⟩ (.slice va q.kids.length vc)).setCell ⟨w.heap.size + 1 + 1, 6, none⟩ (.int .i64 q.fill)).setCell ⟨w.heap.size + 1 + 1, 7, none⟩ (.string q.ft))) :
    (W.cell? ⟨w.heap.size + 1 + 1, 0, none⟩ = some (.string q.ty) ∧ W.cell? ⟨w.heap.size + 1 + 1, 1, none⟩ = some (.int .i64 q.td) ∧ W.cell? ⟨w.heap.size + 1 + 1, 2, none⟩ = some (.string q.tt) ∧ W.cell? ⟨w.heap.size + 1 + 1, 3, none⟩ = some (.int .i64 q.od) ∧ W.cell? ⟨w.heap.size + 1 + 1, 4, none⟩ = some (.string q.ot) ∧ W.cell? ⟨w.heap.size + 1 + 1, 5, none⟩ = some (.slice va q.kids.length vc) ∧ W.cell? ⟨w.heap.size + 1 + 1, 6, none⟩ = some (.int .i64 q.fill) ∧ W.cell? ⟨w.heap.size + 1 + 1, 7, none⟩ = some (.string q.ft)) ∧ Grew w W ∧ RN.In W w.heap.size W.heap.size { q with ka := va, kc := vc } := by
  obtain ⟨h1, h2, h3, h4, h5, ⟨e0, e1, e2, e3, e4, e5, e6, e7⟩, h7⟩ := hB
  have ht : ∀ j, (w3.setCell ⟨w.heap.size + 1 + 1 + 1, 5, none⟩ (.slice va q.kids.length vc)).cell? ⟨w.heap.size + 1 + 1, j, none⟩ = w3.cell? ⟨w.heap.size + 1 + 1, j, none⟩ := fun j => cell_other (fun h => by injection h with h; omega)
  obtain ⟨hc, hag, hgr, hsz⟩ := set8 ⟨(ht 0).trans e0, (ht 1).trans e1, (ht 2).trans e2, (ht 3).trans e3, (ht 4).trans e4, (ht 5).trans e5, (ht 6).trans e6, (ht 7).trans e7⟩ hW
  refine ⟨hc, hgr w (h1.setCell (by simp; omega) _) (by omega), ?_⟩
  have R := ownRow_owned (f := fun i j => pairCell (q.kids.getD i default) j) hown (cellsOfPairs_at q.kids)
  have R1 := R.1.agree ((agree_set (p := ⟨w.heap.size + 1 + 1 + 1, 5, none⟩) (u := .slice va q.kids.length vc) (Or.inl (by show w.heap.size + 1 + 1 + 1 < _; omega))).trans (hag _ _ (Or.inl (by omega))))
  have hs : W.heap.size = w3.heap.size := by rw [hsz]; simp
  exact R1.mono (by omega) (by omega)

theorem rule_put {w w2 W : World} {ra : Option Addr} {rn rc : Nat} {q q' : RN} (hB : RuleBox w ra rn rc q w2) (hW : W = ((((((((w2.setCell ⟨w.heap.size + 1 + 1 + 1, 0, none⟩ (.string q'.ty)).setCell ⟨w.heap.size + 1 + 1 + 1, 1, none⟩ (.int .i64 q'.td)).setCell ⟨w.heap.size + 1 + 1 + 1, 2, none⟩ (.string q'.tt)).setCell ⟨w.heap.size + 1 + 1 + 1, 3, none⟩ (.int .i64 q'.od)).setCell ⟨w.heap.size + 1 + 1 + 1, 4, none⟩ (.string q'.ot)).setCell ⟨w.heap.size + 1 + 1 + 1, 5, none⟩ (.slice q'.ka q'.kids.length q'.kc)).setCell ⟨w.heap.size + 1 + 1 + 1, 6, none⟩ (.int .i64 q'.fill)).setCell ⟨w.heap.size + 1 + 1 + 1, 7, none⟩ (.string q'.ft))) : RuleBox w ra rn rc q' W := by
  obtain ⟨h1, h2, h3, h4, h5, h6, h7⟩ := hB
  obtain ⟨hc, hag, hgr, hsz⟩ := set8 h4 hW
  have e : ∀ b j, b < w.heap.size + 3 → W.cell? ⟨b, j, none⟩ = w2.cell? ⟨b, j, none⟩ := fun b j hb => (hag b (b + 1) (Or.inr (by omega))).cell (p := ⟨b, j, none⟩) (Nat.le_refl _) (by simp)
  have f : ∀ p, W.frozen? p = w2.frozen? p := fun p => by rw [hW]; simp only [World.frozen?_setCell]
  refine ⟨hgr w h1 (by omega), by omega, ?_, hc, ?_, ?_, ?_⟩
  · rw [e _ _ (by omega)]; exact h3
  · simp only [f]; exact h5
  · simp only [e _ _ (show w.heap.size + 1 + 1 < w.heap.size + 3 by omega)]; exact h6
  · simp only [f]; exact h7

set_option maxHeartbeats 1000000 in
theorem ruleOf_any (s : SN) (k : ByteArray) (w : World) (hs : s.Ok w) (hsm : s.Small) :
    Calls Try.prog 13 #[s.val, .string k] w fun e w' => ∃ r : RN, e = .returned r.val ∧ Grew w w' ∧ r.In w' w.heap.size w'.heap.size ∧ r.kids.length ≤ 1048576 ∧ Hid (r.er = s.er.ruleOf k) := by
  have CI := Lib.hid (fun w1 (hg : Grew w w1) (hz : w.heap.size + 4 ≤ w1.heap.size) (h0 : w1.cell? ⟨w.heap.size + 1, 0, none⟩ = some (.string k)) =>
    indexRules_any s.rules s.ra s.rc 30 #[.pointer (some ⟨w.heap.size + 1, 0, none⟩)] (fun p => decide (p.ty = k)) w1 Try.call30
      (fun p _ w2 hg2 => ruleFn_any p k (w.heap.size + 1) w2 (by rw [hg2.cell (by show w.heap.size + 1 < _; omega)]; exact h0) (by have := hg2.size; omega))
      _ _ (hs.1.grew hg (Nat.le_refl _)) (by omega) hsm.1)
  unfold SN.val
  go_enter Try.func13, Try.ntmps13
  go_wp2_with fail
  have hB : RuleBox w s.ra s.rules.length s.rc s.els ((((w.alloc (.cells #[.slice s.ra s.rules.length s.rc, .string s.els.ty, .int .i64 s.els.td, .string s.els.tt, .int .i64 s.els.od, .string s.els.ot, .slice s.els.ka s.els.kids.length s.els.kc, .int .i64 s.els.fill, .string s.els.ft, .int .i64 s.o0, .int .i64 s.o1, .int .i64 s.o2, .int .i64 s.o3, .int .i64 s.o4, .int .i64 s.o5, .int .i64 s.cap] 30)).alloc (.cells #[.string k] 9)).alloc (.cells #[.string { data := #[] }, .int .i64 0, .string { data := #[] }, .int .i64 0, .string { data := #[] }, .slice none 0 0, .int .i64 0, .string { data := #[] }] 27)).alloc (.cells #[.string s.els.ty, .int .i64 s.els.td, .string s.els.tt, .int .i64 s.els.od, .string s.els.ot, .slice s.els.ka s.els.kids.length s.els.kc, .int .i64 s.els.fill, .string s.els.ft] 27)) :=
    ⟨(((Grew.alloc1 w _).alloc _).alloc _).alloc _, by simp, by go_simp, ⟨by go_simp, by go_simp, by go_simp, by go_simp, by go_simp, by go_simp, by go_simp, by go_simp⟩, fun j => by rw [World.frozen?_alloc_at _ _ _ _ (by simp)], ⟨by go_simp, by go_simp, by go_simp, by go_simp, by go_simp, by go_simp, by go_simp, by go_simp⟩, fun j => by rw [World.frozen?_alloc_past _ _ _ (by simp), World.frozen?_alloc_at _ _ _ _ (by simp)]⟩
  have hk0 : ((((w.alloc (.cells #[.slice s.ra s.rules.length s.rc, .string s.els.ty, .int .i64 s.els.td, .string s.els.tt, .int .i64 s.els.od, .string s.els.ot, .slice s.els.ka s.els.kids.length s.els.kc, .int .i64 s.els.fill, .string s.els.ft, .int .i64 s.o0, .int .i64 s.o1, .int .i64 s.o2, .int .i64 s.o3, .int .i64 s.o4, .int .i64 s.o5, .int .i64 s.cap] 30)).alloc (.cells #[.string k] 9)).alloc (.cells #[.string { data := #[] }, .int .i64 0, .string { data := #[] }, .int .i64 0, .string { data := #[] }, .slice none 0 0, .int .i64 0, .string { data := #[] }] 27)).alloc (.cells #[.string s.els.ty, .int .i64 s.els.td, .string s.els.tt, .int .i64 s.els.od, .string s.els.ot, .slice s.els.ka s.els.kids.length s.els.kc, .int .i64 s.els.fill, .string s.els.ft] 27)).cell? ⟨w.heap.size + 1, 0, none⟩ = some (.string k) := by go_simp
  generalize ((((w.alloc (.cells #[.slice s.ra s.rules.length s.rc, .string s.els.ty, .int .i64 s.els.td, .string s.els.tt, .int .i64 s.els.od, .string s.els.ot, .slice s.els.ka s.els.kids.length s.els.kc, .int .i64 s.els.fill, .string s.els.ft, .int .i64 s.o0, .int .i64 s.o1, .int .i64 s.o2, .int .i64 s.o3, .int .i64 s.o4, .int .i64 s.o5, .int .i64 s.cap] 30)).alloc (.cells #[.string k] 9)).alloc (.cells #[.string { data := #[] }, .int .i64 0, .string { data := #[] }, .int .i64 0, .string { data := #[] }, .slice none 0 0, .int .i64 0, .string { data := #[] }] 27)).alloc (.cells #[.string s.els.ty, .int .i64 s.els.td, .string s.els.tt, .int .i64 s.els.od, .string s.els.ot, .slice s.els.ka s.els.kids.length s.els.kc, .int .i64 s.els.fill, .string s.els.ft] 27)) = w1 at *
  refine (CI.out w1 hB.1 hB.2.1 hk0).mono ?_
  rintro e w2 ⟨rfl, g2⟩
  have hB2 := hB.next g2
  clear hB hk0 CI
  have HB2 := Lib.hid hB2
  obtain ⟨_, hz2, c0, ⟨d0, d1, d2, d3, d4, d5, d6, d7⟩, df, ⟨e0, e1, e2, e3, e4, e5, e6, e7⟩, ef⟩ := hB2
  rcases find_idx (fun p : RN => decide (p.ty = k)) s.rules with ⟨h1, h2⟩ | ⟨j, hj, h1, h2⟩
  · have HR : Hid (s.er.ruleOf k = s.els.er) := by show _ = _; simp only [SchT.ruleOf, SN.er, List.find?_map]; rw [show ((fun r : RuleT => decide (r.ty = k)) ∘ RN.er) = (fun p : RN => decide (p.ty = k)) from rfl, h2]; rfl
    rw [h1]
    clear h1 h2
    go_wp2_with fail
    have HQ := Lib.hid ((hs.2.grew (HB2.out.1) (Nat.le_refl _)).mono (Nat.le_refl _) HB2.out.1.size)
    have HL := Lib.hid hsm.2.2
    refine (clonePairs_any s.els.ka s.els.kc s.els.kids w2 _ _ (HQ.out) (Nat.le_refl _) HL.out).mono ?_
    rintro e w3 ⟨v, rfl, g3, hown⟩
    obtain ⟨va, vc, rfl⟩ := owned_shape hown
    have hB3 := HB2.out.next g3
    have HO := Lib.hid (fun W => rule_out (W := W) hB3 hz2 hown)
    obtain ⟨_, _, c0, ⟨d0, d1, d2, d3, d4, d5, d6, d7⟩, df, ⟨e0, e1, e2, e3, e4, e5, e6, e7⟩, ef⟩ := hB3
    clear hown HB2
    go_wp2_with fail
    have hW := HO.out _ rfl
    clear HO
    revert hW
    generalize hF : (((((((((w3.setCell ⟨w.heap.size + 1 + 1 + 1, 5, none⟩ (.slice va s.els.kids.length vc)).setCell ⟨w.heap.size + 1 + 1, 0, none⟩ (.string s.els.ty)).setCell ⟨w.heap.size + 1 + 1, 1, none⟩ (.int .i64 s.els.td)).setCell ⟨w.heap.size + 1 + 1, 2, none⟩ (.string s.els.tt)).setCell ⟨w.heap.size + 1 + 1, 3, none⟩ (.int .i64 s.els.od)).setCell ⟨w.heap.size + 1 + 1, 4, none⟩ (.string s.els.ot)).setCell ⟨w.heap.size + 1 + 1, 5, none⟩ (.slice va s.els.kids.length vc)).setCell ⟨w.heap.size + 1 + 1, 6, none⟩ (.int .i64 s.els.fill)).setCell ⟨w.heap.size + 1 + 1, 7, none⟩ (.string s.els.ft)) = F
    intro hW
    obtain ⟨⟨f0, f1, f2, f3, f4, f5, f6, f7⟩, hg, hin⟩ := hW
    refine bodyPost_ret (v := RN.val { s.els with ka := va, kc := vc }) (by simp [results, Try.results13, go_sem, RN.val, f0, f1, f2, f3, f4, f5, f6, f7]) rfl ?_
    exact ⟨{ s.els with ka := va, kc := vc }, rfl, hg, hin, HL.out, (by show _ = _; rw [HR.out]; rfl)⟩
  · have HR : Hid (s.er.ruleOf k = (s.rules.getD j default).er) := by show _ = _; simp only [SchT.ruleOf, SN.er, List.find?_map]; rw [show ((fun r : RuleT => decide (r.ty = k)) ∘ RN.er) = (fun p : RN => decide (p.ty = k)) from rfl, h2]; rfl
    rw [h1]
    clear h1 h2
    have HQ0 := Lib.hid (hs.1.2 _ (getD_mem s.rules j hj))
    have HL := Lib.hid (hsm.2.1 _ (getD_mem s.rules j hj))
    have hlj : (j : Int) < s.rules.length := by omega
    obtain ⟨b, o, hra, _, hbh, q0, q1, q2, q3, q4, q5, q6, q7⟩ := (hs.1.grew HB2.out.1 (Nat.le_refl _)).at hj
    have HP := Lib.hid (fun W => rule_put (W := W) (q' := s.rules.getD j default) HB2.out)
    clear HB2
    generalize s.rules.getD j default = q at *
    generalize s.ra = ra at *
    subst hra
    go_wp2_with fail
    have hB1 := HP.out _ rfl
    clear HP
    revert hB1
    generalize hF1 : ((((((((w2.setCell ⟨w.heap.size + 1 + 1 + 1, 0, none⟩ (.string q.ty)).setCell ⟨w.heap.size + 1 + 1 + 1, 1, none⟩ (.int .i64 q.td)).setCell ⟨w.heap.size + 1 + 1 + 1, 2, none⟩ (.string q.tt)).setCell ⟨w.heap.size + 1 + 1 + 1, 3, none⟩ (.int .i64 q.od)).setCell ⟨w.heap.size + 1 + 1 + 1, 4, none⟩ (.string q.ot)).setCell ⟨w.heap.size + 1 + 1 + 1, 5, none⟩ (.slice q.ka q.kids.length q.kc)).setCell ⟨w.heap.size + 1 + 1 + 1, 6, none⟩ (.int .i64 q.fill)).setCell ⟨w.heap.size + 1 + 1 + 1, 7, none⟩ (.string q.ft)) = F1
    intro hB1
    have hz1 := hB1.2.1
    have HB1 := Lib.hid hB1
    have HQ := Lib.hid ((RN.In.grew HQ0.out hB1.1 (Nat.le_refl _)).mono (Nat.le_refl _) hB1.1.size)
    clear hF1 d0 d1 d2 d3 d4 d5 d6 d7 df e0 e1 e2 e3 e4 e5 e6 e7 ef c0 q0 q1 q2 q3 q4 q5 q6 q7
    obtain ⟨_, _, c0, ⟨d0, d1, d2, d3, d4, d5, d6, d7⟩, df, ⟨e0, e1, e2, e3, e4, e5, e6, e7⟩, ef⟩ := hB1
    refine (clonePairs_any q.ka q.kc q.kids F1 _ _ (HQ.out) (Nat.le_refl _) HL.out).mono ?_
    rintro e w3 ⟨v, rfl, g3, hown⟩
    obtain ⟨va, vc, rfl⟩ := owned_shape hown
    have hB3 := HB1.out.next g3
    have HO := Lib.hid (fun W => rule_out (W := W) hB3 hz1 hown)
    obtain ⟨_, _, c0, ⟨d0, d1, d2, d3, d4, d5, d6, d7⟩, df, ⟨e0, e1, e2, e3, e4, e5, e6, e7⟩, ef⟩ := hB3
    clear hown HB1
    go_wp2_with fail
    have hW := HO.out _ rfl
    clear HO
    revert hW
    generalize hF : (((((((((w3.setCell ⟨w.heap.size + 1 + 1 + 1, 5, none⟩ (.slice va q.kids.length vc)).setCell ⟨w.heap.size + 1 + 1, 0, none⟩ (.string q.ty)).setCell ⟨w.heap.size + 1 + 1, 1, none⟩ (.int .i64 q.td)).setCell ⟨w.heap.size + 1 + 1, 2, none⟩ (.string q.tt)).setCell ⟨w.heap.size + 1 + 1, 3, none⟩ (.int .i64 q.od)).setCell ⟨w.heap.size + 1 + 1, 4, none⟩ (.string q.ot)).setCell ⟨w.heap.size + 1 + 1, 5, none⟩ (.slice va q.kids.length vc)).setCell ⟨w.heap.size + 1 + 1, 6, none⟩ (.int .i64 q.fill)).setCell ⟨w.heap.size + 1 + 1, 7, none⟩ (.string q.ft)) = F
    intro hW
    obtain ⟨⟨f0, f1, f2, f3, f4, f5, f6, f7⟩, hg, hin⟩ := hW
    refine bodyPost_ret (v := RN.val { q with ka := va, kc := vc }) (by simp [results, Try.results13, go_sem, RN.val, f0, f1, f2, f3, f4, f5, f6, f7]) rfl ?_
    exact ⟨{ q with ka := va, kc := vc }, rfl, hg, hin, HL.out, (by show _ = _; rw [HR.out]; rfl)⟩
end Go.Proofs.Ytnkmcbhpmbjkpaa
