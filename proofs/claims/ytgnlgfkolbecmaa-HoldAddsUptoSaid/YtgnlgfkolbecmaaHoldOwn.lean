/- hold.own: the contract. -/
import Derived.Test.YtgnlgfkolbecmaaRefL
namespace Go.Proofs.Ytgnlgfkolbecmaa
open Go Go.RowKit

def RefL.gp (r : RefL) : Nat → PN
  | 0 => r.path
  | 1 => r.pt.p
  | 2 => r.a.p
  | _ => r.f.p
def RefL.sp (r : RefL) (q : PN) : Nat → RefL
  | 0 => { r with path := q }
  | 1 => { r with pt := ⟨q, r.pt.o⟩ }
  | 2 => { r with a := ⟨q, r.a.o⟩ }
  | _ => { r with f := ⟨q, r.f.o⟩ }
/-- a ref in new memory -/
def RetRef (r : RefE) (w : World) (e : Ending) (w' : World) : Prop := ∃ x : RefL, e = .returned x.val ∧ Grew w w' ∧ x.In w' w.heap.size w'.heap.size ∧ Hid (x.er = r)
/-- at a round's head -/
def OwnAt (r0 : RefL) (w : World) (i : Value) (wr : World) : Prop := ∃ (k : Nat) (r : RefL), k ≤ 4 ∧ i = .int .i64 k ∧ wr.rangeAt w.heap.size 0 r.cells ∧ (∀ j, wr.frozen? ⟨w.heap.size, j, none⟩ = false) ∧ wr.there (w.heap.size + 1) 0 11 ∧
  (wr.cell? ⟨w.heap.size + 2, 0, none⟩ = some (.pointer (some ⟨w.heap.size, 4, none⟩)) ∧ wr.cell? ⟨w.heap.size + 2, 1, none⟩ = some (.pointer (some ⟨w.heap.size, 5, none⟩)) ∧ wr.cell? ⟨w.heap.size + 2, 2, none⟩ = some (.pointer (some ⟨w.heap.size, 7, none⟩)) ∧ wr.cell? ⟨w.heap.size + 2, 3, none⟩ = some (.pointer (some ⟨w.heap.size, 9, none⟩))) ∧
  Grew w wr ∧ w.heap.size + 3 ≤ wr.heap.size ∧ (∀ j, j < k → IntsIn wr (w.heap.size + 3) wr.heap.size (r.gp j).a (r.gp j).c (r.gp j).l) ∧ (∀ j, k ≤ j → j < 4 → r.gp j = r0.gp j) ∧ Hid (r.er = r0.er)

/-- where the j-th path stands -/
def offP : Nat → Nat
  | 0 => 4
  | 1 => 5
  | 2 => 7
  | _ => 9
theorem sp_cells (x : RefL) (q : PN) (j : Nat) : (x.sp q j).cells = x.cells.set (offP j) (.slice q.a q.l.length q.c) := by
  match j with
  | 0 => rfl
  | 1 => rfl
  | 2 => rfl
  | _ + 3 => rfl
theorem sp_er (x : RefL) (q : PN) (j : Nat) (h : q.l = (x.gp j).l) : (x.sp q j).er = x.er := by
  match j, h with
  | 0, h => simp only [RefL.sp, RefL.er, RefL.gp] at h ⊢; rw [h]
  | 1, h => simp only [RefL.sp, RefL.er, RefL.gp, PtL.er] at h ⊢; rw [h]
  | 2, h => simp only [RefL.sp, RefL.er, RefL.gp, PtL.er] at h ⊢; rw [h]
  | _ + 3, h => simp only [RefL.sp, RefL.er, RefL.gp, PtL.er] at h ⊢; rw [h]
theorem sp_gp (x : RefL) (q : PN) (j i : Nat) (hj : j < 4) (hi : i < 4) : (x.sp q j).gp i = if i = j then q else x.gp i := by
  have hj' : j = 0 ∨ j = 1 ∨ j = 2 ∨ j = 3 := by omega
  have hi' : i = 0 ∨ i = 1 ∨ i = 2 ∨ i = 3 := by omega
  rcases hj' with rfl | rfl | rfl | rfl <;> rcases hi' with rfl | rfl | rfl | rfl <;> rfl
theorem own_step {r0 x : RefL} {w wr w2 : World} {k : Nat} {q : PN} (hk : k < 4) (hx : wr.rangeAt w.heap.size 0 x.cells) (hf : ∀ j, wr.frozen? ⟨w.heap.size, j, none⟩ = false) (ht : wr.there (w.heap.size + 1) 0 11)
    (hp : wr.cell? ⟨w.heap.size + 2, 0, none⟩ = some (.pointer (some ⟨w.heap.size, 4, none⟩)) ∧ wr.cell? ⟨w.heap.size + 2, 1, none⟩ = some (.pointer (some ⟨w.heap.size, 5, none⟩)) ∧ wr.cell? ⟨w.heap.size + 2, 2, none⟩ = some (.pointer (some ⟨w.heap.size, 7, none⟩)) ∧ wr.cell? ⟨w.heap.size + 2, 3, none⟩ = some (.pointer (some ⟨w.heap.size, 9, none⟩)))
    (hg : Grew w wr) (hz : w.heap.size + 3 ≤ wr.heap.size) (hnew : ∀ j, j < k → IntsIn wr (w.heap.size + 3) wr.heap.size (x.gp j).a (x.gp j).c (x.gp j).l) (hold : ∀ j, k ≤ j → j < 4 → x.gp j = r0.gp j) (he : Hid (x.er = r0.er))
    (g2 : Grew wr w2) (hq : IntsIn w2 wr.heap.size w2.heap.size q.a q.c q.l) (hqe : Hid (q.l = (r0.gp k).l)) : OwnAt r0 w (.int .i64 ((k + 1 : Nat) : Int)) (w2.setCell ⟨w.heap.size, offP k, none⟩ (.slice q.a q.l.length q.c)) := by
  have z2 := g2.size
  have kS : Keeps (· = w.heap.size) w2 (w2.setCell ⟨w.heap.size, offP k, none⟩ (.slice q.a q.l.length q.c)) := (Keeps.refl _ _).own _ _
  have hag : ∀ hi, hi ≤ w2.heap.size → Agree (w.heap.size + 1) hi w2 (w2.setCell ⟨w.heap.size, offP k, none⟩ (.slice q.a q.l.length q.c)) := fun hi h => kS.agree h (fun j h1 h2 => by show ¬ j = _; omega)
  have hc : ∀ b j, w.heap.size < b → b < wr.heap.size → (w2.setCell ⟨w.heap.size, offP k, none⟩ (.slice q.a q.l.length q.c)).cell? ⟨b, j, none⟩ = wr.cell? ⟨b, j, none⟩ := fun b j h1 h2 => (kS.cell (p := ⟨b, j, none⟩) (by show b < _; omega) (by show ¬ b = _; omega)).trans (g2.cell (p := ⟨b, j, none⟩) h2)
  have hfz : ∀ b j, b < wr.heap.size → (w2.setCell ⟨w.heap.size, offP k, none⟩ (.slice q.a q.l.length q.c)).frozen? ⟨b, j, none⟩ = wr.frozen? ⟨b, j, none⟩ := fun b j h2 => by rw [World.frozen?_setCell]; exact g2.frozen (p := ⟨b, j, none⟩) h2
  refine ⟨k + 1, x.sp q k, by omega, rfl, ?_, fun j => (hfz _ _ (by omega)).trans (hf j), fun j hj => ?_, ⟨(hc _ _ (by omega) (by omega)).trans hp.1, (hc _ _ (by omega) (by omega)).trans hp.2.1, (hc _ _ (by omega) (by omega)).trans hp.2.2.1, (hc _ _ (by omega) (by omega)).trans hp.2.2.2⟩, (hg.trans g2).setCell (Nat.le_refl _) _, by rw [World.size_setCell]; omega, fun j hj => ?_, fun j h1 h2 => ?_, ?_⟩
  · rw [sp_cells]
    refine rangeAt_set (rangeAt_grew hx g2 (by omega)) (by
      rw [RefL.cells_len]
      unfold offP; split <;> omega) _
  · rw [hc _ _ (by omega) (by omega), hfz _ _ (by omega)]
    exact ht j hj
  · rw [sp_gp x q k j hk (by omega)]
    split
    · exact (hq.agree ((hag _ (Nat.le_refl _)).mono (by omega) (Nat.le_refl _))).mono (by omega) (by rw [World.size_setCell]; omega)
    · exact (((hnew j (by omega)).grew g2 (Nat.le_refl _)).agree ((hag _ z2).mono (by omega) (Nat.le_refl _))).mono (Nat.le_refl _) (by rw [World.size_setCell]; omega)
  · rw [sp_gp x q k j hk h2, if_neg (by omega)]
    exact hold j (by omega) h2
  · show _ = _
    rw [sp_er x q k (by rw [hqe.out, hold k (Nat.le_refl _) hk])]
    exact he.out

set_option maxRecDepth 100000 in
set_option maxHeartbeats 4000000 in
theorem holdOwn_any (r : RefL) (w : World) (hr : r.In w 0 w.heap.size) (hs : r.er.Small) : Calls Try.prog 22 #[r.val] w (RetRef r.er w) := by
  have CP := Lib.hid (fun (j : Nat) (hj : j < 4) w1 (hg : Grew w w1) => clonePath_any (r.gp j).a (r.gp j).c (r.gp j).l w1 (by
    have h : IntsIn w 0 w.heap.size (r.gp j).a (r.gp j).c (r.gp j).l := by
      have hj' : j = 0 ∨ j = 1 ∨ j = 2 ∨ j = 3 := by omega
      rcases hj' with rfl | rfl | rfl | rfl
      · exact hr.1
      · exact hr.2.1
      · exact hr.2.2.1
      · exact hr.2.2.2
    exact (h.grew hg (Nat.le_refl _)).mono (Nat.le_refl _) hg.size) (by
      have hj' : j = 0 ∨ j = 1 ∨ j = 2 ∨ j = 3 := by omega
      rcases hj' with rfl | rfl | rfl | rfl
      · exact hs.1
      · exact hs.2.1
      · exact hs.2.2.1
      · exact hs.2.2.2))
  unfold RefL.val
  clear hr hs
  have hst : OwnAt r w (.int .i64 (0 : Nat)) (((w.alloc (.cells #[.int .i64 r.id, .int .i64 r.kind, .int .i64 r.aff, .bool r.live, .slice r.path.a r.path.l.length r.path.c, .slice r.pt.p.a r.pt.p.l.length r.pt.p.c, .int .i64 r.pt.o, .slice r.a.p.a r.a.p.l.length r.a.p.c, .int .i64 r.a.o, .slice r.f.p.a r.f.p.l.length r.f.p.c, .int .i64 r.f.o] 34)).alloc (.cells #[.int .i64 0, .int .i64 0, .int .i64 0, .bool false, .slice none 0 0, .slice none 0 0, .int .i64 0, .slice none 0 0, .int .i64 0, .slice none 0 0, .int .i64 0] 34)).alloc (.cells #[.pointer (some ⟨w.heap.size, 4, none⟩), .pointer (some ⟨w.heap.size, 5, none⟩), .pointer (some ⟨w.heap.size, 7, none⟩), .pointer (some ⟨w.heap.size, 9, none⟩)] 75)) := by
    have g1 := Grew.alloc1 (w.alloc (.cells #[.int .i64 r.id, .int .i64 r.kind, .int .i64 r.aff, .bool r.live, .slice r.path.a r.path.l.length r.path.c, .slice r.pt.p.a r.pt.p.l.length r.pt.p.c, .int .i64 r.pt.o, .slice r.a.p.a r.a.p.l.length r.a.p.c, .int .i64 r.a.o, .slice r.f.p.a r.f.p.l.length r.f.p.c, .int .i64 r.f.o] 34)) (.cells #[.int .i64 0, .int .i64 0, .int .i64 0, .bool false, .slice none 0 0, .slice none 0 0, .int .i64 0, .slice none 0 0, .int .i64 0, .slice none 0 0, .int .i64 0] 34)
    have g2 := Grew.alloc1 ((w.alloc (.cells #[.int .i64 r.id, .int .i64 r.kind, .int .i64 r.aff, .bool r.live, .slice r.path.a r.path.l.length r.path.c, .slice r.pt.p.a r.pt.p.l.length r.pt.p.c, .int .i64 r.pt.o, .slice r.a.p.a r.a.p.l.length r.a.p.c, .int .i64 r.a.o, .slice r.f.p.a r.f.p.l.length r.f.p.c, .int .i64 r.f.o] 34)).alloc (.cells #[.int .i64 0, .int .i64 0, .int .i64 0, .bool false, .slice none 0 0, .slice none 0 0, .int .i64 0, .slice none 0 0, .int .i64 0, .slice none 0 0, .int .i64 0] 34)) (.cells #[.pointer (some ⟨w.heap.size, 4, none⟩), .pointer (some ⟨w.heap.size, 5, none⟩), .pointer (some ⟨w.heap.size, 7, none⟩), .pointer (some ⟨w.heap.size, 9, none⟩)] 75)
    have g := g1.trans g2
    refine ⟨0, r, by omega, rfl, fun j v hj => ?_, fun j => ?_, fun j hj => ?_, ?_, ((Grew.alloc1 _ _).alloc _).alloc _, by simp, fun j hj => by omega, fun j _ _ => rfl, rfl⟩
    · rw [Nat.zero_add]
      exact box_at g (by simpa [RefL.cells] using hj)
    · rw [g.frozen (by simp), World.frozen?_alloc_at _ _ _ _ rfl]
    · rw [Nat.zero_add]
      have e : (w.alloc (.cells #[.int .i64 r.id, .int .i64 r.kind, .int .i64 r.aff, .bool r.live, .slice r.path.a r.path.l.length r.path.c, .slice r.pt.p.a r.pt.p.l.length r.pt.p.c, .int .i64 r.pt.o, .slice r.a.p.a r.a.p.l.length r.a.p.c, .int .i64 r.a.o, .slice r.f.p.a r.f.p.l.length r.f.p.c, .int .i64 r.f.o] 34)).heap.size = w.heap.size + 1 := by simp
      refine ⟨?_, ?_⟩
      · have hb := fun (v : Value) (h : (#[.int .i64 0, .int .i64 0, .int .i64 0, .bool false, .slice none 0 0, .slice none 0 0, .int .i64 0, .slice none 0 0, .int .i64 0, .slice none 0 0, .int .i64 0] : Array Value)[j]? = some v) => box_at g2 (j := j) (v := v) h
        rw [e] at hb
        obtain ⟨v, hv⟩ : ∃ v, (#[.int .i64 0, .int .i64 0, .int .i64 0, .bool false, .slice none 0 0, .slice none 0 0, .int .i64 0, .slice none 0 0, .int .i64 0, .slice none 0 0, .int .i64 0] : Array Value)[j]? = some v := ⟨_, Array.getElem?_eq_getElem (by simpa using hj)⟩
        rw [hb v hv]; rfl
      · rw [g2.frozen (by simp), World.frozen?_alloc_at _ _ _ _ (by simp)]
    · have e : ((w.alloc (.cells #[.int .i64 r.id, .int .i64 r.kind, .int .i64 r.aff, .bool r.live, .slice r.path.a r.path.l.length r.path.c, .slice r.pt.p.a r.pt.p.l.length r.pt.p.c, .int .i64 r.pt.o, .slice r.a.p.a r.a.p.l.length r.a.p.c, .int .i64 r.a.o, .slice r.f.p.a r.f.p.l.length r.f.p.c, .int .i64 r.f.o] 34)).alloc (.cells #[.int .i64 0, .int .i64 0, .int .i64 0, .bool false, .slice none 0 0, .slice none 0 0, .int .i64 0, .slice none 0 0, .int .i64 0, .slice none 0 0, .int .i64 0] 34)).heap.size = w.heap.size + 2 := by simp
      have b0 := box_at (Grew.refl (((w.alloc (.cells #[.int .i64 r.id, .int .i64 r.kind, .int .i64 r.aff, .bool r.live, .slice r.path.a r.path.l.length r.path.c, .slice r.pt.p.a r.pt.p.l.length r.pt.p.c, .int .i64 r.pt.o, .slice r.a.p.a r.a.p.l.length r.a.p.c, .int .i64 r.a.o, .slice r.f.p.a r.f.p.l.length r.f.p.c, .int .i64 r.f.o] 34)).alloc (.cells #[.int .i64 0, .int .i64 0, .int .i64 0, .bool false, .slice none 0 0, .slice none 0 0, .int .i64 0, .slice none 0 0, .int .i64 0, .slice none 0 0, .int .i64 0] 34)).alloc (.cells #[.pointer (some ⟨w.heap.size, 4, none⟩), .pointer (some ⟨w.heap.size, 5, none⟩), .pointer (some ⟨w.heap.size, 7, none⟩), .pointer (some ⟨w.heap.size, 9, none⟩)] 75))) (j := 0) (v := .pointer (some ⟨w.heap.size, 4, none⟩)) rfl
      have b1 := box_at (Grew.refl (((w.alloc (.cells #[.int .i64 r.id, .int .i64 r.kind, .int .i64 r.aff, .bool r.live, .slice r.path.a r.path.l.length r.path.c, .slice r.pt.p.a r.pt.p.l.length r.pt.p.c, .int .i64 r.pt.o, .slice r.a.p.a r.a.p.l.length r.a.p.c, .int .i64 r.a.o, .slice r.f.p.a r.f.p.l.length r.f.p.c, .int .i64 r.f.o] 34)).alloc (.cells #[.int .i64 0, .int .i64 0, .int .i64 0, .bool false, .slice none 0 0, .slice none 0 0, .int .i64 0, .slice none 0 0, .int .i64 0, .slice none 0 0, .int .i64 0] 34)).alloc (.cells #[.pointer (some ⟨w.heap.size, 4, none⟩), .pointer (some ⟨w.heap.size, 5, none⟩), .pointer (some ⟨w.heap.size, 7, none⟩), .pointer (some ⟨w.heap.size, 9, none⟩)] 75))) (j := 1) (v := .pointer (some ⟨w.heap.size, 5, none⟩)) rfl
      have b2 := box_at (Grew.refl (((w.alloc (.cells #[.int .i64 r.id, .int .i64 r.kind, .int .i64 r.aff, .bool r.live, .slice r.path.a r.path.l.length r.path.c, .slice r.pt.p.a r.pt.p.l.length r.pt.p.c, .int .i64 r.pt.o, .slice r.a.p.a r.a.p.l.length r.a.p.c, .int .i64 r.a.o, .slice r.f.p.a r.f.p.l.length r.f.p.c, .int .i64 r.f.o] 34)).alloc (.cells #[.int .i64 0, .int .i64 0, .int .i64 0, .bool false, .slice none 0 0, .slice none 0 0, .int .i64 0, .slice none 0 0, .int .i64 0, .slice none 0 0, .int .i64 0] 34)).alloc (.cells #[.pointer (some ⟨w.heap.size, 4, none⟩), .pointer (some ⟨w.heap.size, 5, none⟩), .pointer (some ⟨w.heap.size, 7, none⟩), .pointer (some ⟨w.heap.size, 9, none⟩)] 75))) (j := 2) (v := .pointer (some ⟨w.heap.size, 7, none⟩)) rfl
      have b3 := box_at (Grew.refl (((w.alloc (.cells #[.int .i64 r.id, .int .i64 r.kind, .int .i64 r.aff, .bool r.live, .slice r.path.a r.path.l.length r.path.c, .slice r.pt.p.a r.pt.p.l.length r.pt.p.c, .int .i64 r.pt.o, .slice r.a.p.a r.a.p.l.length r.a.p.c, .int .i64 r.a.o, .slice r.f.p.a r.f.p.l.length r.f.p.c, .int .i64 r.f.o] 34)).alloc (.cells #[.int .i64 0, .int .i64 0, .int .i64 0, .bool false, .slice none 0 0, .slice none 0 0, .int .i64 0, .slice none 0 0, .int .i64 0, .slice none 0 0, .int .i64 0] 34)).alloc (.cells #[.pointer (some ⟨w.heap.size, 4, none⟩), .pointer (some ⟨w.heap.size, 5, none⟩), .pointer (some ⟨w.heap.size, 7, none⟩), .pointer (some ⟨w.heap.size, 9, none⟩)] 75))) (j := 3) (v := .pointer (some ⟨w.heap.size, 9, none⟩)) rfl
      rw [e] at b0 b1 b2 b3
      exact ⟨b0, b1, b2, b3⟩
  go_enter Try.func22, Try.ntmps22
  go_wp2_with fail
  generalize ((w.alloc (.cells #[.int .i64 r.id, .int .i64 r.kind, .int .i64 r.aff, .bool r.live, .slice r.path.a r.path.l.length r.path.c, .slice r.pt.p.a r.pt.p.l.length r.pt.p.c, .int .i64 r.pt.o, .slice r.a.p.a r.a.p.l.length r.a.p.c, .int .i64 r.a.o, .slice r.f.p.a r.f.p.l.length r.f.p.c, .int .i64 r.f.o] 34)).alloc (.cells #[.int .i64 0, .int .i64 0, .int .i64 0, .bool false, .slice none 0 0, .slice none 0 0, .int .i64 0, .slice none 0 0, .int .i64 0, .slice none 0 0, .int .i64 0] 34)).alloc (.cells #[.pointer (some ⟨w.heap.size, 4, none⟩), .pointer (some ⟨w.heap.size, 5, none⟩), .pointer (some ⟨w.heap.size, 7, none⟩), .pointer (some ⟨w.heap.size, 9, none⟩)] 75) = w3 at *
  go_loopw [16] (fun i wr => OwnAt r w i wr) (fun i _ => 4 - (intOf i).toNat)
  case atStart => exact hst
  case round =>
    clear hst
    obtain ⟨k, x, hk, rfl, hx, hf, ht, ⟨p0, p1, p2, p3⟩, hg, hz, hnew, hold, he⟩ := hrel
    have hk' : k = 0 ∨ k = 1 ∨ k = 2 ∨ k = 3 ∨ k = 4 := by omega
    rcases hk' with hk0 | hk0 | hk0 | hk0 | hk0
    · have hk1 : (k : Int) < 4 := by omega
      have hgp : x.gp 0 = r.gp 0 := hold 0 (by omega) (by omega)
      have hc : wr.cell? ⟨w.heap.size, 4, none⟩ = some (.slice (r.gp 0).a (r.gp 0).l.length (r.gp 0).c) := by
        have := rangeAt_at0 hx (j := 4) (v := .slice (x.gp 0).a (x.gp 0).l.length (x.gp 0).c) rfl
        rw [← hgp]; exact this
      have hpk : wr.cell? ⟨w.heap.size + 2, k, none⟩ = some (.pointer (some ⟨w.heap.size, 4, none⟩)) := by rw [hk0]; exact p0
      have hfo := hf 4
      have HST := Lib.hid (fun (w2 : World) (q : PN) (g2 : Grew wr w2) (hq : IntsIn w2 wr.heap.size w2.heap.size q.a q.c q.l) (hqe : Hid (q.l = (r.gp 0).l)) => own_step (q := q) (show k < 4 by omega) hx hf ht ⟨p0, p1, p2, p3⟩ hg hz hnew hold he g2 hq (by rw [hk0]; exact hqe))
      have HOK : Hid (offP k = 4) := by show _ = _; rw [hk0]; rfl
      have hzz : w.heap.size < wr.heap.size := by omega
      have C := Lib.hid (CP.out 0 (by omega) wr hg)
      clear hx hf ht p0 p1 p2 p3 hnew hold he hk0 hgp
      generalize r.gp 0 = z at *
      go_wp2_with fail
      refine C.out.mono ?_
      rintro e w2 ⟨q, rfl, g2, hq, hqe⟩
      have hc2 := (g2.cell (p := ⟨w.heap.size, 4, none⟩) hzz).trans hc
      have hf2 := (g2.frozen (p := ⟨w.heap.size, 4, none⟩) hzz).trans hfo
      have hN := HST.out w2 q g2 hq hqe
      rw [HOK.out] at hN
      have HN := Lib.hid hN
      clear hN HST C
      go_wp2_with fail
      go_roundw
      case rel =>
        have := HN.out
        simpa using this
      case measure => simp [intOf]; omega
    · have hk1 : (k : Int) < 4 := by omega
      have hgp : x.gp 1 = r.gp 1 := hold 1 (by omega) (by omega)
      have hc : wr.cell? ⟨w.heap.size, 5, none⟩ = some (.slice (r.gp 1).a (r.gp 1).l.length (r.gp 1).c) := by
        have := rangeAt_at0 hx (j := 5) (v := .slice (x.gp 1).a (x.gp 1).l.length (x.gp 1).c) rfl
        rw [← hgp]; exact this
      have hpk : wr.cell? ⟨w.heap.size + 2, k, none⟩ = some (.pointer (some ⟨w.heap.size, 5, none⟩)) := by rw [hk0]; exact p1
      have hfo := hf 5
      have HST := Lib.hid (fun (w2 : World) (q : PN) (g2 : Grew wr w2) (hq : IntsIn w2 wr.heap.size w2.heap.size q.a q.c q.l) (hqe : Hid (q.l = (r.gp 1).l)) => own_step (q := q) (show k < 4 by omega) hx hf ht ⟨p0, p1, p2, p3⟩ hg hz hnew hold he g2 hq (by rw [hk0]; exact hqe))
      have HOK : Hid (offP k = 5) := by show _ = _; rw [hk0]; rfl
      have hzz : w.heap.size < wr.heap.size := by omega
      have C := Lib.hid (CP.out 1 (by omega) wr hg)
      clear hx hf ht p0 p1 p2 p3 hnew hold he hk0 hgp
      generalize r.gp 1 = z at *
      go_wp2_with fail
      refine C.out.mono ?_
      rintro e w2 ⟨q, rfl, g2, hq, hqe⟩
      have hc2 := (g2.cell (p := ⟨w.heap.size, 5, none⟩) hzz).trans hc
      have hf2 := (g2.frozen (p := ⟨w.heap.size, 5, none⟩) hzz).trans hfo
      have hN := HST.out w2 q g2 hq hqe
      rw [HOK.out] at hN
      have HN := Lib.hid hN
      clear hN HST C
      go_wp2_with fail
      go_roundw
      case rel =>
        have := HN.out
        simpa using this
      case measure => simp [intOf]; omega
    · have hk1 : (k : Int) < 4 := by omega
      have hgp : x.gp 2 = r.gp 2 := hold 2 (by omega) (by omega)
      have hc : wr.cell? ⟨w.heap.size, 7, none⟩ = some (.slice (r.gp 2).a (r.gp 2).l.length (r.gp 2).c) := by
        have := rangeAt_at0 hx (j := 7) (v := .slice (x.gp 2).a (x.gp 2).l.length (x.gp 2).c) rfl
        rw [← hgp]; exact this
      have hpk : wr.cell? ⟨w.heap.size + 2, k, none⟩ = some (.pointer (some ⟨w.heap.size, 7, none⟩)) := by rw [hk0]; exact p2
      have hfo := hf 7
      have HST := Lib.hid (fun (w2 : World) (q : PN) (g2 : Grew wr w2) (hq : IntsIn w2 wr.heap.size w2.heap.size q.a q.c q.l) (hqe : Hid (q.l = (r.gp 2).l)) => own_step (q := q) (show k < 4 by omega) hx hf ht ⟨p0, p1, p2, p3⟩ hg hz hnew hold he g2 hq (by rw [hk0]; exact hqe))
      have HOK : Hid (offP k = 7) := by show _ = _; rw [hk0]; rfl
      have hzz : w.heap.size < wr.heap.size := by omega
      have C := Lib.hid (CP.out 2 (by omega) wr hg)
      clear hx hf ht p0 p1 p2 p3 hnew hold he hk0 hgp
      generalize r.gp 2 = z at *
      go_wp2_with fail
      refine C.out.mono ?_
      rintro e w2 ⟨q, rfl, g2, hq, hqe⟩
      have hc2 := (g2.cell (p := ⟨w.heap.size, 7, none⟩) hzz).trans hc
      have hf2 := (g2.frozen (p := ⟨w.heap.size, 7, none⟩) hzz).trans hfo
      have hN := HST.out w2 q g2 hq hqe
      rw [HOK.out] at hN
      have HN := Lib.hid hN
      clear hN HST C
      go_wp2_with fail
      go_roundw
      case rel =>
        have := HN.out
        simpa using this
      case measure => simp [intOf]; omega
    · have hk1 : (k : Int) < 4 := by omega
      have hgp : x.gp 3 = r.gp 3 := hold 3 (by omega) (by omega)
      have hc : wr.cell? ⟨w.heap.size, 9, none⟩ = some (.slice (r.gp 3).a (r.gp 3).l.length (r.gp 3).c) := by
        have := rangeAt_at0 hx (j := 9) (v := .slice (x.gp 3).a (x.gp 3).l.length (x.gp 3).c) rfl
        rw [← hgp]; exact this
      have hpk : wr.cell? ⟨w.heap.size + 2, k, none⟩ = some (.pointer (some ⟨w.heap.size, 9, none⟩)) := by rw [hk0]; exact p3
      have hfo := hf 9
      have HST := Lib.hid (fun (w2 : World) (q : PN) (g2 : Grew wr w2) (hq : IntsIn w2 wr.heap.size w2.heap.size q.a q.c q.l) (hqe : Hid (q.l = (r.gp 3).l)) => own_step (q := q) (show k < 4 by omega) hx hf ht ⟨p0, p1, p2, p3⟩ hg hz hnew hold he g2 hq (by rw [hk0]; exact hqe))
      have HOK : Hid (offP k = 9) := by show _ = _; rw [hk0]; rfl
      have hzz : w.heap.size < wr.heap.size := by omega
      have C := Lib.hid (CP.out 3 (by omega) wr hg)
      clear hx hf ht p0 p1 p2 p3 hnew hold he hk0 hgp
      generalize r.gp 3 = z at *
      go_wp2_with fail
      refine C.out.mono ?_
      rintro e w2 ⟨q, rfl, g2, hq, hqe⟩
      have hc2 := (g2.cell (p := ⟨w.heap.size, 9, none⟩) hzz).trans hc
      have hf2 := (g2.frozen (p := ⟨w.heap.size, 9, none⟩) hzz).trans hfo
      have hN := HST.out w2 q g2 hq hqe
      rw [HOK.out] at hN
      have HN := Lib.hid hN
      clear hN HST C
      go_wp2_with fail
      go_roundw
      case rel =>
        have := HN.out
        simpa using this
      case measure => simp [intOf]; omega
    · have hk1 : ¬ (k : Int) < 4 := by omega
      have hxin : ∀ j, j < 4 → IntsIn wr (w.heap.size + 3) wr.heap.size (x.gp j).a (x.gp j).c (x.gp j).l := fun j hj => hnew j (by omega)
      clear hnew hold p0 p1 p2 p3 hf hk0
      have HIN := Lib.hid hxin
      have HO := Lib.hid (rangeAt_put (cs := x.cells) ht)
      have HK := Lib.hid (setCells_keepsO (w.heap.size + 1) x.cells 0 wr)
      clear hxin
      go_wp2_with (first | (refine wpList_load_mid rfl 34 (.tmp 1) rfl w.heap.size 0 rfl x.cells _ hx Try.underlying34 rfl infoRef ?_) | (refine wpList_store_mid rfl 34 (.tmp 2) (.tmp 27) rfl (w.heap.size + 1) 0 x.cells.toArray rfl rfl ht infoRef x.cells_all ?_; generalize wr.setCells (w.heap.size + 1) 0 x.cells.toArray.toList = W at *))
      have kW := HK.out
      have zW := kW.size
      have hGW : Grew w W := hg.keep kW (fun j hj => by show _ ≤ j; rw [hj]; omega)
      have hag : Agree (w.heap.size + 3) wr.heap.size wr W := kW.agree (Nat.le_refl _) (fun j h1 h2 => by show ¬ j = _; omega)
      have hxW : x.In W w.heap.size W.heap.size := by
        have q := fun j (hj : j < 4) => (((HIN.out j hj).agree hag).mono (show w.heap.size ≤ _ by omega) zW : IntsIn W w.heap.size W.heap.size (x.gp j).a (x.gp j).c (x.gp j).l)
        exact ⟨q 0 (by omega), q 1 (by omega), q 2 (by omega), q 3 (by omega)⟩
      exact bodyPost_ret (v := x.val) (results_cell_mid Try.results22 _ W (w.heap.size + 1) 0 x.cells _ rfl HO.out Try.underlying34 rfl infoRef) rfl ⟨x, rfl, hGW, hxW, he⟩
end Go.Proofs.Ytgnlgfkolbecmaa
