/- BOXES LAID AT A FUNCTION'S START: what lies where. No program is named here. -/
import Derived.Test.YtgnlgfkolbecmaaMid
namespace Go.Proofs.Ytgnlgfkolbecmaa
open Go Go.RowKit

theorem there_grew {w w' : World} {b o n : Nat} (h : w.there b o n) (hg : Grew w w') (hb : b < w.heap.size) : w'.there b o n := fun j hj => by
  rw [hg.cell (p := ⟨b, o + j, none⟩) hb, hg.frozen (p := ⟨b, o + j, none⟩) hb]
  exact h j hj
theorem boxes1 (w : World) (cs : List Value) (tA : TypeId) (W : World) (hW : w.alloc (.cells cs.toArray tA) = W) : Grew w W ∧ W.rangeAt w.heap.size 0 cs ∧ W.there w.heap.size 0 cs.length ∧ W.heap.size = w.heap.size + 1 := by
  subst hW
  refine ⟨Grew.alloc1 _ _, fun j v hj => ?_, ?_, by simp⟩
  · rw [Nat.zero_add]; exact box_at (Grew.refl _) (by simpa using hj)
  · have := there_new (Grew.refl (w.alloc (.cells cs.toArray tA)))
    rwa [List.size_toArray] at this
theorem boxes2 (w : World) (cs ds : List Value) (tA tB : TypeId) (W : World) (hW : (w.alloc (.cells cs.toArray tA)).alloc (.cells ds.toArray tB) = W) : Grew w W ∧ W.rangeAt w.heap.size 0 cs ∧ W.there w.heap.size 0 cs.length ∧ W.rangeAt (w.heap.size + 1) 0 ds ∧ W.there (w.heap.size + 1) 0 ds.length ∧ W.heap.size = w.heap.size + 2 := by
  obtain ⟨g1, r1, t1, z1⟩ := boxes1 w cs tA _ rfl
  obtain ⟨g2, r2, t2, z2⟩ := boxes1 _ ds tB _ hW
  rw [z1] at r2 t2 z2
  exact ⟨g1.trans g2, rangeAt_grew r1 g2 (by omega), fun j hj => by rw [g2.cell (p := ⟨w.heap.size, 0 + j, none⟩) (by show w.heap.size < _; omega), g2.frozen (p := ⟨w.heap.size, 0 + j, none⟩) (by show w.heap.size < _; omega)]; exact t1 j hj, r2, t2, z2⟩
theorem boxes3 (w : World) (cs ds es : List Value) (tA tB tC : TypeId) (W : World) (hW : ((w.alloc (.cells cs.toArray tA)).alloc (.cells ds.toArray tB)).alloc (.cells es.toArray tC) = W) : Grew w W ∧ W.rangeAt w.heap.size 0 cs ∧ W.rangeAt (w.heap.size + 1) 0 ds ∧ W.rangeAt (w.heap.size + 2) 0 es ∧ W.there (w.heap.size + 2) 0 es.length ∧ W.heap.size = w.heap.size + 3 := by
  obtain ⟨g1, r1, _, q1, _, z1⟩ := boxes2 w cs ds tA tB _ rfl
  obtain ⟨g2, r2, t2, z2⟩ := boxes1 _ es tC _ hW
  rw [z1] at r2 t2 z2
  exact ⟨g1.trans g2, rangeAt_grew r1 g2 (by omega), rangeAt_grew q1 g2 (by omega), r2, t2, z2⟩
end Go.Proofs.Ytgnlgfkolbecmaa
