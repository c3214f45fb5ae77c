/- point.Order: the contract. -/
import Derived.Test.YtgnlgfkolbecmaaPoint
import Derived.RegionTactic
import Derived.ChangeAlike
namespace Go.Proofs.Ytgnlgfkolbecmaa
open Go Go.RowKit

theorem Keeps.put {O : Nat → Prop} {a w : World} (h : Keeps O a w) {b : Nat} (hb : O b) (o : Nat) (u : Value) : Keeps O a (w.setCell ⟨b, o, none⟩ u) := h.setCell (Or.inr hb) u
/-- two boxes of two cells, written -/
theorem put22 {F : World} {A B : Nat} {u0 u1 v0 v1 : Value} (a0 a1 b0 b1 : Value) (hne : A ≠ B) (h0 : F.cell? ⟨A, 0, none⟩ = some u0) (h1 : F.cell? ⟨A, 1, none⟩ = some u1) (k0 : F.cell? ⟨B, 0, none⟩ = some v0) (k1 : F.cell? ⟨B, 1, none⟩ = some v1) :
    ((((F.setCell ⟨A, 0, none⟩ a0).setCell ⟨A, 1, none⟩ a1).setCell ⟨B, 0, none⟩ b0).setCell ⟨B, 1, none⟩ b1).cell? ⟨A, 0, none⟩ = some a0 ∧ ((((F.setCell ⟨A, 0, none⟩ a0).setCell ⟨A, 1, none⟩ a1).setCell ⟨B, 0, none⟩ b0).setCell ⟨B, 1, none⟩ b1).cell? ⟨A, 1, none⟩ = some a1 ∧
    ((((F.setCell ⟨A, 0, none⟩ a0).setCell ⟨A, 1, none⟩ a1).setCell ⟨B, 0, none⟩ b0).setCell ⟨B, 1, none⟩ b1).cell? ⟨B, 0, none⟩ = some b0 ∧ ((((F.setCell ⟨A, 0, none⟩ a0).setCell ⟨A, 1, none⟩ a1).setCell ⟨B, 0, none⟩ b0).setCell ⟨B, 1, none⟩ b1).cell? ⟨B, 1, none⟩ = some b1 := by
  have q0 : ((F.setCell ⟨A, 0, none⟩ a0).setCell ⟨A, 1, none⟩ a1).cell? ⟨B, 0, none⟩ = some v0 := (cell_other (fun h => by injection h with h; exact hne h)).trans ((cell_other (fun h => by injection h with h; exact hne h)).trans k0)
  have q1 : ((F.setCell ⟨A, 0, none⟩ a0).setCell ⟨A, 1, none⟩ a1).cell? ⟨B, 1, none⟩ = some v1 := (cell_other (fun h => by injection h with h; exact hne h)).trans ((cell_other (fun h => by injection h with h; exact hne h)).trans k1)
  exact ⟨(cell_other (fun h => by injection h with h; exact hne h.symm)).trans ((cell_other (fun h => by injection h with h; exact hne h.symm)).trans ((cell_ne (by decide)).trans (cell_same h0))),
    (cell_other (fun h => by injection h with h; exact hne h.symm)).trans ((cell_other (fun h => by injection h with h; exact hne h.symm)).trans (cell_same ((cell_ne (by decide)).trans h1))),
    (cell_ne (by decide)).trans (cell_same q0), cell_same ((cell_ne (by decide)).trans q1)⟩
/-- what point.Order tells -/
def OrdEnds (a f : PtE) (w : World) (e : Ending) (w' : World) : Prop := ∃ x y : PtL, e = .returned (.tuple #[.agg #[.slice x.p.a x.p.l.length x.p.c, .int .i64 x.o], .agg #[.slice y.p.a y.p.l.length y.p.c, .int .i64 y.o], .bool (ordT a f).2.2]) ∧ Grew w w' ∧ x.In w' w.heap.size w'.heap.size ∧ y.In w' w.heap.size w'.heap.size ∧ Hid (x.er = (ordT a f).1) ∧ Hid (y.er = (ordT a f).2.1)
set_option maxHeartbeats 2000000 in
theorem order_any (p q : PtL) (w : World) (hp : p.In w 0 w.heap.size) (hl : p.p.l.length ≤ 1048576) (hq : q.In w 0 w.heap.size) (hl2 : q.p.l.length ≤ 1048576) :
    Calls Try.prog 64 #[.agg #[.slice p.p.a p.p.l.length p.p.c, .int .i64 p.o, .slice q.p.a q.p.l.length q.p.c, .int .i64 q.o]] w (OrdEnds p.er q.er w) := by
  have O1 := Lib.hid (fun w1 (hg : Grew w w1) => ptOwn_any p w1 (hp.later hg) hl)
  have O2 := Lib.hid (fun w1 (hg : Grew w w1) => ptOwn_any q w1 (hq.later hg) hl2)
  have HL1 := Lib.hid (show p.er.p.length ≤ 1048576 from hl)
  have HL2 := Lib.hid (show q.er.p.length ≤ 1048576 from hl2)
  generalize p.er = pe at *
  generalize q.er = qe at *
  generalize p.p.l = l at *
  generalize q.p.l = m at *
  clear hp hq hl hl2
  go_enter Try.func64, Try.ntmps64
  go_upto_region 1 with fail
  have gA := Grew.alloc1 w (.cells #[.slice p.p.a l.length p.p.c, .int .i64 p.o, .slice q.p.a m.length q.p.c, .int .i64 q.o] 32)
  have gB := (gA.alloc (.cells #[.slice none 0 0, .int .i64 0] 30)).alloc (.cells #[.slice none 0 0, .int .i64 0] 30)
  have gC : Grew (w.alloc (.cells #[.slice p.p.a l.length p.p.c, .int .i64 p.o, .slice q.p.a m.length q.p.c, .int .i64 q.o] 32)) (((w.alloc (.cells #[.slice p.p.a l.length p.p.c, .int .i64 p.o, .slice q.p.a m.length q.p.c, .int .i64 q.o] 32)).alloc (.cells #[.slice none 0 0, .int .i64 0] 30)).alloc (.cells #[.slice none 0 0, .int .i64 0] 30)) := (Grew.alloc1 _ _).alloc _
  have c0 := box_at gC (j := 0) (v := .slice p.p.a l.length p.p.c) rfl
  have c1 := box_at gC (j := 1) (v := .int .i64 p.o) rfl
  have c2 := box_at gC (j := 2) (v := .slice q.p.a m.length q.p.c) rfl
  have c3 := box_at gC (j := 3) (v := .int .i64 q.o) rfl
  have gD := Grew.alloc1 ((w.alloc (.cells #[.slice p.p.a l.length p.p.c, .int .i64 p.o, .slice q.p.a m.length q.p.c, .int .i64 q.o] 32)).alloc (.cells #[.slice none 0 0, .int .i64 0] 30)) (.cells #[.slice none 0 0, .int .i64 0] 30)
  have d0 := box_at gD (j := 0) (v := .slice none 0 0) rfl
  have d1 := box_at gD (j := 1) (v := .int .i64 0) rfl
  have df : ∀ j, (((w.alloc (.cells #[.slice p.p.a l.length p.p.c, .int .i64 p.o, .slice q.p.a m.length q.p.c, .int .i64 q.o] 32)).alloc (.cells #[.slice none 0 0, .int .i64 0] 30)).alloc (.cells #[.slice none 0 0, .int .i64 0] 30)).frozen? ⟨w.heap.size + 1, j, none⟩ = false := fun j => by
    rw [gD.frozen (by simp), World.frozen?_alloc_at _ _ _ _ (by simp)]
  have e0 := box_at (Grew.refl (((w.alloc (.cells #[.slice p.p.a l.length p.p.c, .int .i64 p.o, .slice q.p.a m.length q.p.c, .int .i64 q.o] 32)).alloc (.cells #[.slice none 0 0, .int .i64 0] 30)).alloc (.cells #[.slice none 0 0, .int .i64 0] 30))) (j := 0) (v := .slice none 0 0) rfl
  have e1 := box_at (Grew.refl (((w.alloc (.cells #[.slice p.p.a l.length p.p.c, .int .i64 p.o, .slice q.p.a m.length q.p.c, .int .i64 q.o] 32)).alloc (.cells #[.slice none 0 0, .int .i64 0] 30)).alloc (.cells #[.slice none 0 0, .int .i64 0] 30))) (j := 1) (v := .int .i64 0) rfl
  have ef : ∀ j, (((w.alloc (.cells #[.slice p.p.a l.length p.p.c, .int .i64 p.o, .slice q.p.a m.length q.p.c, .int .i64 q.o] 32)).alloc (.cells #[.slice none 0 0, .int .i64 0] 30)).alloc (.cells #[.slice none 0 0, .int .i64 0] 30)).frozen? ⟨w.heap.size + 2, j, none⟩ = false := fun j => by
    rw [World.frozen?_alloc_at _ _ _ _ (by simp)]
  have z1 : w.heap.size + 2 < (((w.alloc (.cells #[.slice p.p.a l.length p.p.c, .int .i64 p.o, .slice q.p.a m.length q.p.c, .int .i64 q.o] 32)).alloc (.cells #[.slice none 0 0, .int .i64 0] 30)).alloc (.cells #[.slice none 0 0, .int .i64 0] 30)).heap.size := by simp
  simp only [World.size_alloc, Nat.add_assoc, Nat.reduceAdd] at d0 d1 e0 e1
  clear gA gC gD
  generalize ((w.alloc (.cells #[.slice p.p.a l.length p.p.c, .int .i64 p.o, .slice q.p.a m.length q.p.c, .int .i64 q.o] 32)).alloc (.cells #[.slice none 0 0, .int .i64 0] 30)).alloc (.cells #[.slice none 0 0, .int .i64 0] 30) = w1 at *
  have KB := fun w' (g : Keeps (fun k => k = w.heap.size + 1 ∨ k = w.heap.size + 2) w1 w') => (⟨(g.cell (p := ⟨w.heap.size, 0, none⟩) (by show w.heap.size < _; omega) (by show ¬ (w.heap.size = _ ∨ w.heap.size = _); omega)).trans c0, (g.cell (p := ⟨w.heap.size, 1, none⟩) (by show w.heap.size < _; omega) (by show ¬ (w.heap.size = _ ∨ w.heap.size = _); omega)).trans c1, (g.cell (p := ⟨w.heap.size, 2, none⟩) (by show w.heap.size < _; omega) (by show ¬ (w.heap.size = _ ∨ w.heap.size = _); omega)).trans c2, (g.cell (p := ⟨w.heap.size, 3, none⟩) (by show w.heap.size < _; omega) (by show ¬ (w.heap.size = _ ∨ w.heap.size = _); omega)).trans c3⟩ : _ ∧ _ ∧ _ ∧ _)
  have z1' : w.heap.size + 1 < w1.heap.size := by omega
  have KD := fun w' (g : Grew w1 w') => (⟨(g.cell (p := ⟨w.heap.size + 1, 0, none⟩) z1').trans d0, (g.cell (p := ⟨w.heap.size + 1, 1, none⟩) z1').trans d1, (g.frozen (p := ⟨w.heap.size + 1, 0, none⟩) z1').trans (df 0), (g.frozen (p := ⟨w.heap.size + 1, 1, none⟩) z1').trans (df 1), (g.cell (p := ⟨w.heap.size + 2, 0, none⟩) z1).trans e0, (g.cell (p := ⟨w.heap.size + 2, 1, none⟩) z1).trans e1, (g.frozen (p := ⟨w.heap.size + 2, 0, none⟩) z1).trans (ef 0), (g.frozen (p := ⟨w.heap.size + 2, 1, none⟩) z1).trans (ef 1)⟩ : _ ∧ _ ∧ _ ∧ _ ∧ _ ∧ _ ∧ _ ∧ _)
  have g10 : Grew w1 w1.drew := (Grew.refl _).drew
  have HG := Lib.hid gB
  clear c0 c1 c2 c3 d0 d1 e0 e1 df ef gB
  go_region_held3 (fun w' => Keeps (fun k => k = w.heap.size + 1 ∨ k = w.heap.size + 2) w1 w') ((first | assumption | exact g10.keeps _ | exact Keeps.trans (by assumption) (Grew.keeps (by assumption) _) | (refine Keeps.put (Keeps.put ?_ (Or.inl rfl) _ _) (Or.inl rfl) _ _; assumption) | (refine Keeps.put (Keeps.put ?_ (Or.inr rfl) _ _) (Or.inr rfl) _ _; assumption)))
    ((first | (go_at_call 78; refine (O1.out _ (HG.out.trans g10)).mono ?_; rintro e w2 ⟨x, rfl, g2, hx, hxe⟩; have g12 := g10.trans g2) | (go_at_call 78; refine (O2.out _ (HG.out.trans g12)).mono ?_; rintro e w3 ⟨y, rfl, g3, hy, hye⟩; have g13 := g12.trans g3)))
  obtain ⟨d0, d1, df0, df1, e0, e1, ef0, ef1⟩ := KD w3 g13
  have z0 := g10.size
  have z2 := g2.size
  have z3 := g3.size
  have n12 : (⟨w.heap.size + 1, 0, none⟩ : Addr).block ≠ w.heap.size + 1 + 1 := by show w.heap.size + 1 ≠ _; omega
  have r0 : ((((w3.setCell ⟨w.heap.size + 1, 0, none⟩ (.slice x.p.a x.p.l.length x.p.c)).setCell ⟨w.heap.size + 1, 1, none⟩ (.int .i64 x.o)).setCell ⟨w.heap.size + 1 + 1, 0, none⟩ (.slice y.p.a y.p.l.length y.p.c)).setCell ⟨w.heap.size + 1 + 1, 1, none⟩ (.int .i64 y.o)).cell? ⟨w.heap.size + 1, 0, none⟩ = some (.slice x.p.a x.p.l.length x.p.c) := (cell_other (fun h => by injection h with h; omega)).trans ((cell_other (fun h => by injection h with h; omega)).trans ((cell_ne (by decide)).trans (cell_same d0)))
  have r1 : ((((w3.setCell ⟨w.heap.size + 1, 0, none⟩ (.slice x.p.a x.p.l.length x.p.c)).setCell ⟨w.heap.size + 1, 1, none⟩ (.int .i64 x.o)).setCell ⟨w.heap.size + 1 + 1, 0, none⟩ (.slice y.p.a y.p.l.length y.p.c)).setCell ⟨w.heap.size + 1 + 1, 1, none⟩ (.int .i64 y.o)).cell? ⟨w.heap.size + 1, 1, none⟩ = some (.int .i64 x.o) := (cell_other (fun h => by injection h with h; omega)).trans ((cell_other (fun h => by injection h with h; omega)).trans (cell_same ((cell_ne (by decide)).trans d1)))
  have e0' : ((w3.setCell ⟨w.heap.size + 1, 0, none⟩ (.slice x.p.a x.p.l.length x.p.c)).setCell ⟨w.heap.size + 1, 1, none⟩ (.int .i64 x.o)).cell? ⟨w.heap.size + 1 + 1, 0, none⟩ = some (.slice none 0 0) := (cell_other (fun h => by injection h with h; omega)).trans ((cell_other (fun h => by injection h with h; omega)).trans e0)
  have e1' : ((w3.setCell ⟨w.heap.size + 1, 0, none⟩ (.slice x.p.a x.p.l.length x.p.c)).setCell ⟨w.heap.size + 1, 1, none⟩ (.int .i64 x.o)).cell? ⟨w.heap.size + 1 + 1, 1, none⟩ = some (.int .i64 0) := (cell_other (fun h => by injection h with h; omega)).trans ((cell_other (fun h => by injection h with h; omega)).trans e1)
  have s0 : ((((w3.setCell ⟨w.heap.size + 1, 0, none⟩ (.slice x.p.a x.p.l.length x.p.c)).setCell ⟨w.heap.size + 1, 1, none⟩ (.int .i64 x.o)).setCell ⟨w.heap.size + 1 + 1, 0, none⟩ (.slice y.p.a y.p.l.length y.p.c)).setCell ⟨w.heap.size + 1 + 1, 1, none⟩ (.int .i64 y.o)).cell? ⟨w.heap.size + 1 + 1, 0, none⟩ = some (.slice y.p.a y.p.l.length y.p.c) := (cell_ne (by decide)).trans (cell_same e0')
  have s1 : ((((w3.setCell ⟨w.heap.size + 1, 0, none⟩ (.slice x.p.a x.p.l.length x.p.c)).setCell ⟨w.heap.size + 1, 1, none⟩ (.int .i64 x.o)).setCell ⟨w.heap.size + 1 + 1, 0, none⟩ (.slice y.p.a y.p.l.length y.p.c)).setCell ⟨w.heap.size + 1 + 1, 1, none⟩ (.int .i64 y.o)).cell? ⟨w.heap.size + 1 + 1, 1, none⟩ = some (.int .i64 y.o) := cell_same ((cell_ne (by decide)).trans e1')
  have GW : Grew w ((((w3.setCell ⟨w.heap.size + 1, 0, none⟩ (.slice x.p.a x.p.l.length x.p.c)).setCell ⟨w.heap.size + 1, 1, none⟩ (.int .i64 x.o)).setCell ⟨w.heap.size + 1 + 1, 0, none⟩ (.slice y.p.a y.p.l.length y.p.c)).setCell ⟨w.heap.size + 1 + 1, 1, none⟩ (.int .i64 y.o)) := ((((HG.out.trans g13).setCell (by show w.heap.size ≤ w.heap.size + 1; omega) _).setCell (by show w.heap.size ≤ w.heap.size + 1; omega) _).setCell (by show w.heap.size ≤ w.heap.size + 1 + 1; omega) _).setCell (by show w.heap.size ≤ w.heap.size + 1 + 1; omega) _
  have kW : Keeps (fun k => k = w.heap.size + 1 ∨ k = w.heap.size + 2) w3 ((((w3.setCell ⟨w.heap.size + 1, 0, none⟩ (.slice x.p.a x.p.l.length x.p.c)).setCell ⟨w.heap.size + 1, 1, none⟩ (.int .i64 x.o)).setCell ⟨w.heap.size + 1 + 1, 0, none⟩ (.slice y.p.a y.p.l.length y.p.c)).setCell ⟨w.heap.size + 1 + 1, 1, none⟩ (.int .i64 y.o)) := ((((Keeps.refl _ _).put (Or.inl rfl) _ _).put (Or.inl rfl) _ _).put (Or.inr rfl) _ _).put (Or.inr rfl) _ _
  have zW := kW.size
  have f0 : ((((w3.setCell ⟨w.heap.size + 1, 0, none⟩ (.slice x.p.a x.p.l.length x.p.c)).setCell ⟨w.heap.size + 1, 1, none⟩ (.int .i64 x.o)).setCell ⟨w.heap.size + 1 + 1, 0, none⟩ (.slice y.p.a y.p.l.length y.p.c)).setCell ⟨w.heap.size + 1 + 1, 1, none⟩ (.int .i64 y.o)).frozen? ⟨w.heap.size + 1, 0, none⟩ = false := by rw [World.frozen?_setCell, World.frozen?_setCell, World.frozen?_setCell, World.frozen?_setCell]; exact df0
  have f1 : ((((w3.setCell ⟨w.heap.size + 1, 0, none⟩ (.slice x.p.a x.p.l.length x.p.c)).setCell ⟨w.heap.size + 1, 1, none⟩ (.int .i64 x.o)).setCell ⟨w.heap.size + 1 + 1, 0, none⟩ (.slice y.p.a y.p.l.length y.p.c)).setCell ⟨w.heap.size + 1 + 1, 1, none⟩ (.int .i64 y.o)).frozen? ⟨w.heap.size + 1, 1, none⟩ = false := by rw [World.frozen?_setCell, World.frozen?_setCell, World.frozen?_setCell, World.frozen?_setCell]; exact df1
  have f2 : ((((w3.setCell ⟨w.heap.size + 1, 0, none⟩ (.slice x.p.a x.p.l.length x.p.c)).setCell ⟨w.heap.size + 1, 1, none⟩ (.int .i64 x.o)).setCell ⟨w.heap.size + 1 + 1, 0, none⟩ (.slice y.p.a y.p.l.length y.p.c)).setCell ⟨w.heap.size + 1 + 1, 1, none⟩ (.int .i64 y.o)).frozen? ⟨w.heap.size + 1 + 1, 0, none⟩ = false := by rw [World.frozen?_setCell, World.frozen?_setCell, World.frozen?_setCell, World.frozen?_setCell]; exact ef0
  have f3 : ((((w3.setCell ⟨w.heap.size + 1, 0, none⟩ (.slice x.p.a x.p.l.length x.p.c)).setCell ⟨w.heap.size + 1, 1, none⟩ (.int .i64 x.o)).setCell ⟨w.heap.size + 1 + 1, 0, none⟩ (.slice y.p.a y.p.l.length y.p.c)).setCell ⟨w.heap.size + 1 + 1, 1, none⟩ (.int .i64 y.o)).frozen? ⟨w.heap.size + 1 + 1, 1, none⟩ = false := by rw [World.frozen?_setCell, World.frozen?_setCell, World.frozen?_setCell, World.frozen?_setCell]; exact ef1
  have hxW : x.In ((((w3.setCell ⟨w.heap.size + 1, 0, none⟩ (.slice x.p.a x.p.l.length x.p.c)).setCell ⟨w.heap.size + 1, 1, none⟩ (.int .i64 x.o)).setCell ⟨w.heap.size + 1 + 1, 0, none⟩ (.slice y.p.a y.p.l.length y.p.c)).setCell ⟨w.heap.size + 1 + 1, 1, none⟩ (.int .i64 y.o)) w1.heap.size ((((w3.setCell ⟨w.heap.size + 1, 0, none⟩ (.slice x.p.a x.p.l.length x.p.c)).setCell ⟨w.heap.size + 1, 1, none⟩ (.int .i64 x.o)).setCell ⟨w.heap.size + 1 + 1, 0, none⟩ (.slice y.p.a y.p.l.length y.p.c)).setCell ⟨w.heap.size + 1 + 1, 1, none⟩ (.int .i64 y.o)).heap.size := IntsIn.mono (IntsIn.agree (hx.grew g3 (Nat.le_refl _)) (kW.agree z3 (fun j h1 h2 => by show ¬ (j = _ ∨ j = _); omega))) (by omega) (by omega)
  have hyW : y.In ((((w3.setCell ⟨w.heap.size + 1, 0, none⟩ (.slice x.p.a x.p.l.length x.p.c)).setCell ⟨w.heap.size + 1, 1, none⟩ (.int .i64 x.o)).setCell ⟨w.heap.size + 1 + 1, 0, none⟩ (.slice y.p.a y.p.l.length y.p.c)).setCell ⟨w.heap.size + 1 + 1, 1, none⟩ (.int .i64 y.o)) w1.heap.size ((((w3.setCell ⟨w.heap.size + 1, 0, none⟩ (.slice x.p.a x.p.l.length x.p.c)).setCell ⟨w.heap.size + 1, 1, none⟩ (.int .i64 x.o)).setCell ⟨w.heap.size + 1 + 1, 0, none⟩ (.slice y.p.a y.p.l.length y.p.c)).setCell ⟨w.heap.size + 1 + 1, 1, none⟩ (.int .i64 y.o)).heap.size := IntsIn.mono (IntsIn.agree hy (kW.agree (Nat.le_refl _) (fun j h1 h2 => by show ¬ (j = _ ∨ j = _); omega))) (by omega) (by omega)
  clear d0 d1 df0 df1 e0 e1 ef0 ef1 e0' e1' n12 kW KB KD hx hy g10 g2 g12 g3 g13
  generalize ((((w3.setCell ⟨w.heap.size + 1, 0, none⟩ (.slice x.p.a x.p.l.length x.p.c)).setCell ⟨w.heap.size + 1, 1, none⟩ (.int .i64 x.o)).setCell ⟨w.heap.size + 1 + 1, 0, none⟩ (.slice y.p.a y.p.l.length y.p.c)).setCell ⟨w.heap.size + 1 + 1, 1, none⟩ (.int .i64 y.o)) = W at *
  have CC := Lib.hid (pointCmp_any y x W (hyW.mono (Nat.zero_le _) (Nat.le_refl _)) (by rw [show y.p.l = y.er.p from rfl, hye.out]; exact HL2.out) (hxW.mono (Nat.zero_le _) (Nat.le_refl _)) (by rw [show x.p.l = x.er.p from rfl, hxe.out]; exact HL1.out))
  rw [hxe.out, hye.out] at CC
  have HO : Hid (ordT pe qe = if ptCmp qe pe < 0 then (qe, pe, true) else (pe, qe, false)) := rfl
  generalize ptCmp qe pe = r at *
  have hzW : w.heap.size + 1 + 1 < W.heap.size := by omega
  have HIN := Lib.hid (fun (F : World) (hk : Keeps (fun k => k = w.heap.size + 1 ∨ k = w.heap.size + 2) W F) => (⟨IntsIn.mono (IntsIn.agree hxW (hk.agree (Nat.le_refl _) (fun j h1 h2 => by show ¬ (j = _ ∨ j = _); omega))) (by omega) hk.size, IntsIn.mono (IntsIn.agree hyW (hk.agree (Nat.le_refl _) (fun j h1 h2 => by show ¬ (j = _ ∨ j = _); omega))) (by omega) hk.size⟩ : x.In F w.heap.size F.heap.size ∧ y.In F w.heap.size F.heap.size))
  clear hxW hyW
  by_cases hr : r < 0
  · have HN : Hid (ordT pe qe = (qe, pe, true)) := by show _ = _; rw [HO.out, if_pos hr]
    go_wp2_with fail
    refine CC.out.mono ?_
    rintro e F ⟨rfl, gF⟩
    have ht : decide (r < 0) = true := by simpa using hr
    have KF := (⟨(gF.cell (p := ⟨w.heap.size + 1, 0, none⟩) (by show w.heap.size + 1 < _; omega)).trans r0, (gF.cell (p := ⟨w.heap.size + 1, 1, none⟩) (by show w.heap.size + 1 < _; omega)).trans r1, (gF.cell (p := ⟨w.heap.size + 1 + 1, 0, none⟩) hzW).trans s0, (gF.cell (p := ⟨w.heap.size + 1 + 1, 1, none⟩) hzW).trans s1⟩ : _ ∧ _ ∧ _ ∧ _)
    have KG := (⟨(gF.frozen (p := ⟨w.heap.size + 1, 0, none⟩) (by show w.heap.size + 1 < _; omega)).trans f0, (gF.frozen (p := ⟨w.heap.size + 1, 1, none⟩) (by show w.heap.size + 1 < _; omega)).trans f1, (gF.frozen (p := ⟨w.heap.size + 1 + 1, 0, none⟩) hzW).trans f2, (gF.frozen (p := ⟨w.heap.size + 1 + 1, 1, none⟩) hzW).trans f3⟩ : _ ∧ _ ∧ _ ∧ _)
    clear r0 r1 s0 s1 f0 f1 f2 f3 CC
    obtain ⟨r0, r1, s0, s1⟩ := KF
    obtain ⟨f0, f1, f2, f3⟩ := KG
    have HPUT := Lib.hid (put22 (.slice y.p.a y.p.l.length y.p.c) (.int .i64 y.o) (.slice x.p.a x.p.l.length x.p.c) (.int .i64 x.o) (show w.heap.size + 1 ≠ w.heap.size + 1 + 1 by omega) r0 r1 s0 s1)
    go_wp2_with fail
    obtain ⟨p0, p1, p2, p3⟩ := HPUT.out
    have kF := (((((gF.keeps (fun k => k = w.heap.size + 1 ∨ k = w.heap.size + 2)).put (Or.inl rfl) 0 (.slice y.p.a y.p.l.length y.p.c)).put (Or.inl rfl) 1 (.int .i64 y.o)).put (Or.inr rfl) 0 (.slice x.p.a x.p.l.length x.p.c)).put (Or.inr rfl) 1 (.int .i64 x.o))
    have GF : Grew w _ := GW.keep kF (fun k hk => by omega)
    obtain ⟨hx, hy⟩ := HIN.out _ kF
    clear HPUT HIN kF r0 r1 s0 s1
    generalize ((((F.setCell ⟨w.heap.size + 1, 0, none⟩ (.slice y.p.a y.p.l.length y.p.c)).setCell ⟨w.heap.size + 1, 1, none⟩ (.int .i64 y.o)).setCell ⟨w.heap.size + 1 + 1, 0, none⟩ (.slice x.p.a x.p.l.length x.p.c)).setCell ⟨w.heap.size + 1 + 1, 1, none⟩ (.int .i64 x.o)) = Z at *
    refine bodyPost_ret (v := .tuple #[.agg #[.slice y.p.a y.p.l.length y.p.c, .int .i64 y.o], .agg #[.slice x.p.a x.p.l.length x.p.c, .int .i64 x.o], .bool true]) (by simp [results, Try.results64, go_sem, p0, p1, p2, p3]) rfl ?_
    exact ⟨y, x, by rw [HN.out], GF, hy, hx, by rw [HN.out]; exact hye, by rw [HN.out]; exact hxe⟩
  · have HN : Hid (ordT pe qe = (pe, qe, false)) := by show _ = _; rw [HO.out, if_neg hr]
    have ht : decide (r < 0) = false := by simpa using hr
    go_wp2_with fail
    refine CC.out.mono ?_
    rintro e F ⟨rfl, gF⟩
    have KF := (⟨(gF.cell (p := ⟨w.heap.size + 1, 0, none⟩) (by show w.heap.size + 1 < _; omega)).trans r0, (gF.cell (p := ⟨w.heap.size + 1, 1, none⟩) (by show w.heap.size + 1 < _; omega)).trans r1, (gF.cell (p := ⟨w.heap.size + 1 + 1, 0, none⟩) hzW).trans s0, (gF.cell (p := ⟨w.heap.size + 1 + 1, 1, none⟩) hzW).trans s1⟩ : _ ∧ _ ∧ _ ∧ _)
    have KG := (⟨(gF.frozen (p := ⟨w.heap.size + 1, 0, none⟩) (by show w.heap.size + 1 < _; omega)).trans f0, (gF.frozen (p := ⟨w.heap.size + 1, 1, none⟩) (by show w.heap.size + 1 < _; omega)).trans f1, (gF.frozen (p := ⟨w.heap.size + 1 + 1, 0, none⟩) hzW).trans f2, (gF.frozen (p := ⟨w.heap.size + 1 + 1, 1, none⟩) hzW).trans f3⟩ : _ ∧ _ ∧ _ ∧ _)
    clear r0 r1 s0 s1 f0 f1 f2 f3 CC
    go_upto_region 4 with fail
    obtain ⟨r0, r1, s0, s1⟩ := KF
    obtain ⟨f0, f1, f2, f3⟩ := KG
    have HP1 := Lib.hid (put22 (.slice x.p.a x.p.l.length x.p.c) (.int .i64 x.o) (.slice y.p.a y.p.l.length y.p.c) (.int .i64 y.o) (show w.heap.size + 1 ≠ w.heap.size + 1 + 1 by omega) r0 r1 s0 s1)
    go_region
    obtain ⟨p0, p1, p2, p3⟩ := HP1.out
    have kF := (((((gF.keeps (fun k => k = w.heap.size + 1 ∨ k = w.heap.size + 2)).put (Or.inl rfl) 0 (.slice x.p.a x.p.l.length x.p.c)).put (Or.inl rfl) 1 (.int .i64 x.o)).put (Or.inr rfl) 0 (.slice y.p.a y.p.l.length y.p.c)).put (Or.inr rfl) 1 (.int .i64 y.o)).drew
    have GF : Grew w _ := GW.keep kF (fun k hk => by omega)
    obtain ⟨hx, hy⟩ := HIN.out _ kF
    have q0 : (World.drew ((((F.setCell ⟨w.heap.size + 1, 0, none⟩ (.slice x.p.a x.p.l.length x.p.c)).setCell ⟨w.heap.size + 1, 1, none⟩ (.int .i64 x.o)).setCell ⟨w.heap.size + 1 + 1, 0, none⟩ (.slice y.p.a y.p.l.length y.p.c)).setCell ⟨w.heap.size + 1 + 1, 1, none⟩ (.int .i64 y.o))).cell? ⟨w.heap.size + 1, 0, none⟩ = some (.slice x.p.a x.p.l.length x.p.c) := p0
    have q1 : (World.drew ((((F.setCell ⟨w.heap.size + 1, 0, none⟩ (.slice x.p.a x.p.l.length x.p.c)).setCell ⟨w.heap.size + 1, 1, none⟩ (.int .i64 x.o)).setCell ⟨w.heap.size + 1 + 1, 0, none⟩ (.slice y.p.a y.p.l.length y.p.c)).setCell ⟨w.heap.size + 1 + 1, 1, none⟩ (.int .i64 y.o))).cell? ⟨w.heap.size + 1, 1, none⟩ = some (.int .i64 x.o) := p1
    have q2 : (World.drew ((((F.setCell ⟨w.heap.size + 1, 0, none⟩ (.slice x.p.a x.p.l.length x.p.c)).setCell ⟨w.heap.size + 1, 1, none⟩ (.int .i64 x.o)).setCell ⟨w.heap.size + 1 + 1, 0, none⟩ (.slice y.p.a y.p.l.length y.p.c)).setCell ⟨w.heap.size + 1 + 1, 1, none⟩ (.int .i64 y.o))).cell? ⟨w.heap.size + 1 + 1, 0, none⟩ = some (.slice y.p.a y.p.l.length y.p.c) := p2
    have q3 : (World.drew ((((F.setCell ⟨w.heap.size + 1, 0, none⟩ (.slice x.p.a x.p.l.length x.p.c)).setCell ⟨w.heap.size + 1, 1, none⟩ (.int .i64 x.o)).setCell ⟨w.heap.size + 1 + 1, 0, none⟩ (.slice y.p.a y.p.l.length y.p.c)).setCell ⟨w.heap.size + 1 + 1, 1, none⟩ (.int .i64 y.o))).cell? ⟨w.heap.size + 1 + 1, 1, none⟩ = some (.int .i64 y.o) := p3
    clear HP1 HIN kF r0 r1 s0 s1 p0 p1 p2 p3
    generalize World.drew ((((F.setCell ⟨w.heap.size + 1, 0, none⟩ (.slice x.p.a x.p.l.length x.p.c)).setCell ⟨w.heap.size + 1, 1, none⟩ (.int .i64 x.o)).setCell ⟨w.heap.size + 1 + 1, 0, none⟩ (.slice y.p.a y.p.l.length y.p.c)).setCell ⟨w.heap.size + 1 + 1, 1, none⟩ (.int .i64 y.o)) = Z at *
    clear f0 f1 f2 f3
    go_wp2_with fail
    refine bodyPost_ret (v := .tuple #[.agg #[.slice x.p.a x.p.l.length x.p.c, .int .i64 x.o], .agg #[.slice y.p.a y.p.l.length y.p.c, .int .i64 y.o], .bool false]) (by simp [results, Try.results64, go_sem, q0, q1, q2, q3]) rfl ?_
    exact ⟨x, y, by rw [HN.out], GF, hx, hy, by rw [HN.out]; exact hxe, by rw [HN.out]; exact hye⟩
end Go.Proofs.Ytgnlgfkolbecmaa
