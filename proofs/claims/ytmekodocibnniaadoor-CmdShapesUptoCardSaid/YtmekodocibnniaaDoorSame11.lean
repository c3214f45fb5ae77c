/- redlineref07.Same, SameSel; redlineref11.Same: of what says the same they say so. -/
import Derived.Test.YtmekodocibnniaaDoorOpL
import Derived.Test.YtmekodocibnniaaDoorR02
import Derived.Test.YtmekodocibnniaaDoorSame
namespace Go.Proofs.YtmekodocibnniaaDoor
open Go Go.RowKit

theorem same02_true (a b : Option Addr) (c d : Nat) (xs : List Int) (w w' : World) (hx : IntsIn w 0 w.heap.size a c xs) (hy : IntsIn w 0 w.heap.size b d xs) (hl : xs.length ≤ 1048576) (hg : Grew w w') :
    Calls Tryd.prog 16 #[.slice a xs.length c, .slice b xs.length d] w' fun e w'' => e = .returned (.bool true) ∧ Grew w' w'' := by
  have h := same02_any a b c d xs xs w' _ _ _ _ (hx.grew hg (Nat.le_refl _)) (hy.grew hg (Nat.le_refl _)) hl hl hg.size hg.size
  rw [decide_eq_true rfl] at h
  exact h
theorem sameProps_true (a b : Option Addr) (c d : Nat) (xs : List PropL) (w w' : World) (hx : PropsIn w 0 w.heap.size a c xs) (hy : PropsIn w 0 w.heap.size b d xs) (hl : xs.length ≤ 1048576) (hg : Grew w w') :
    Calls Tryd.prog 41 #[.slice a xs.length c, .slice b xs.length d] w' fun e w'' => e = .returned (.bool true) ∧ Grew w' w'' := by
  have h := refSame01_any a b c d xs xs w' _ _ _ _ (hx.grew hg (Nat.le_refl _)) (hy.grew hg (Nat.le_refl _)) hl hl hg.size hg.size
  rw [decide_eq_true rfl] at h
  exact h
theorem sameText_true (a b : Option Addr) (c d : Nat) (xs : List Int) (w w' : World) (hx : RunesIn w 0 w.heap.size a c xs) (hy : RunesIn w 0 w.heap.size b d xs) (hl : xs.length ≤ 1048576) (hg : Grew w w') :
    Calls Tryd.prog 42 #[.slice a xs.length c, .slice b xs.length d] w' fun e w'' => e = .returned (.bool true) ∧ Grew w' w'' := by
  have h := same03_any a b c d xs xs w' _ _ _ _ (hx.grew hg (Nat.le_refl _)) (hy.grew hg (Nat.le_refl _)) hl hl hg.size hg.size
  rw [decide_eq_true rfl] at h
  exact h
theorem sameNode_true (n m : NT) (w w' : World) (hn : n.In w 0 w.heap.size) (hm : m.In w 0 w.heap.size) (he : n.er = m.er) (hb : n.er.bulk ≤ 1048576) (hg : Grew w w') :
    Calls Tryd.prog 40 #[n.val, m.val] w' fun e w'' => e = .returned (.bool true) ∧ Grew w' w'' := by
  have h := refSame04_any n m w' (NT.Ok.grew hn hg) (NT.Ok.grew hm hg) hb (by rw [← he]; exact hb)
  rw [decide_eq_true he] at h
  exact h

set_option maxHeartbeats 1000000 in
theorem ptSame_any (x y : PtL) (w w0 : World) (hx : x.In w 0 w.heap.size) (hy : y.In w 0 w.heap.size) (he : x.er = y.er) (hl : x.p.l.length ≤ 1048576) (hg0 : Grew w w0) :
    Calls Tryd.prog 48 #[.agg #[.slice x.p.a x.p.l.length x.p.c, .int .i64 x.o], .agg #[.slice y.p.a y.p.l.length y.p.c, .int .i64 y.o]] w0 fun e w' => e = .returned (.bool true) ∧ Grew w0 w' := by
  have e1 : x.p.l = y.p.l := congrArg PtE.p he
  have e2 : x.o = y.o := congrArg PtE.o he
  obtain ⟨⟨xa, xc, xl⟩, xo⟩ := x
  obtain ⟨⟨ya, yc, yl⟩, yo⟩ := y
  simp only at e1 e2 hl
  subst e1 e2
  have S := Lib.hid (fun w' (hg : Grew w w') => same02_true xa ya xc yc xl w w' hx hy hl hg)
  have ht : (xo == xo) = true := by simp
  clear he hx hy
  go_enter Tryd.func48, Tryd.ntmps48
  go_wp2_with fail
  refine (S.out _ (hg0.trans ((Grew.alloc1 _ _).alloc _))).mono ?_
  rintro e w1 ⟨rfl, g1⟩
  go_wp2_with fail
  go_ret
  exact ⟨rfl, ((Grew.alloc1 _ _).alloc _).trans g1⟩

/-- two boxes: their cells -/
theorem boxes_at {w w1 : World} {cs ds : Array Value} {t u : TypeId} (g : Grew ((w.alloc (.cells cs t)).alloc (.cells ds u)) w1) : (∀ j v, cs[j]? = some v → w1.cell? ⟨w.heap.size, j, none⟩ = some v) ∧ (∀ j v, ds[j]? = some v → w1.cell? ⟨w.heap.size + 1, j, none⟩ = some v) := by
  refine ⟨fun j v h => box_at ((Grew.alloc1 _ _).trans g) h, fun j v h => ?_⟩
  have := box_at g h
  rw [World.size_alloc] at this
  exact this

set_option maxHeartbeats 1000000 in
theorem selSame_any (x y : SelL) (w w0 : World) (hx : x.In w 0 w.heap.size) (hy : y.In w 0 w.heap.size) (he : x.er = y.er) (hl : x.a.p.l.length ≤ 1048576 ∧ x.f.p.l.length ≤ 1048576) (hg0 : Grew w w0) :
    Calls Tryd.prog 43 #[.agg #[.bool x.is, .slice x.a.p.a x.a.p.l.length x.a.p.c, .int .i64 x.a.o, .slice x.f.p.a x.f.p.l.length x.f.p.c, .int .i64 x.f.o], .agg #[.bool y.is, .slice y.a.p.a y.a.p.l.length y.a.p.c, .int .i64 y.a.o, .slice y.f.p.a y.f.p.l.length y.f.p.c, .int .i64 y.f.o]] w0 fun e w' => e = .returned (.bool true) ∧ Grew w0 w' := by
  have e0 : x.is = y.is := congrArg SelE.is he
  have S1 := Lib.hid (fun w' (hg : Grew w w') => ptSame_any x.a y.a w w' hx.1 hy.1 (congrArg SelE.a he) hl.1 hg)
  have S2 := Lib.hid (fun w' (hg : Grew w w') => ptSame_any x.f y.f w w' hx.2 hy.2 (congrArg SelE.f he) hl.2 hg)
  have ht : (x.is == y.is) = true := by simp [e0]
  clear he hx hy hl e0
  generalize x.is = xi at *
  generalize y.is = yi at *
  generalize x.a = xa at *
  generalize y.a = ya at *
  generalize x.f = xf at *
  generalize y.f = yf at *
  have HB := Lib.hid (fun w' (g : Grew ((w0.alloc (.cells #[.bool xi, .slice xa.p.a xa.p.l.length xa.p.c, .int .i64 xa.o, .slice xf.p.a xf.p.l.length xf.p.c, .int .i64 xf.o] 45)).alloc (.cells #[.bool yi, .slice ya.p.a ya.p.l.length ya.p.c, .int .i64 ya.o, .slice yf.p.a yf.p.l.length yf.p.c, .int .i64 yf.o] 45)) w') => boxes_at g)
  go_enter Tryd.func43, Tryd.ntmps43
  go_wp2_with fail
  refine (S1.out _ (hg0.trans ((Grew.alloc1 _ _).alloc _))).mono ?_
  rintro e w1 ⟨rfl, g1⟩
  have c3 := (HB.out _ g1).1 3 _ rfl
  have c4 := (HB.out _ g1).1 4 _ rfl
  have d3 := (HB.out _ g1).2 3 _ rfl
  have d4 := (HB.out _ g1).2 4 _ rfl
  go_wp2_with fail
  refine (S2.out _ (hg0.trans (((Grew.alloc1 _ _).alloc _).trans g1))).mono ?_
  rintro e w2 ⟨rfl, g2⟩
  go_wp2_with fail
  go_ret
  exact ⟨rfl, (((Grew.alloc1 _ _).alloc _).trans g1).trans g2⟩
end Go.Proofs.YtmekodocibnniaaDoor
