/- redlineref11.Same: of operations that say the same it says so. -/
import Derived.Test.YtmekodocibnniaaDoorSame11
namespace Go.Proofs.YtmekodocibnniaaDoor
open Go Go.RowKit

set_option maxHeartbeats 4000000 in
theorem opSame_any (x y : OpL) (w w0 : World) (hx : x.In w 0 w.heap.size) (hy : y.In w 0 w.heap.size) (he : x.er = y.er) (hs : x.er.Small) (hg0 : Grew w w0) :
    Calls Tryd.prog 31 #[x.val, y.val] w0 fun e w' => e = .returned (.bool true) ∧ Grew w0 w' := by
  obtain ⟨⟨hx1, hx2⟩, hx3, hx4, hx5, hx6, hx7, hx8⟩ := hx
  obtain ⟨⟨hy1, hy2⟩, hy3, hy4, hy5, hy6, hy7, hy8⟩ := hy
  obtain ⟨⟨b1, b2⟩, b3, b4, b5, b6, b7, b8⟩ := hs
  have k0 : (x.kind == y.kind) = true := by have : x.kind = y.kind := congrArg OpE.kind he; simpa using this
  have k3 : (x.pos == y.pos) = true := by have : x.pos = y.pos := congrArg OpE.pos he; simpa using this
  have e1 : x.path.l = y.path.l := congrArg OpE.path he
  have e2 : x.dest.l = y.dest.l := congrArg OpE.dest he
  have e4 : x.old = y.old := congrArg OpE.old he
  have e5 : x.new = y.new := congrArg OpE.new he
  have e6 : x.text = y.text := congrArg OpE.text he
  rw [← e1] at hy1
  rw [← e2] at hy2
  rw [← e4] at hy4
  rw [← e5] at hy5
  rw [← e6] at hy6
  have S1 := Lib.hid (fun w' (hg : Grew w w') => same02_true x.path.a y.path.a x.path.c y.path.c x.path.l w w' hx1 hy1 b1 hg)
  have S2 := Lib.hid (fun w' (hg : Grew w w') => same02_true x.dest.a y.dest.a x.dest.c y.dest.c x.dest.l w w' hx2 hy2 b2 hg)
  have S3 := Lib.hid (fun w' (hg : Grew w w') => sameNode_true x.node y.node w w' hx3 hy3 (congrArg OpE.node he) b3 hg)
  have S4 := Lib.hid (fun w' (hg : Grew w w') => sameProps_true x.oa y.oa x.oc y.oc x.old w w' hx4 hy4 b4 hg)
  have S5 := Lib.hid (fun w' (hg : Grew w w') => sameProps_true x.na y.na x.nc y.nc x.new w w' hx5 hy5 b5 hg)
  have S6 := Lib.hid (fun w' (hg : Grew w w') => sameText_true x.xa y.xa x.xc y.xc x.text w w' hx6 hy6 b6 hg)
  have S7 := Lib.hid (fun w' (hg : Grew w w') => selSame_any x.src y.src w w' hx7 hy7 (congrArg OpE.src he) b7 hg)
  have S8 := Lib.hid (fun w' (hg : Grew w w') => selSame_any x.dst y.dst w w' hx8 hy8 (congrArg OpE.dst he) b8 hg)
  rw [e1] at S1
  rw [e2] at S2
  rw [e4] at S4
  rw [e5] at S5
  rw [e6] at S6
  have HB := Lib.hid (fun w' (g : Grew ((w0.alloc (.cells #[.int .i64 x.kind, .slice x.path.a x.path.l.length x.path.c, .slice x.dest.a x.dest.l.length x.dest.c, .int .i64 x.pos, .bool x.node.lf, .slice x.node.pa x.node.ps.length x.node.pc, .slice x.node.ta x.node.ts.length x.node.tc, .slice x.node.ka x.node.ks.length x.node.kc, .slice x.oa x.old.length x.oc, .slice x.na x.new.length x.nc, .slice x.xa x.text.length x.xc, .bool x.src.is, .slice x.src.a.p.a x.src.a.p.l.length x.src.a.p.c, .int .i64 x.src.a.o, .slice x.src.f.p.a x.src.f.p.l.length x.src.f.p.c, .int .i64 x.src.f.o, .bool x.dst.is, .slice x.dst.a.p.a x.dst.a.p.l.length x.dst.a.p.c, .int .i64 x.dst.a.o, .slice x.dst.f.p.a x.dst.f.p.l.length x.dst.f.p.c, .int .i64 x.dst.f.o] 47)).alloc (.cells #[.int .i64 y.kind, .slice y.path.a y.path.l.length y.path.c, .slice y.dest.a y.dest.l.length y.dest.c, .int .i64 y.pos, .bool y.node.lf, .slice y.node.pa y.node.ps.length y.node.pc, .slice y.node.ta y.node.ts.length y.node.tc, .slice y.node.ka y.node.ks.length y.node.kc, .slice y.oa y.old.length y.oc, .slice y.na y.new.length y.nc, .slice y.xa y.text.length y.xc, .bool y.src.is, .slice y.src.a.p.a y.src.a.p.l.length y.src.a.p.c, .int .i64 y.src.a.o, .slice y.src.f.p.a y.src.f.p.l.length y.src.f.p.c, .int .i64 y.src.f.o, .bool y.dst.is, .slice y.dst.a.p.a y.dst.a.p.l.length y.dst.a.p.c, .int .i64 y.dst.a.o, .slice y.dst.f.p.a y.dst.f.p.l.length y.dst.f.p.c, .int .i64 y.dst.f.o] 47)) w') => boxes_at g)
  rw [e1, e2, e4, e5, e6] at HB
  unfold OpL.val
  rw [e1, e2, e4, e5, e6]
  clear he hx1 hx2 hx3 hx4 hx5 hx6 hx7 hx8 hy1 hy2 hy3 hy4 hy5 hy6 hy7 hy8 b1 b2 b3 b4 b5 b6 b7 b8 e1 e2 e4 e5 e6
  unfold NT.val at S3
  go_enter Tryd.func31, Tryd.ntmps31
  go_wp2_with fail
  have G0 := (Grew.alloc1 w0 (.cells #[.int .i64 x.kind, .slice x.path.a y.path.l.length x.path.c, .slice x.dest.a y.dest.l.length x.dest.c, .int .i64 x.pos, .bool x.node.lf, .slice x.node.pa x.node.ps.length x.node.pc, .slice x.node.ta x.node.ts.length x.node.tc, .slice x.node.ka x.node.ks.length x.node.kc, .slice x.oa y.old.length x.oc, .slice x.na y.new.length x.nc, .slice x.xa y.text.length x.xc, .bool x.src.is, .slice x.src.a.p.a x.src.a.p.l.length x.src.a.p.c, .int .i64 x.src.a.o, .slice x.src.f.p.a x.src.f.p.l.length x.src.f.p.c, .int .i64 x.src.f.o, .bool x.dst.is, .slice x.dst.a.p.a x.dst.a.p.l.length x.dst.a.p.c, .int .i64 x.dst.a.o, .slice x.dst.f.p.a x.dst.f.p.l.length x.dst.f.p.c, .int .i64 x.dst.f.o] 47)).alloc (.cells #[.int .i64 y.kind, .slice y.path.a y.path.l.length y.path.c, .slice y.dest.a y.dest.l.length y.dest.c, .int .i64 y.pos, .bool y.node.lf, .slice y.node.pa y.node.ps.length y.node.pc, .slice y.node.ta y.node.ts.length y.node.tc, .slice y.node.ka y.node.ks.length y.node.kc, .slice y.oa y.old.length y.oc, .slice y.na y.new.length y.nc, .slice y.xa y.text.length y.xc, .bool y.src.is, .slice y.src.a.p.a y.src.a.p.l.length y.src.a.p.c, .int .i64 y.src.a.o, .slice y.src.f.p.a y.src.f.p.l.length y.src.f.p.c, .int .i64 y.src.f.o, .bool y.dst.is, .slice y.dst.a.p.a y.dst.a.p.l.length y.dst.a.p.c, .int .i64 y.dst.a.o, .slice y.dst.f.p.a y.dst.f.p.l.length y.dst.f.p.c, .int .i64 y.dst.f.o] 47)
  refine (S1.out _ (hg0.trans G0)).mono ?_
  rintro e w1 ⟨rfl, g1⟩
  have H1 : Hid (Grew _ w1) := g1
  have c2 := (HB.out _ H1.out).1 2 _ rfl
  have d2 := (HB.out _ H1.out).2 2 _ rfl
  go_wp2_with fail
  clear c2 d2
  refine (S2.out _ (hg0.trans (G0.trans H1.out))).mono ?_
  rintro e w2 ⟨rfl, g2⟩
  have H2 : Hid (Grew _ w2) := H1.out.trans g2
  have c3 := (HB.out _ H2.out).1 3 _ rfl
  have d3 := (HB.out _ H2.out).2 3 _ rfl
  have c4 := (HB.out _ H2.out).1 4 _ rfl
  have d4 := (HB.out _ H2.out).2 4 _ rfl
  have c5 := (HB.out _ H2.out).1 5 _ rfl
  have d5 := (HB.out _ H2.out).2 5 _ rfl
  have c6 := (HB.out _ H2.out).1 6 _ rfl
  have d6 := (HB.out _ H2.out).2 6 _ rfl
  have c7 := (HB.out _ H2.out).1 7 _ rfl
  have d7 := (HB.out _ H2.out).2 7 _ rfl
  go_wp2_with fail
  clear c3 d3 c4 d4 c5 d5 c6 d6 c7 d7
  refine (S3.out _ (hg0.trans (G0.trans H2.out))).mono ?_
  rintro e w3 ⟨rfl, g3⟩
  have H3 : Hid (Grew _ w3) := H2.out.trans g3
  have c8 := (HB.out _ H3.out).1 8 _ rfl
  have d8 := (HB.out _ H3.out).2 8 _ rfl
  go_wp2_with fail
  clear c8 d8
  refine (S4.out _ (hg0.trans (G0.trans H3.out))).mono ?_
  rintro e w4 ⟨rfl, g4⟩
  have H4 : Hid (Grew _ w4) := H3.out.trans g4
  have c9 := (HB.out _ H4.out).1 9 _ rfl
  have d9 := (HB.out _ H4.out).2 9 _ rfl
  go_wp2_with fail
  clear c9 d9
  refine (S5.out _ (hg0.trans (G0.trans H4.out))).mono ?_
  rintro e w5 ⟨rfl, g5⟩
  have H5 : Hid (Grew _ w5) := H4.out.trans g5
  have c10 := (HB.out _ H5.out).1 10 _ rfl
  have d10 := (HB.out _ H5.out).2 10 _ rfl
  go_wp2_with fail
  clear c10 d10
  refine (S6.out _ (hg0.trans (G0.trans H5.out))).mono ?_
  rintro e w6 ⟨rfl, g6⟩
  have H6 : Hid (Grew _ w6) := H5.out.trans g6
  have c11 := (HB.out _ H6.out).1 11 _ rfl
  have d11 := (HB.out _ H6.out).2 11 _ rfl
  have c12 := (HB.out _ H6.out).1 12 _ rfl
  have d12 := (HB.out _ H6.out).2 12 _ rfl
  have c13 := (HB.out _ H6.out).1 13 _ rfl
  have d13 := (HB.out _ H6.out).2 13 _ rfl
  have c14 := (HB.out _ H6.out).1 14 _ rfl
  have d14 := (HB.out _ H6.out).2 14 _ rfl
  have c15 := (HB.out _ H6.out).1 15 _ rfl
  have d15 := (HB.out _ H6.out).2 15 _ rfl
  go_wp2_with fail
  clear c11 d11 c12 d12 c13 d13 c14 d14 c15 d15
  refine (S7.out _ (hg0.trans (G0.trans H6.out))).mono ?_
  rintro e w7 ⟨rfl, g7⟩
  have H7 : Hid (Grew _ w7) := H6.out.trans g7
  have c16 := (HB.out _ H7.out).1 16 _ rfl
  have d16 := (HB.out _ H7.out).2 16 _ rfl
  have c17 := (HB.out _ H7.out).1 17 _ rfl
  have d17 := (HB.out _ H7.out).2 17 _ rfl
  have c18 := (HB.out _ H7.out).1 18 _ rfl
  have d18 := (HB.out _ H7.out).2 18 _ rfl
  have c19 := (HB.out _ H7.out).1 19 _ rfl
  have d19 := (HB.out _ H7.out).2 19 _ rfl
  have c20 := (HB.out _ H7.out).1 20 _ rfl
  have d20 := (HB.out _ H7.out).2 20 _ rfl
  go_wp2_with fail
  clear c16 d16 c17 d17 c18 d18 c19 d19 c20 d20
  refine (S8.out _ (hg0.trans (G0.trans H7.out))).mono ?_
  rintro e w8 ⟨rfl, g8⟩
  have H8 : Hid (Grew _ w8) := H7.out.trans g8
  go_wp2_with fail
  go_ret
  exact ⟨rfl, G0.trans H8.out⟩
end Go.Proofs.YtmekodocibnniaaDoor
