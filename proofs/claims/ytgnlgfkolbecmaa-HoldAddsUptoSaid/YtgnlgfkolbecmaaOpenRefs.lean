/- A DATUM READ AS A REF, AND AS A LIST OF REFS. -/
import Derived.Test.YtgnlgfkolbecmaaOpenInts
import Derived.Test.YtgnlgfkolbecmaaRefL
namespace Go.Proofs.Ytgnlgfkolbecmaa
open Go Go.RowKit Go.ChangeShapes Go.WideShapes Go.ChangeAt
theorem cellsPath : Try.prog.cellsOf 28 = 1 := by kernel_rfl
theorem cellsPoint : Try.prog.cellsOf 30 = 2 := by kernel_rfl
theorem cellsRange : Try.prog.cellsOf 32 = 4 := by kernel_rfl
theorem cellsRef : Try.prog.cellsOf 34 = 11 := by kernel_rfl
section
variable {H : Type} {enc : TypeId × Value → H} {w : World} {base : Nat} {spare : Nat → Bool} {held : Bool}
set_option maxRecDepth 100000 in
theorem open_intR {m : Nat} {c : Value} {y : DataW H × List MemPlace} (h : DataW.trod enc Try.prog w base spare held m 3 [c] = some y) : ∃ x : Int, c = .int .i64 x := by
  obtain ⟨s4, e4, _, _⟩ := DataW.trod_int Try.underlying3 h
  simp only [List.cons.injEq, and_true] at e4
  exact ⟨s4, e4⟩
set_option maxRecDepth 100000 in
theorem open_point {m : Nat} {cs : List Value} {y : DataW H × List MemPlace} (h : DataW.trod enc Try.prog w base spare held m 30 cs = some y) :
    ∃ p : PtL, cs = [.slice p.p.a p.p.l.length p.p.c, .int .i64 p.o] ∧ p.In w 0 w.heap.size ∧ p.p.l.length ≤ Rows.uptoBulk y.1 := by
  obtain ⟨xs, n, _, rfl, hlen, hxs, hf⟩ := DataW.trod_struct Try.underlying30 h
  rw [cellsPoint] at hlen
  match cs, hlen with
  | [c0, c1], _ =>
    match xs, hxs with
    | [y0, y1], _ =>
      have h0 : DataW.trod enc Try.prog w base spare held n 28 [c0] = some y0 := by have := hf 0 _ rfl; simpa [cellsPath] using this
      have h1 : DataW.trod enc Try.prog w base spare held n 3 [c1] = some y1 := by have := hf 1 _ rfl; simpa [cellsInt] using this
      obtain ⟨a, c, l, e0, hl, hb, _⟩ := open_ints h0
      obtain ⟨o, e1⟩ := open_intR h1
      simp only [List.cons.injEq, and_true] at e0
      subst e0 e1
      refine ⟨⟨⟨a, c, l⟩, o⟩, rfl, hl, ?_⟩
      simp only [List.map_cons, List.map_nil, Rows.uptoBulk, Rows.uptoBulkAll]
      omega
set_option maxRecDepth 100000 in
theorem open_ref {m : Nat} {cs : List Value} {y : DataW H × List MemPlace} (h : DataW.trod enc Try.prog w base spare held m 34 cs = some y) :
    ∃ r : RefL, cs = r.cells ∧ r.In w 0 w.heap.size ∧ 1 + (r.path.l.length + r.pt.p.l.length + r.a.p.l.length + r.f.p.l.length) ≤ Rows.uptoBulk y.1 := by
  obtain ⟨xs, n, _, rfl, hlen, hxs, hf⟩ := DataW.trod_struct Try.underlying34 h
  rw [cellsRef] at hlen
  match cs, hlen with
  | [c0, c1, c2, c3, c4, c5, c6, c7, c8, c9, c10], _ =>
    match xs, hxs with
    | [y0, y1, y2, y3, y4, y5, y6], _ =>
      have h0 : DataW.trod enc Try.prog w base spare held n 3 [c0] = some y0 := by have := hf 0 _ rfl; simpa [cellsInt] using this
      have h1 : DataW.trod enc Try.prog w base spare held n 3 [c1] = some y1 := by have := hf 1 _ rfl; simpa [cellsInt] using this
      have h2 : DataW.trod enc Try.prog w base spare held n 3 [c2] = some y2 := by have := hf 2 _ rfl; simpa [cellsInt] using this
      have h3 : DataW.trod enc Try.prog w base spare held n 4 [c3] = some y3 := by have := hf 3 _ rfl; simpa [cellsBool] using this
      have h4 : DataW.trod enc Try.prog w base spare held n 28 [c4] = some y4 := by have := hf 4 _ rfl; simpa [cellsPath] using this
      have h5 : DataW.trod enc Try.prog w base spare held n 30 [c5, c6] = some y5 := by have := hf 5 _ rfl; simpa [cellsPoint] using this
      have h6 : DataW.trod enc Try.prog w base spare held n 32 [c7, c8, c9, c10] = some y6 := by have := hf 6 _ rfl; simpa [cellsRange] using this
      obtain ⟨i0, e0⟩ := open_intR h0
      obtain ⟨i1, e1⟩ := open_intR h1
      obtain ⟨i2, e2⟩ := open_intR h2
      obtain ⟨b3, e3, rfl⟩ := DataW.trod_bool Try.underlying4 h3
      obtain ⟨a, c, l, e4, hl, hb, _⟩ := open_ints h4
      obtain ⟨p, e5, hp, hpb⟩ := open_point h5
      obtain ⟨zs, k, _, rfl, _, hz, hzf⟩ := DataW.trod_struct Try.underlying32 h6
      match zs, hz with
      | [z0, z1], _ =>
        have k0 : DataW.trod enc Try.prog w base spare held k 30 [c7, c8] = some z0 := by have := hzf 0 _ rfl; simpa [cellsPoint] using this
        have k1 : DataW.trod enc Try.prog w base spare held k 30 [c9, c10] = some z1 := by have := hzf 1 _ rfl; simpa [cellsPoint] using this
        obtain ⟨pa, e6, ha, hab⟩ := open_point k0
        obtain ⟨pf, e7, hf', hfb⟩ := open_point k1
        simp only [List.cons.injEq, and_true] at e3 e4 e5 e6 e7
        obtain ⟨e5, e5'⟩ := e5
        obtain ⟨e6, e6'⟩ := e6
        obtain ⟨e7, e7'⟩ := e7
        subst e0 e1 e2 e3 e4 e5 e5' e6 e6' e7 e7'
        refine ⟨⟨i0, i1, i2, b3, ⟨a, c, l⟩, p, pa, pf⟩, rfl, ⟨hl, hp, ha, hf'⟩, ?_⟩
        simp only [List.map_cons, List.map_nil, Rows.uptoBulk, Rows.uptoBulkAll]
        omega
set_option maxRecDepth 100000 in
theorem open_refV {fuel : Nat} {cs : Array Value} {x : DataW H × List MemPlace} (h : DataW.trod enc Try.prog w base spare held fuel 34 (Value.agg cs).cells.toList = some x) :
    ∃ r : RefL, Value.agg cs = r.val ∧ r.In w 0 w.heap.size ∧ 1 + (r.path.l.length + r.pt.p.l.length + r.a.p.l.length + r.f.p.l.length) ≤ Rows.uptoBulk x.1 := by
  obtain ⟨r, hc, hr, hb⟩ := open_ref h
  refine ⟨r, ?_, hr, hb⟩
  obtain ⟨l⟩ := cs
  simp only [Value.cells] at hc
  subst hc
  rfl
set_option maxRecDepth 100000 in
theorem open_refs {fuel : Nat} {r : Reach} {base2 : Nat} {v : Value} {x : DataW H × List MemPlace} (hv : Value.okWide Try.prog w r base2 27 v) (h : DataW.trod enc Try.prog w base spare held fuel 27 v.cells.toList = some x) :
    ∃ a c L, v = .slice a L.length c ∧ RefsIn w a c L ∧ (L.map fun r : RefL => 1 + (r.path.l.length + r.pt.p.l.length + r.a.p.l.length + r.f.p.l.length)).sum ≤ Rows.uptoBulk x.1 := by
  obtain ⟨a0, n0, c0, rfl⟩ := okWide_slice_shape Try.underlying27 hv
  obtain ⟨a, c, L, D, h1, hx, hD, hq, hrow⟩ := open_list RefL.cells (fun r d => r.In w 0 w.heap.size ∧ 1 + (r.path.l.length + r.pt.p.l.length + r.a.p.l.length + r.f.p.l.length) ≤ Rows.uptoBulk d) Try.underlying27 cellsRef (by decide) (fun m cs y _ h => open_ref h) h
  simp only [Value.cells, List.cons.injEq, and_true] at h1
  refine ⟨a, c, L, h1, ⟨hrow, fun q hq2 => ?_⟩, ?_⟩
  · obtain ⟨i, hi, rfl⟩ := List.getElem_of_mem hq2
    obtain ⟨d, _, hd, _⟩ := hq i hi
    rw [getD_lt L i hi] at hd; exact hd
  · have hs := bulkAll_ge (fun r : RefL => 1 + (r.path.l.length + r.pt.p.l.length + r.a.p.l.length + r.f.p.l.length)) L D hD (fun i hi => by obtain ⟨d, h1, _, h3⟩ := hq i hi; exact ⟨d, h1, h3⟩)
    rcases hx with ⟨hx, rfl⟩ | ⟨sp, hx⟩
    · have : L = [] := List.length_eq_zero_iff.1 (by simpa using hD.symm)
      subst this; simp
    · rw [hx]; simp only [Rows.uptoBulk]; omega
theorem refs_small {L : List RefL} {m : Nat} (h : (L.map fun r : RefL => 1 + (r.path.l.length + r.pt.p.l.length + r.a.p.l.length + r.f.p.l.length)).sum ≤ m) (hm : m ≤ 1048576) : L.length ≤ 1048576 ∧ ∀ r ∈ L, r.er.Small := by
  have hll : ∀ l : List RefL, l.length ≤ (l.map fun r : RefL => 1 + (r.path.l.length + r.pt.p.l.length + r.a.p.l.length + r.f.p.l.length)).sum ∧ ∀ r ∈ l, 1 + (r.path.l.length + r.pt.p.l.length + r.a.p.l.length + r.f.p.l.length) ≤ (l.map fun r : RefL => 1 + (r.path.l.length + r.pt.p.l.length + r.a.p.l.length + r.f.p.l.length)).sum := by
    intro l
    induction l with
    | nil => exact ⟨by simp, fun r h => by cases h⟩
    | cons x r ih =>
      refine ⟨by simp only [List.map_cons, List.sum_cons, List.length_cons]; omega, fun q hq => ?_⟩
      simp only [List.map_cons, List.sum_cons]
      rcases List.mem_cons.1 hq with rfl | hq
      · omega
      · have := ih.2 q hq; omega
  refine ⟨by have := (hll L).1; omega, fun r hr => ?_⟩
  have := (hll L).2 r hr
  exact ⟨by show r.path.l.length ≤ _; omega, by show r.pt.p.l.length ≤ _; omega, by show r.a.p.l.length ≤ _; omega, by show r.f.p.l.length ≤ _; omega⟩
end
end Go.Proofs.Ytgnlgfkolbecmaa
