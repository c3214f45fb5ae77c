/- A SCHEMA THAT CAN BE READ IS A LOCATED SCHEMA. -/
import Derived.Test.YtnkmcbhpmbjkpaaSch
import Derived.Test.YtnkmcbhpmbjkpaaOpen
namespace Go.Proofs.Ytnkmcbhpmbjkpaa
open Go Go.ChangeShapes Go.WideShapes Go.ChangeAt Go.RowKit

theorem cellsAct : Try.prog.cellsOf 24 = 2 := by kernel_rfl
theorem cellsInt : Try.prog.cellsOf 3 = 1 := by kernel_rfl
theorem cellsPair : Try.prog.cellsOf 73 = 3 := by kernel_rfl
theorem cellsRule : Try.prog.cellsOf 27 = 8 := by kernel_rfl
theorem cellsSchema : Try.prog.cellsOf 30 = 16 := by kernel_rfl
theorem cellsPairs : Try.prog.cellsOf 25 = 1 := by kernel_rfl
theorem cellsRules : Try.prog.cellsOf 22 = 1 := by kernel_rfl
theorem cellsOrder : Try.prog.cellsOf 28 = 6 := by kernel_rfl

section
variable {H : Type} {enc : TypeId × Value → H} {w : World} {base : Nat} {spare : Nat → Bool} {held : Bool}

set_option maxRecDepth 100000 in
theorem open_act {m : Nat} {cs : List Value} {y : DataW H × List MemPlace} (h : DataW.trod enc Try.prog w base spare held m 24 cs = some y) :
    ∃ a : ActL, cs = [.int .i64 a.1, .string a.2] ∧ a.2.size ≤ Rows.uptoBulk y.1 := by
  obtain ⟨xs, n, _, rfl, hlen, hxs, hf⟩ := DataW.trod_struct Try.underlying24 h
  rw [cellsAct] at hlen
  match cs, hlen with
  | [c0, c1], _ =>
    match xs, hxs with
    | [y0, y1], _ =>
      have h0 : DataW.trod enc Try.prog w base spare held n 3 [c0] = some y0 := by have := hf 0 _ rfl; simpa [cellsInt] using this
      have h1 : DataW.trod enc Try.prog w base spare held n 9 [c1] = some y1 := by have := hf 1 _ rfl; simpa [cellsString] using this
      obtain ⟨s0, e0, rfl, _⟩ := DataW.trod_int Try.underlying3 h0
      obtain ⟨s1, e1, rfl, _⟩ := DataW.trod_string Try.underlying9 h1
      simp only [List.cons.injEq, and_true] at e0 e1
      subst e0 e1
      refine ⟨(s0, s1), rfl, ?_⟩
      have l1 : s1.data.toList.length = s1.size := by rw [Array.length_toList]; rfl
      simp only [List.map_cons, List.map_nil, Rows.uptoBulk, Rows.uptoBulkAll]
      omega
def pairCells (p : PairL) : List Value := [.string p.1, .int .i64 p.2.1, .string p.2.2]
set_option maxRecDepth 100000 in
theorem open_pair {m : Nat} {cs : List Value} {y : DataW H × List MemPlace} (h : DataW.trod enc Try.prog w base spare held m 73 cs = some y) :
    ∃ p : PairL, cs = pairCells p ∧ 1 ≤ Rows.uptoBulk y.1 := by
  obtain ⟨xs, n, _, rfl, hlen, hxs, hf⟩ := DataW.trod_struct Try.underlying73 h
  rw [cellsPair] at hlen
  match cs, hlen with
  | [c0, c1, c2], _ =>
    match xs, hxs with
    | [y0, y1], _ =>
      have h0 : DataW.trod enc Try.prog w base spare held n 9 [c0] = some y0 := by have := hf 0 _ rfl; simpa [cellsString] using this
      have h1 : DataW.trod enc Try.prog w base spare held n 24 [c1, c2] = some y1 := by have := hf 1 _ rfl; simpa [cellsAct] using this
      obtain ⟨s0, e0, rfl, _⟩ := DataW.trod_string Try.underlying9 h0
      obtain ⟨a, e1, _⟩ := open_act h1
      simp only [List.cons.injEq, and_true] at e0 e1
      obtain ⟨e1, e2⟩ := e1
      subst e0 e1 e2
      exact ⟨(s0, a), rfl, by simp only [List.map_cons, List.map_nil, Rows.uptoBulk, Rows.uptoBulkAll]; omega⟩
set_option maxRecDepth 100000 in
theorem open_rule {m : Nat} {cs : List Value} {y : DataW H × List MemPlace} (h : DataW.trod enc Try.prog w base spare held m 27 cs = some y) :
    ∃ r : RN, cs = r.cells ∧ r.In w 0 w.heap.size ∧ 1 + r.kids.length ≤ Rows.uptoBulk y.1 := by
  obtain ⟨xs, n, _, rfl, hlen, hxs, hf⟩ := DataW.trod_struct Try.underlying27 h
  rw [cellsRule] at hlen
  match cs, hlen with
  | [c0, c1, c2, c3, c4, c5, c6, c7], _ =>
    match xs, hxs with
    | [y0, y1, y2, y3, y4, y5], _ =>
      have h0 : DataW.trod enc Try.prog w base spare held n 9 [c0] = some y0 := by have := hf 0 _ rfl; simpa [cellsString] using this
      have h1 : DataW.trod enc Try.prog w base spare held n 24 [c1, c2] = some y1 := by have := hf 1 _ rfl; simpa [cellsAct] using this
      have h2 : DataW.trod enc Try.prog w base spare held n 24 [c3, c4] = some y2 := by have := hf 2 _ rfl; simpa [cellsAct] using this
      have h3 : DataW.trod enc Try.prog w base spare held n 25 [c5] = some y3 := by have := hf 3 _ rfl; simpa [cellsPairs] using this
      have h4 : DataW.trod enc Try.prog w base spare held n 3 [c6] = some y4 := by have := hf 4 _ rfl; simpa [cellsInt] using this
      have h5 : DataW.trod enc Try.prog w base spare held n 9 [c7] = some y5 := by have := hf 5 _ rfl; simpa [cellsString] using this
      obtain ⟨s0, e0, rfl, _⟩ := DataW.trod_string Try.underlying9 h0
      obtain ⟨a1, e1, _⟩ := open_act h1
      obtain ⟨a2, e2, _⟩ := open_act h2
      obtain ⟨ka, kc, l, D, e3, hx, hD, hq, hrow⟩ := open_list pairCells (fun _ d => 1 ≤ Rows.uptoBulk d) Try.underlying25 cellsPair (by decide) (fun m cs y _ h => open_pair h) h3
      obtain ⟨s4, e4, rfl, _⟩ := DataW.trod_int Try.underlying3 h4
      obtain ⟨s5, e5, rfl, _⟩ := DataW.trod_string Try.underlying9 h5
      simp only [List.cons.injEq, and_true] at e0 e1 e2 e3 e4 e5
      obtain ⟨e1, e1'⟩ := e1
      obtain ⟨e2, e2'⟩ := e2
      subst e0 e1 e1' e2 e2' e3 e4 e5
      refine ⟨⟨s0, a1.1, a1.2, a2.1, a2.2, ka, kc, l, s4, s5⟩, rfl, ?_, ?_⟩
      · refine ⟨hrow.1, fun hn => ?_⟩
        obtain ⟨b, o, h1, h2, h3, hc⟩ := hrow.2 hn
        refine ⟨b, o, h1, h2, h3, fun i hi j hj => ?_⟩
        rw [hc i hi j hj]
        match j, hj with
        | 0, _ => rfl
        | 1, _ => rfl
        | 2, _ => rfl
      · have hs := bulkAll_ge (fun _ : PairL => 1) l D hD hq
        have hl : ∀ l : List PairL, (l.map fun _ : PairL => 1).sum = l.length := fun l => by
          induction l with
          | nil => rfl
          | cons p r ih => rw [List.map_cons, List.sum_cons, ih, List.length_cons]; omega
        rw [hl] at hs
        have h3b : l.length ≤ Rows.uptoBulk y3.1 := by
          rcases hx with ⟨hx, rfl⟩ | ⟨sp, hx⟩
          · have : l = [] := List.length_eq_zero_iff.1 (by simpa using hD.symm)
            subst this; simp
          · rw [hx]; simp only [Rows.uptoBulk]; omega
        simp only [List.map_cons, List.map_nil, Rows.uptoBulk, Rows.uptoBulkAll]
        omega
def schCells (s : SN) : List Value := [.slice s.ra s.rules.length s.rc, .string s.els.ty, .int .i64 s.els.td, .string s.els.tt, .int .i64 s.els.od, .string s.els.ot, .slice s.els.ka s.els.kids.length s.els.kc, .int .i64 s.els.fill, .string s.els.ft, .int .i64 s.o0, .int .i64 s.o1, .int .i64 s.o2, .int .i64 s.o3, .int .i64 s.o4, .int .i64 s.o5, .int .i64 s.cap]
theorem open_int1 {m : Nat} {c : Value} {y : DataW H × List MemPlace} (h : DataW.trod enc Try.prog w base spare held m 3 [c] = some y) : ∃ x : Int, c = .int .i64 x := by
  obtain ⟨s4, e4, _, _⟩ := DataW.trod_int Try.underlying3 h
  simp only [List.cons.injEq, and_true] at e4
  exact ⟨s4, e4⟩
set_option maxRecDepth 100000 in
theorem open_sch {m : Nat} {cs : List Value} {y : DataW H × List MemPlace} (h : DataW.trod enc Try.prog w base spare held m 30 cs = some y) (hb : Rows.uptoBulk y.1 ≤ 1048576) :
    ∃ s : SN, cs = schCells s ∧ s.Ok w ∧ s.Small := by
  obtain ⟨xs, n, _, rfl, hlen, hxs, hf⟩ := DataW.trod_struct Try.underlying30 h
  rw [cellsSchema] at hlen
  match cs, hlen with
  | [c0, c1, c2, c3, c4, c5, c6, c7, c8, c9, c10, c11, c12, c13, c14, c15], _ =>
    match xs, hxs with
    | [y0, y1, y2, y3], _ =>
      have h0 : DataW.trod enc Try.prog w base spare held n 22 [c0] = some y0 := by have := hf 0 _ rfl; simpa [cellsRules] using this
      have h1 : DataW.trod enc Try.prog w base spare held n 27 [c1, c2, c3, c4, c5, c6, c7, c8] = some y1 := by have := hf 1 _ rfl; simpa [cellsRule] using this
      have h2 : DataW.trod enc Try.prog w base spare held n 28 [c9, c10, c11, c12, c13, c14] = some y2 := by have := hf 2 _ rfl; simpa [cellsOrder] using this
      have h3 : DataW.trod enc Try.prog w base spare held n 3 [c15] = some y3 := by have := hf 3 _ rfl; simpa [cellsInt] using this
      obtain ⟨ra, rc, l, D, e0, hx, hD, hq, hrow⟩ := open_list RN.cells (fun r d => r.In w 0 w.heap.size ∧ 1 + r.kids.length ≤ Rows.uptoBulk d) Try.underlying22 cellsRule (by decide) (fun m cs y _ h => open_rule h) h0
      obtain ⟨r, e1, hr, hrb⟩ := open_rule h1
      obtain ⟨zs, k, _, rfl2, _, hz, hzf⟩ := DataW.trod_array Try.underlying28 h2
      match zs, hz with
      | [z0, z1, z2, z3, z4, z5], _ =>
        have a0 : DataW.trod enc Try.prog w base spare held k 3 [c9] = some z0 := by have := hzf 0 (by omega); simpa [cellsInt] using this
        have a1 : DataW.trod enc Try.prog w base spare held k 3 [c10] = some z1 := by have := hzf 1 (by omega); simpa [cellsInt] using this
        have a2 : DataW.trod enc Try.prog w base spare held k 3 [c11] = some z2 := by have := hzf 2 (by omega); simpa [cellsInt] using this
        have a3 : DataW.trod enc Try.prog w base spare held k 3 [c12] = some z3 := by have := hzf 3 (by omega); simpa [cellsInt] using this
        have a4 : DataW.trod enc Try.prog w base spare held k 3 [c13] = some z4 := by have := hzf 4 (by omega); simpa [cellsInt] using this
        have a5 : DataW.trod enc Try.prog w base spare held k 3 [c14] = some z5 := by have := hzf 5 (by omega); simpa [cellsInt] using this
        obtain ⟨o0, rfl⟩ := open_int1 a0
        obtain ⟨o1, rfl⟩ := open_int1 a1
        obtain ⟨o2, rfl⟩ := open_int1 a2
        obtain ⟨o3, rfl⟩ := open_int1 a3
        obtain ⟨o4, rfl⟩ := open_int1 a4
        obtain ⟨o5, rfl⟩ := open_int1 a5
        obtain ⟨cp, rfl⟩ := open_int1 h3
        have hbl := bulkAll_ge (fun r : RN => 1 + r.kids.length) l D hD (fun i hi => by obtain ⟨d, h1, _, h3⟩ := hq i hi; exact ⟨d, h1, h3⟩)
        have h0b : (l.map fun r : RN => 1 + r.kids.length).sum ≤ Rows.uptoBulk y0.1 := by
          rcases hx with ⟨hx, rfl⟩ | ⟨sp, hx⟩
          · have : l = [] := List.length_eq_zero_iff.1 (by simpa using hD.symm)
            subst this; simp
          · rw [hx]; simp only [Rows.uptoBulk]; omega
        simp only [List.map_cons, List.map_nil, Rows.uptoBulk, Rows.uptoBulkAll] at hb
        have hll : ∀ l : List RN, l.length ≤ (l.map fun r : RN => 1 + r.kids.length).sum ∧ ∀ r ∈ l, r.kids.length ≤ (l.map fun r : RN => 1 + r.kids.length).sum := by
          intro l
          induction l with
          | nil => exact ⟨by simp, fun r h => by cases h⟩
          | cons x r ih =>
            refine ⟨by simp only [List.map_cons, List.sum_cons, List.length_cons]; omega, fun q hq => ?_⟩
            simp only [List.map_cons, List.sum_cons]
            rcases List.mem_cons.1 hq with rfl | hq
            · omega
            · have := ih.2 q hq; omega
        simp only [RN.cells, List.cons.injEq, and_true] at e0 e1
        obtain ⟨rfl, rfl, rfl, rfl, rfl, rfl, rfl, rfl⟩ := e1
        subst e0
        refine ⟨⟨ra, rc, l, r, o0, o1, o2, o3, o4, o5, cp⟩, rfl, ⟨⟨?_, fun q hq2 => ?_⟩, hr⟩, ⟨by have := (hll l).1; show l.length ≤ _; omega, fun q hq => by have := (hll l).2 q hq; omega, by show r.kids.length ≤ _; omega⟩⟩
        · refine ⟨hrow.1, fun hn => ?_⟩
          obtain ⟨b, o, h1, h2, h3, hc⟩ := hrow.2 hn
          refine ⟨b, o, h1, h2, h3, fun i hi j hj => ?_⟩
          refine (hc i hi j hj).trans ?_
          match j, hj with
          | 0, _ => rfl
          | 1, _ => rfl
          | 2, _ => rfl
          | 3, _ => rfl
          | 4, _ => rfl
          | 5, _ => rfl
          | 6, _ => rfl
          | 7, _ => rfl
        · obtain ⟨i, hi, rfl⟩ := List.getElem_of_mem hq2
          obtain ⟨d, _, hd, _⟩ := hq i hi
          rw [getD_lt l i hi] at hd; exact hd
end
end Go.Proofs.Ytnkmcbhpmbjkpaa
