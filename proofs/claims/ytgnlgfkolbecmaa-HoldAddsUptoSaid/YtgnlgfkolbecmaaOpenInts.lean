/- A DATUM READ AS A LIST OF ints (a path). -/
import Derived.Test.YtgnlgfkolbecmaaOpen
import Derived.Test.YtgnlgfkolbecmaaInts
namespace Go.Proofs.Ytgnlgfkolbecmaa
open Go Go.RowKit Go.ChangeShapes Go.WideShapes Go.ChangeAt
theorem cellsInt : Try.prog.cellsOf 3 = 1 := by kernel_rfl
section
variable {H : Type} {enc : TypeId × Value → H} {w : World} {base : Nat} {spare : Nat → Bool} {held : Bool}
theorem open_ints {m : Nat} {cs : List Value} {x : DataW H × List MemPlace} (h : DataW.trod enc Try.prog w base spare held m 28 cs = some x) :
    ∃ a c ts, cs = [.slice a ts.length c] ∧ IntsIn w 0 w.heap.size a c ts ∧ ts.length ≤ Rows.uptoBulk x.1 ∧ ∀ r ∈ ts, -9223372036854775808 ≤ r ∧ r ≤ 9223372036854775807 := by
  obtain ⟨a, c, l, D, rfl, hx, hD, hq, hrow⟩ := open_list (fun r : Int => [Value.int .i64 r]) (fun r d => (-9223372036854775808 ≤ r ∧ r ≤ 9223372036854775807) ∧ 1 ≤ Rows.uptoBulk d) Try.underlying28 cellsInt (by decide) (fun m cs y _ h => by
    obtain ⟨r, rfl, rfl, hw⟩ := DataW.trod_int Try.underlying3 h
    refine ⟨r, rfl, ?_, by simp [Rows.uptoBulk]⟩
    have hmin : IntKind.i64.min = -9223372036854775808 := rfl
    have hmax : IntKind.i64.max = 9223372036854775807 := rfl
    simp only [Lit.wf, Bool.and_eq_true, decide_eq_true_eq] at hw
    omega) h
  refine ⟨a, c, l, rfl, ?_, ?_, ?_⟩
  · refine ⟨hrow.1, fun hn => ?_⟩
    obtain ⟨b, o, h1, h2, h3, hc⟩ := hrow.2 hn
    refine ⟨b, o, h1, h2, h3, fun i hi j hj => ?_⟩
    rw [hc i hi j hj]
    obtain rfl : j = 0 := by omega
    rfl
  · have hs := bulkAll_ge (fun _ : Int => 1) l D hD (fun i hi => by obtain ⟨d, h1, _, h3⟩ := hq i hi; exact ⟨d, h1, h3⟩)
    rw [sum_ones] at hs
    rcases hx with ⟨hx, rfl⟩ | ⟨sp, hx⟩
    · have : l = [] := List.length_eq_zero_iff.1 (by simpa using hD.symm)
      subst this; simp
    · rw [hx]; simp only [Rows.uptoBulk]; omega
  · intro r hr
    obtain ⟨i, hi, rfl⟩ := List.getElem_of_mem hr
    obtain ⟨d, _, hd, _⟩ := hq i hi
    simpa [List.getD, List.getElem?_eq_getElem hi] using hd
set_option maxRecDepth 100000 in
theorem open_intsV {fuel : Nat} {r : Reach} {base2 : Nat} {v : Value} {x : DataW H × List MemPlace} (hv : Value.okWide Try.prog w r base2 28 v) (h : DataW.trod enc Try.prog w base spare held fuel 28 v.cells.toList = some x) :
    ∃ a c ts, v = .slice a ts.length c ∧ IntsIn w 0 w.heap.size a c ts ∧ ts.length ≤ Rows.uptoBulk x.1 ∧ ∀ r ∈ ts, -9223372036854775808 ≤ r ∧ r ≤ 9223372036854775807 := by
  obtain ⟨a, n, c, rfl⟩ := okWide_slice_shape Try.underlying28 hv
  obtain ⟨a', c', ts, h1, h2, h3, h4⟩ := open_ints h
  simp only [Value.cells, List.cons.injEq, and_true] at h1
  exact ⟨a', c', ts, h1, h2, h3, h4⟩
end
end Go.Proofs.Ytgnlgfkolbecmaa
