/- redlinelaw14.HoldAdds, where what it reads is of bulk at most 1048576: the call returns true, and each argument reads as it did. CONDITIONS: the row's own alone. -/
import Derived.Test.YtgnlgfkolbecmaaHoldAdds
import Derived.Test.YtgnlgfkolbecmaaOpenRefs
import Derived.Test.YtgnlgfkolbecmaaOpen
import Derived.Test.YtgnlgfkolbecmaaPost
namespace Go.Proofs.Ytgnlgfkolbecmaa.holdAdds
open Go.ChangeShapes Go.WideShapes Go.ChangeAt Go.RowKit
open Go.ChangeMaps (open_string shut_string)

theorem own : ownKnob Try.prog.godebug = none := by kernel_rfl

set_option maxRecDepth 100000 in
theorem contract (H : Type) (enc : TypeId × Value → H) (W : World) (base : Nat) (args : Array Value) (ds gs : List (DataW H)) (before : List MemPlace)
    (hval : ∀ (j : Nat) t v, Try.f3.params[j]? = some t → args[j]? = some v → Value.okWide Try.prog W .any base t v)
    (hW : DataW.Whole enc Try.prog Try.f3.params.toList Rows.holdAddsSpec.vars false W args.toList ds gs before) (hk : Rows.uptoSmall H (ds ++ gs) = true) :
    Calls Try.prog 3 args W fun e W' => ∃ v, e = .returned v ∧ Rows.holdAddsSpec.post enc Try.prog Try.f3 false true false false W args v W' := by
  have hW' := hW
  obtain ⟨p, q, hA0, hV, rfl, hfz, hnd⟩ := hW
  have hA : DataW.TrodAll enc Try.prog W 0 (fun _ => true) true Try.f3.params.toList args.toList ds p := hA0
  rw [Try.params3] at hA hval
  obtain ⟨v0, vs0, d0, ds0, p0, q0, hargs, rfl, rfl, h0, r0⟩ := trodAll_cons hA
  obtain ⟨v1, vs1, d1, ds1, p1, q1, rfl, rfl, rfl, h1, r1⟩ := trodAll_cons r0
  obtain ⟨v2, vs2, d2, ds2, p2, q2, rfl, rfl, rfl, h2, r2⟩ := trodAll_cons r1
  obtain ⟨v3, vs3, d3, ds3, p3, q3, rfl, rfl, rfl, h3, r3⟩ := trodAll_cons r2
  obtain ⟨rfl, rfl, rfl⟩ := trodAll_nil r3
  obtain rfl : args = #[v0, v1, v2, v3] := by cases args; simp_all
  obtain ⟨rfl, rfl⟩ := trodVars_none hV
  have hbk : Rows.uptoBulkAll [d0, d1, d2, d3] ≤ 1048576 := of_decide_eq_true hk
  simp only [Rows.uptoBulkAll] at hbk
  obtain ⟨fuel0, hf0⟩ := h0
  obtain ⟨cs0, rfl, _⟩ := okWide_struct Try.underlying26 (hval 0 26 v0 rfl rfl)
  obtain ⟨n0, hcs0, hok0, hb0'⟩ := open_node fuel0 _ _ hf0
  have hb0 : n0.er.bulk ≤ Rows.uptoBulk d0 := hb0'
  have hv0 : Value.agg cs0 = n0.val := by
    obtain ⟨l⟩ := cs0
    simp only [Value.cells] at hcs0
    subst hcs0
    rfl
  obtain ⟨fuel1, hf1⟩ := h1
  obtain ⟨a1, c1, l1, rfl, hok1, hb1'⟩ := open_refs (hval 1 27 v1 rfl rfl) hf1
  have hs1 := refs_small (m := Rows.uptoBulk d1) hb1' (by omega)
  obtain ⟨x2, rfl, rfl, rfl, hw2⟩ := open_int Try.underlying3 (hval 2 3 v2 rfl rfl) h2
  obtain ⟨fuel3, hf3⟩ := h3
  obtain ⟨cs3, rfl, _⟩ := okWide_struct Try.underlying34 (hval 3 34 v3 rfl rfl)
  obtain ⟨x3, hv3, hok3, hb3'⟩ := open_refV hf3
  have hb3 : 1 + (x3.path.l.length + x3.pt.p.l.length + x3.a.p.l.length + x3.f.p.l.length) ≤ Rows.uptoBulk d3 := hb3'
  have hs3 : x3.er.Small := ⟨by show x3.path.l.length ≤ _; omega, by show x3.pt.p.l.length ≤ _; omega, by show x3.a.p.l.length ≤ _; omega, by show x3.f.p.l.length ≤ _; omega⟩
  rw [hv0, hv3] at hW' ⊢
  have hpos0 := T.bulk_pos n0.er
  refine (holdAdds_any n0 a1 c1 l1 x2 x3 W hok0 (by omega) hok1 hs1.2 hs1.1 hok3 hs3).mono fun e W' ⟨he, hg⟩ => ?_
  exact ⟨_, he, post_law (tb := 4) (by kernel_rfl) (by
    intro t ht
    rw [Try.params3] at ht
    simp only [List.mem_cons, List.mem_nil_iff, or_false] at ht
    rcases ht with rfl | rfl | rfl | rfl
    all_goals exact ⟨by kernel_rfl, of_decide_eq_true (by kernel_rfl)⟩) hW' rfl rfl Try.underlying4 rfl rfl rfl hg⟩

set_option maxRecDepth 100000 in
theorem lifted (os : Os) (started : os.Started) (H : Type) (enc : TypeId × Value → H) (F : Stop.Interp) :
    ReturnsInHanded {} Try.checked os 3 .any ((Rows.OpenSpec.upto Rows.holdAddsSpec).pre6 enc Try.prog Try.f3 Rows.holdAddsUptoRow.domain false) (((Rows.OpenSpec.upto Rows.holdAddsSpec).at F).post enc Try.prog Try.f3 false true false false) := by
  refine returnsInHanded_of_cond (C := Try.checked) (s := Rows.OpenSpec.upto Rows.holdAddsSpec) (k := Rows.uptoSmall) rfl own started (by kernel_rfl) Try.func3
    (OpenSpec.witness (enc := enc) (C := Try.checked) (s := Rows.OpenSpec.upto Rows.holdAddsSpec) (k := Rows.uptoSmall) rfl false ⟨#[], #[.agg #[.bool false, .slice none 0 0, .slice none 0 0, .slice none 0 0], .slice none 0 0, .int .i64 0, .agg #[.int .i64 0, .int .i64 0, .int .i64 0, .bool false, .slice none 0 0, .slice none 0 0, .int .i64 0, .slice none 0 0, .int .i64 0, .slice none 0 0, .int .i64 0]], []⟩ 8 (by kernel_rfl) (by kernel_rfl) (by kernel_rfl)
      (x := ([.agg [.lit (.bool false), .nil, .nil, .nil], .nil, .lit (.int .i64 0), .agg [.lit (.int .i64 0), .lit (.int .i64 0), .lit (.int .i64 0), .lit (.bool false), .nil, .agg [.nil, .lit (.int .i64 0)], .agg [.agg [.nil, .lit (.int .i64 0)], .agg [.nil, .lit (.int .i64 0)]]]], [], [])) (by kernel_rfl) rfl (by kernel_rfl)) ?_
  intro W base args ds gs before hval hW _ hk _
  exact contract H enc W base args ds gs before hval hW hk

theorem proved : Rows.HoldAddsUptoSaid :=
  OpenClaim.holds_of_cond 3 Try.f3 rfl rfl rfl rfl rfl rfl rfl ⟨rfl, rfl, rfl, rfl, rfl⟩ rfl rfl rfl rfl rfl (by kernel_rfl) Try.func3 (by kernel_rfl)
    (of_decide_eq_true (by kernel_rfl)) (by unfold Func.isWrapper; rw [if_neg (of_decide_eq_false (by kernel_rfl))]; exact ⟨rfl, rfl⟩)
    (fun os started H enc _ F => lifted os started H enc F)
#print axioms proved
end Go.Proofs.Ytgnlgfkolbecmaa.holdAdds
