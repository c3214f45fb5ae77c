/- THE LAW redlinelaw04.NodeTypes: the contract. -/
import Derived.Test.YtdobncickipjjaaLive
import Derived.Test.YtdobncickipjjaaLeft
import Derived.Test.YtdobncickipjjaaProps
namespace Go.Proofs.Ytdobncickipjjaa
open Go Go.RowKit

/-- the same node as a leaf, as an element -/
def NT.as (n : NT) (lf : Bool) : NT := .mk lf n.pa n.pc n.ps n.ta n.tc n.ts n.ka n.kc n.ks
theorem NT.as_ok {n : NT} {w : World} {lf : Bool} (h : n.Ok w) : (n.as lf).Ok w := by
  have := NT.In_iff.1 h
  exact NT.Ok.of this.1 this.2.1 this.2.2
theorem NT.as_bulk (n : NT) (lf : Bool) : (n.as lf).er.bulk = n.er.bulk := by
  simp [T.bulk_eq, NT.as]
theorem none_empty : ({ data := #[] } : ByteArray).toList.isEmpty = true := by kernel_rfl

/-- the second of two boxes -/
theorem box2 {w w1 : World} {c0 c1 c2 c3 : Value} {o : Obj} {t : TypeId} (g : Grew ((w.alloc o).alloc (.cells #[c0, c1, c2, c3] t)) w1) :
    w1.cell? ⟨w.heap.size + 1, 0, none⟩ = some c0 ∧ w1.cell? ⟨w.heap.size + 1, 1, none⟩ = some c1 ∧ w1.cell? ⟨w.heap.size + 1, 2, none⟩ = some c2 ∧ w1.cell? ⟨w.heap.size + 1, 3, none⟩ = some c3 := by
  have h := box4 g
  simp only [World.size_alloc] at h
  exact ⟨h.1, h.2.1, h.2.2.1, h.2.2.2.1⟩

set_option maxHeartbeats 1000000 in
theorem nodeTypes_any (n : NT) (w : World) (hn : n.Ok w) (hb : n.er.bulk ≤ 1048576) :
    Calls Try.prog 4 #[n.val] w fun e w' => e = .returned (.bool true) ∧ Grew w w' := by
  have FW := Lib.hid (fun w hn => few_any n w 200 hn hb (by omega) (by omega))
  have hi := NT.In_iff.1 hn
  have hlens := n.lens
  have l1 : n.ps.length ≤ 1048576 := by omega
  clear hlens
  cases hf : few n.er 200 with
  | false =>
    rw [hf] at FW
    clear hf
    unfold NT.val
    go_enter Try.func4, Try.ntmps4
    go_wp2_with fail
    refine (live04_any _).mono ?_
    rintro e w1 ⟨rfl, g1⟩
    have g1' := (Grew.alloc1 _ _).trans g1
    have C := Lib.hid (FW.out w1 (hn.grew g1'))
    obtain ⟨c0, c1, c2, c3, z1⟩ := box4 g1
    go_wp2_with fail
    refine C.out.mono ?_
    rintro e w2 ⟨rfl, g2⟩
    go_wp2_with fail
    go_ret
    exact ⟨rfl, g1'.trans g2⟩
  | true =>
    rw [hf] at FW
    clear hf
    have GT := Lib.hid (fun w' (hg : Grew w w') => get_any n.ps n.pa n.pc typeKey w' _ _ (hi.1.grew hg (Nat.le_refl _)) hg.size l1)
    have TL := Lib.hid (fun w' (hg : Grew w w') => type_any (n.as true) w' (NT.as_ok (hn.grew hg)) (by rw [NT.as_bulk]; exact hb))
    have TE := Lib.hid (fun w' (hg : Grew w w') => type_any (n.as false) w' (NT.as_ok (hn.grew hg)) (by rw [NT.as_bulk]; exact hb))
    have e1 : (n.as true).er.type = { data := #[] } := by simp [T.type, NT.as]; rfl
    have e2 : (n.as false).er.type = (getP typeKey n.ps).getD .empty := by simp [T.type, NT.as]
    rw [e1] at TL
    rw [e2] at TE
    clear e1 e2
    cases hg : getP typeKey n.ps with
    | none =>
      rw [hg] at GT TE
      clear hg
      have e3 : (none : Option ByteArray).getD .empty = { data := #[] } := rfl
      rw [e3] at GT TE
      clear e3
      unfold NT.val
      go_enter Try.func4, Try.ntmps4
      go_wp2_with fail
      refine (live04_any _).mono ?_
      rintro e w1 ⟨rfl, g1⟩
      have g1' := (Grew.alloc1 _ _).trans g1
      have C := Lib.hid (FW.out w1 (hn.grew g1'))
      obtain ⟨c0, c1, c2, c3, z1⟩ := box4 g1
      go_wp2_with fail
      refine C.out.mono ?_
      rintro e w2 ⟨rfl, g2⟩
      clear c0 c1 c2 c3 C FW
      obtain ⟨c0, c1, c2, c3, z2⟩ := box4 (g1.trans g2)
      have C := Lib.hid (GT.out w2 (g1'.trans g2))
      go_wp2_with fail
      refine C.out.mono ?_
      rintro e w3 ⟨rfl, g3⟩
      clear c0 c1 c2 c3 C GT
      obtain ⟨c0, c1, c2, c3, z3⟩ := box4 ((g1.trans g2).trans g3)
      have g3' := (g1'.trans g2).trans g3
      go_wp2_with fail
      refine (TL.out _ ((g3'.alloc _).alloc _)).mono ?_
      rintro e w4 ⟨rfl, g4⟩
      clear c0 c1 c2 c3
      have hz : w3.heap.size + 1 < w4.heap.size := by have := g4.size; simp at this; omega
      obtain ⟨d0, d1, d2, d3⟩ := box2 g4
      have g4' := ((g3'.alloc _).alloc _).trans g4
      have ne := none_empty
      go_wp2_with fail
      refine (TE.out _ g4').mono ?_
      rintro e w5 ⟨rfl, g5⟩
      go_wp2_with fail
      go_ret
      exact ⟨ret_bool rfl, g4'.trans g5⟩
    | some v =>
      rw [hg] at GT TE
      clear hg
      unfold NT.val
      go_enter Try.func4, Try.ntmps4
      go_wp2_with fail
      refine (live04_any _).mono ?_
      rintro e w1 ⟨rfl, g1⟩
      have g1' := (Grew.alloc1 _ _).trans g1
      have C := Lib.hid (FW.out w1 (hn.grew g1'))
      obtain ⟨c0, c1, c2, c3, z1⟩ := box4 g1
      go_wp2_with fail
      refine C.out.mono ?_
      rintro e w2 ⟨rfl, g2⟩
      clear c0 c1 c2 c3 C FW
      obtain ⟨c0, c1, c2, c3, z2⟩ := box4 (g1.trans g2)
      have C := Lib.hid (GT.out w2 (g1'.trans g2))
      go_wp2_with fail
      refine C.out.mono ?_
      rintro e w3 ⟨rfl, g3⟩
      clear c0 c1 c2 c3 C GT
      obtain ⟨c0, c1, c2, c3, z3⟩ := box4 ((g1.trans g2).trans g3)
      have g3' := (g1'.trans g2).trans g3
      go_wp2_with fail
      refine (TL.out _ ((g3'.alloc _).alloc _)).mono ?_
      rintro e w4 ⟨rfl, g4⟩
      clear c0 c1 c2 c3
      have hz : w3.heap.size + 1 < w4.heap.size := by have := g4.size; simp at this; omega
      obtain ⟨d0, d1, d2, d3⟩ := box2 g4
      have g4' := ((g3'.alloc _).alloc _).trans g4
      have ne := none_empty
      go_wp2_with fail
      refine (TE.out _ g4').mono ?_
      rintro e w5 ⟨rfl, g5⟩
      go_wp2_with fail
      go_ret
      exact ⟨ret_bool (by simp), g4'.trans g5⟩
end Go.Proofs.Ytdobncickipjjaa
