/- THE LAW redlinelaw04.NodeSame: the contract. -/
import Derived.Test.YtdobncickipjjaaLive
import Derived.Test.YtdobncickipjjaaLeft
import Derived.Test.YtdobncickipjjaaSame
namespace Go.Proofs.Ytdobncickipjjaa
open Go Go.RowKit

set_option maxHeartbeats 2000000 in
theorem nodeSameLaw_any (n m : NT) (w : World) (hn : n.Ok w) (hbn : n.er.bulk ≤ 1048576) (hm : m.Ok w) (hbm : m.er.bulk ≤ 1048576) :
    Calls Try.prog 5 #[n.val, m.val] w fun e w' => e = .returned (.bool true) ∧ Grew w w' := by
  have FN := Lib.hid (fun w hn => few_any n w 200 hn hbn (by omega) (by omega))
  have FM := Lib.hid (fun w hn => few_any m w 200 hn hbm (by omega) (by omega))
  have SAB := Lib.hid (fun w1 (hg : Grew w w1) => nodeSame_any n m w1 (hn.grew hg) (hm.grew hg) hbn hbm)
  have RAB := Lib.hid (fun w1 (hg : Grew w w1) => refSame04_any n m w1 (hn.grew hg) (hm.grew hg) hbn hbm)
  have SBA := Lib.hid (fun w1 (hg : Grew w w1) => nodeSame_any m n w1 (hm.grew hg) (hn.grew hg) hbm hbn)
  have SAA := Lib.hid (fun w1 (hg : Grew w w1) => nodeSame_any n n w1 (hn.grew hg) (hn.grew hg) hbn hbn)
  have e1 : decide (m.er = n.er) = decide (n.er = m.er) := by rw [decide_eq_decide]; exact ⟨fun h => h.symm, fun h => h.symm⟩
  have e2 : decide (n.er = n.er) = true := by simp
  rw [e1] at SBA
  rw [e2] at SAA
  clear e1 e2
  have gb : ∀ o1 o2, Grew w ((w.alloc o1).alloc o2) := fun o1 o2 => ((Grew.refl w).alloc o1).alloc o2
  cases hf : few n.er 200 with
  | false =>
    rw [hf] at FN
    clear hf SAB RAB SBA SAA
    unfold NT.val
    go_enter Try.func5, Try.ntmps5
    go_wp2_with fail
    refine (live04_any _).mono ?_
    rintro e w1 ⟨rfl, g1⟩
    have g1' := (gb _ _).trans g1
    have C := Lib.hid (FN.out w1 (hn.grew g1'))
    obtain ⟨c0, c1, c2, c3, z1⟩ := box4 ((Grew.alloc1 _ _).trans g1)
    go_wp2_with fail
    refine C.out.mono ?_
    rintro e w2 ⟨rfl, g2⟩
    go_wp2_with fail
    go_ret
    exact ⟨rfl, g1'.trans g2⟩
  | true =>
    rw [hf] at FN
    clear hf
    cases hf : few m.er 200 with
    | false =>
      rw [hf] at FM
      clear hf SAB RAB SBA SAA
      unfold NT.val
      go_enter Try.func5, Try.ntmps5
      go_wp2_with fail
      refine (live04_any _).mono ?_
      rintro e w1 ⟨rfl, g1⟩
      have g1' := (gb _ _).trans g1
      have C := Lib.hid (FN.out w1 (hn.grew g1'))
      obtain ⟨c0, c1, c2, c3, z1⟩ := box4 ((Grew.alloc1 _ _).trans g1)
      go_wp2_with fail
      refine C.out.mono ?_
      rintro e w2 ⟨rfl, g2⟩
      have C := Lib.hid (FM.out w2 (hm.grew (g1'.trans g2)))
      obtain ⟨d0, d1, d2, d3⟩ := box2 (g1.trans g2)
      go_wp2_with fail
      refine C.out.mono ?_
      rintro e w3 ⟨rfl, g3⟩
      go_wp2_with fail
      go_ret
      exact ⟨rfl, g1'.trans (g2.trans g3)⟩
    | true =>
      rw [hf] at FM
      clear hf
      generalize decide (n.er = m.er) = ab at *
      unfold NT.val
      cases ab
      all_goals
        go_enter Try.func5, Try.ntmps5
        go_wp2_with fail
        refine (live04_any _).mono ?_
        rintro e w1 ⟨rfl, g1⟩
        have g1' := (gb _ _).trans g1
        have C := Lib.hid (FN.out w1 (hn.grew g1'))
        obtain ⟨c0, c1, c2, c3, z1⟩ := box4 ((Grew.alloc1 _ _).trans g1)
        go_wp2_with fail
        refine C.out.mono ?_
        rintro e w2 ⟨rfl, g2⟩
        have C := Lib.hid (FM.out w2 (hm.grew (g1'.trans g2)))
        obtain ⟨d0, d1, d2, d3⟩ := box2 (g1.trans g2)
        go_wp2_with fail
        refine C.out.mono ?_
        rintro e w3 ⟨rfl, g3⟩
        have G3 := g1'.trans (g2.trans g3)
        clear c0 c1 c2 c3 d0 d1 d2 d3
        go_wp2_with fail
        have q0 : ∀ x : Later w3, x.v.cell? ⟨w.heap.size, 0, none⟩ = some (.bool n.lf) := fun x => (box4 ((Grew.alloc1 _ _).trans (g1.trans (g2.trans (g3.trans x.g))))).1
        have q1 : ∀ x : Later w3, x.v.cell? ⟨w.heap.size, 1, none⟩ = some (.slice n.pa n.ps.length n.pc) := fun x => (box4 ((Grew.alloc1 _ _).trans (g1.trans (g2.trans (g3.trans x.g))))).2.1
        have q2 : ∀ x : Later w3, x.v.cell? ⟨w.heap.size, 2, none⟩ = some (.slice n.ta n.ts.length n.tc) := fun x => (box4 ((Grew.alloc1 _ _).trans (g1.trans (g2.trans (g3.trans x.g))))).2.2.1
        have q3 : ∀ x : Later w3, x.v.cell? ⟨w.heap.size, 3, none⟩ = some (.slice n.ka n.ks.length n.kc) := fun x => (box4 ((Grew.alloc1 _ _).trans (g1.trans (g2.trans (g3.trans x.g))))).2.2.2.1
        have r0 : ∀ x : Later w3, x.v.cell? ⟨w.heap.size + 1, 0, none⟩ = some (.bool m.lf) := fun x => (box2 (g1.trans (g2.trans (g3.trans x.g)))).1
        have r1 : ∀ x : Later w3, x.v.cell? ⟨w.heap.size + 1, 1, none⟩ = some (.slice m.pa m.ps.length m.pc) := fun x => (box2 (g1.trans (g2.trans (g3.trans x.g)))).2.1
        have r2 : ∀ x : Later w3, x.v.cell? ⟨w.heap.size + 1, 2, none⟩ = some (.slice m.ta m.ts.length m.tc) := fun x => (box2 (g1.trans (g2.trans (g3.trans x.g)))).2.2.1
        have r3 : ∀ x : Later w3, x.v.cell? ⟨w.heap.size + 1, 3, none⟩ = some (.slice m.ka m.ks.length m.kc) := fun x => (box2 (g1.trans (g2.trans (g3.trans x.g)))).2.2.2
        have S1 := Lib.hid (fun x : Later w3 => SAB.out x.v (G3.trans x.g))
        have S2 := Lib.hid (fun x : Later w3 => RAB.out x.v (G3.trans x.g))
        have S3 := Lib.hid (fun x : Later w3 => SBA.out x.v (G3.trans x.g))
        have S4 := Lib.hid (fun x : Later w3 => SAA.out x.v (G3.trans x.g))
        unfold NT.val at S1 S2 S3 S4
        refine wp_region_later (by kernel_rfl) (by kernel_rfl) ?_
        repeat (go_big_quiet_step (first | with_reducible exact calls_later (S1.out _) | with_reducible exact calls_later (S2.out _) | with_reducible exact calls_later (S3.out _) | with_reducible exact calls_later (S4.out _)))
        refine wpQuiet_nil ?_
        rintro _ ⟨x, rfl⟩
        go_wp2_with fail
        go_ret
        exact ⟨rfl, G3.trans x.g⟩
end Go.Proofs.Ytdobncickipjjaa
