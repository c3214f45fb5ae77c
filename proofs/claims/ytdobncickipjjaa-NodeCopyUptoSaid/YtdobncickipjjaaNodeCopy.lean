/- THE LAW redlinelaw04.NodeCopy: the contract. -/
import Derived.Test.YtdobncickipjjaaLive
import Derived.Test.YtdobncickipjjaaLeft
import Derived.Test.YtdobncickipjjaaSame
import Derived.Test.YtdobncickipjjaaCopy
import Derived.Test.YtdobncickipjjaaSpoil
namespace Go.Proofs.Ytdobncickipjjaa
open Go Go.RowKit

set_option maxHeartbeats 2000000 in
theorem nodeCopyLaw_any (n : NT) (w : World) (hn : n.Ok w) (hbn : n.er.bulk ≤ 1048576) :
    Calls Try.prog 6 #[n.val] w fun e w' => e = .returned (.bool true) ∧ Grew w w' := by
  have FN := Lib.hid (fun (x : NT) (hx : x.er = n.er) w (hn : x.Ok w) => few_any x w 200 hn (by rw [hx]; exact hbn) (by omega) (by omega))
  have CN := Lib.hid (fun w1 (hg : Grew w w1) => copy_any n w1 (hn.grew hg) hbn)
  have SN := Lib.hid (fun (x : NT) (hx : x.er = n.er) w1 (h1 : x.Ok w1) (h2 : n.Ok w1) => nodeSame_any x n w1 h1 h2 (by rw [hx]; exact hbn) hbn)
  have SP := Lib.hid (fun (x : NT) (hx : x.er = n.er) w1 lo hi (h1 : x.Own w1 lo hi) (h2 : hi ≤ w1.heap.size) => spoil_any x x.lf w1 w1 lo hi h1 (Like.refl _ _) h2 (by rw [hx]; exact hbn))
  have HN := Lib.hid hn
  have gb : ∀ o1, Grew w (w.alloc o1) := fun o1 => (Grew.refl w).alloc o1
  cases hf : few n.er 200 with
  | false =>
    have FN := Lib.hid (FN.out n rfl)
    rw [hf] at FN
    clear hf CN SN SP
    unfold NT.val
    go_enter Try.func6, Try.ntmps6
    go_wp2_with fail
    refine (live04_any _).mono ?_
    rintro e w1 ⟨rfl, g1⟩
    have g1' := (gb _).trans g1
    have C := Lib.hid (FN.out w1 (hn.grew g1'))
    obtain ⟨c0, c1, c2, c3, z1⟩ := box4 g1
    go_wp2_with fail
    refine C.out.mono ?_
    rintro e w2 ⟨rfl, g2⟩
    go_wp2_with fail
    go_ret
    exact ⟨rfl, g1'.trans g2⟩
  | true =>
    have F2 := Lib.hid (fun (x : NT) (hx : x.er = n.er) w (h : x.Ok w) => (FN.out x hx w h).mono (fun e w' (h' : e = .returned (.bool (few x.er 200)) ∧ Grew w w') => (⟨by rw [h'.1, hx, hf], h'.2⟩ : e = .returned (.bool true) ∧ Grew w w')))
    have S2 := Lib.hid (fun (x : NT) (hx : x.er = n.er) w (h : x.Ok w) (h2 : n.Ok w) => (SN.out x hx w h h2).mono (fun e w' (h' : e = .returned (.bool (decide (x.er = n.er))) ∧ Grew w w') => (⟨by rw [h'.1]; simp [hx], h'.2⟩ : e = .returned (.bool true) ∧ Grew w w')))
    clear hf FN SN
    unfold NT.val
    go_enter Try.func6, Try.ntmps6
    go_wp2_with fail
    refine (live04_any _).mono ?_
    rintro e w1 ⟨rfl, g1⟩
    have g1' := (gb _).trans g1
    have C := Lib.hid (F2.out n rfl w1 (HN.out.grew g1'))
    obtain ⟨c0, c1, c2, c3, z1⟩ := box4 g1
    go_wp2_with fail
    refine C.out.mono ?_
    rintro e w2 ⟨rfl, g2⟩
    have G2 := g1'.trans g2
    have C := Lib.hid (CN.out w2 G2)
    clear c0 c1 c2 c3
    obtain ⟨c0, c1, c2, c3, _⟩ := box4 (g1.trans g2)
    go_wp2_with fail
    refine C.out.mono ?_
    rintro e w3 ⟨x, rfl, g3, hx, hxe⟩
    have HX := Lib.hid hx
    have HXE := Lib.hid hxe
    clear hx hxe
    unfold NT.val
    clear c0 c1 c2 c3
    have c : ∀ w', Grew w2 w' → w'.cell? ⟨w.heap.size, 0, none⟩ = some (.bool n.lf) ∧ w'.cell? ⟨w.heap.size, 1, none⟩ = some (.slice n.pa n.ps.length n.pc) ∧ w'.cell? ⟨w.heap.size, 2, none⟩ = some (.slice n.ta n.ts.length n.tc) ∧ w'.cell? ⟨w.heap.size, 3, none⟩ = some (.slice n.ka n.ks.length n.kc) := fun w' g =>
      have h := box4 ((g1.trans g2).trans g)
      ⟨h.1, h.2.1, h.2.2.1, h.2.2.2.1⟩
    have HB := Lib.hid c
    clear c
    have hz3 : w.heap.size < w3.heap.size := by have := g2.size; have := g3.size; omega
    obtain ⟨c0, c1, c2, c3⟩ := HB.out _ g3
    have gx : Grew w3 (w3.alloc (.cells #[.bool x.lf, .slice x.pa x.ps.length x.pc, .slice x.ta x.ts.length x.tc, .slice x.ka x.ks.length x.kc] 26)) := Grew.alloc1 _ _
    have C := Lib.hid (CN.out _ ((G2.trans g3).trans gx))
    go_wp2_with fail
    refine C.out.mono ?_
    clear C c0 c1 c2 c3
    rintro e w5 ⟨y, rfl, g5, hy, hye⟩
    have HY := Lib.hid hy
    have HYE := Lib.hid hye
    clear hy hye
    unfold NT.val
    have hz5 : w3.heap.size < w5.heap.size := by have := g5.size; simp at this; omega
    obtain ⟨c0, c1, c2, c3⟩ := HB.out _ ((g3.trans gx).trans g5)
    obtain ⟨d0, d1, d2, d3, _⟩ := box4 g5
    have HA := Lib.hid (fun w' (g : Grew (w5.alloc (.cells #[.bool y.lf, .slice y.pa y.ps.length y.pc, .slice y.ta y.ts.length y.tc, .slice y.ka y.ks.length y.kc] 26)) w') =>
      (⟨HB.out _ ((((g3.trans gx).trans g5).trans (Grew.alloc1 _ _)).trans g), ⟨(box4 ((g5.trans (Grew.alloc1 _ _)).trans g)).1, (box4 ((g5.trans (Grew.alloc1 _ _)).trans g)).2.1, (box4 ((g5.trans (Grew.alloc1 _ _)).trans g)).2.2.1, (box4 ((g5.trans (Grew.alloc1 _ _)).trans g)).2.2.2.1⟩, ⟨(box4 g).1, (box4 g).2.1, (box4 g).2.2.1, (box4 g).2.2.2.1⟩⟩ :
        (w'.cell? ⟨w.heap.size, 0, none⟩ = some (.bool n.lf) ∧ w'.cell? ⟨w.heap.size, 1, none⟩ = some (.slice n.pa n.ps.length n.pc) ∧ w'.cell? ⟨w.heap.size, 2, none⟩ = some (.slice n.ta n.ts.length n.tc) ∧ w'.cell? ⟨w.heap.size, 3, none⟩ = some (.slice n.ka n.ks.length n.kc)) ∧ (w'.cell? ⟨w3.heap.size, 0, none⟩ = some (.bool x.lf) ∧ w'.cell? ⟨w3.heap.size, 1, none⟩ = some (.slice x.pa x.ps.length x.pc) ∧ w'.cell? ⟨w3.heap.size, 2, none⟩ = some (.slice x.ta x.ts.length x.tc) ∧ w'.cell? ⟨w3.heap.size, 3, none⟩ = some (.slice x.ka x.ks.length x.kc)) ∧ (w'.cell? ⟨w5.heap.size, 0, none⟩ = some (.bool y.lf) ∧ w'.cell? ⟨w5.heap.size, 1, none⟩ = some (.slice y.pa y.ps.length y.pc) ∧ w'.cell? ⟨w5.heap.size, 2, none⟩ = some (.slice y.ta y.ts.length y.tc) ∧ w'.cell? ⟨w5.heap.size, 3, none⟩ = some (.slice y.ka y.ks.length y.kc))))
    have gy : Grew w5 (w5.alloc (.cells #[.bool y.lf, .slice y.pa y.ps.length y.pc, .slice y.ta y.ts.length y.tc, .slice y.ka y.ks.length y.kc] 26)) := Grew.alloc1 _ _
    have HX6 := Lib.hid (((HX.out.grew gx (Nat.le_refl _)).grew g5 gx.size).grew gy (Nat.le_trans gx.size g5.size))
    have HY6 := Lib.hid (HY.out.grew gy (Nat.le_refl _))
    have HN6 := Lib.hid (((((HN.out.grew G2).grew g3).grew gx).grew g5).grew gy)
    have hz6 : w5.heap.size ≤ (w5.alloc (.cells #[.bool y.lf, .slice y.pa y.ps.length y.pc, .slice y.ta y.ts.length y.tc, .slice y.ka y.ks.length y.kc] 26)).heap.size := gy.size
    have hz7 : w5.heap.size < (w5.alloc (.cells #[.bool y.lf, .slice y.pa y.ps.length y.pc, .slice y.ta y.ts.length y.tc, .slice y.ka y.ks.length y.kc] 26)).heap.size := by simp
    have hzx : w3.heap.size ≤ (w3.alloc (.cells #[.bool x.lf, .slice x.pa x.ps.length x.pc, .slice x.ta x.ts.length x.tc, .slice x.ka x.ks.length x.kc] 26)).heap.size := gx.size
    have G6 := (((G2.trans g3).trans gx).trans g5).trans gy
    have hz2 := G2.size
    have hz1 : w.heap.size < w2.heap.size := Nat.lt_of_lt_of_le z1 g2.size
    have HS := Lib.hid (fun w' (g : Grew (w5.alloc (.cells #[.bool y.lf, .slice y.pa y.ps.length y.pc, .slice y.ta y.ts.length y.tc, .slice y.ka y.ks.length y.kc] 26)) w') => SP.out x HXE.out w' w2.heap.size w3.heap.size ((HX6.out.grew g (by omega))) (by have := g.size; omega))
    generalize w3.alloc (.cells #[.bool x.lf, .slice x.pa x.ps.length x.pc, .slice x.ta x.ts.length x.tc, .slice x.ka x.ks.length x.kc] 26) = w4 at *
    have C := Lib.hid (F2.out x HXE.out _ (HX6.out.1.ok (by omega)))
    go_wp2_with fail
    generalize w5.alloc (.cells #[.bool y.lf, .slice y.pa y.ps.length y.pc, .slice y.ta y.ts.length y.tc, .slice y.ka y.ks.length y.kc] 26) = w6 at *
    refine C.out.mono ?_
    clear C c0 c1 c2 c3 d0 d1 d2 d3
    rintro e w7 ⟨rfl, g7⟩
    obtain ⟨⟨c0, c1, c2, c3⟩, ⟨d0, d1, d2, d3⟩, ⟨e0, e1, e2, e3⟩⟩ := HA.out _ g7
    have C := Lib.hid (F2.out y HYE.out _ ((HY6.out.1.ok hz6).grew g7))
    go_wp2_with fail
    refine C.out.mono ?_
    clear C c0 c1 c2 c3 d0 d1 d2 d3 e0 e1 e2 e3
    rintro e w8 ⟨rfl, g8⟩
    have G8 := g7.trans g8
    obtain ⟨⟨c0, c1, c2, c3⟩, ⟨d0, d1, d2, d3⟩, ⟨e0, e1, e2, e3⟩⟩ := HA.out _ G8
    have C := Lib.hid (S2.out x HXE.out _ ((HX6.out.1.ok (by omega)).grew G8) (HN6.out.grew G8))
    go_wp2_with fail
    refine C.out.mono ?_
    clear C c0 c1 c2 c3 d0 d1 d2 d3 e0 e1 e2 e3
    rintro e w9 ⟨rfl, g9⟩
    have G9 := G8.trans g9
    obtain ⟨⟨c0, c1, c2, c3⟩, ⟨d0, d1, d2, d3⟩, ⟨e0, e1, e2, e3⟩⟩ := HA.out _ G9
    have C := Lib.hid (S2.out y HYE.out _ ((HY6.out.1.ok hz6).grew G9) (HN6.out.grew G9))
    go_wp2_with fail
    refine C.out.mono ?_
    clear C c0 c1 c2 c3 d0 d1 d2 d3 e0 e1 e2 e3
    rintro e w10 ⟨rfl, g10⟩
    have G10 := G9.trans g10
    obtain ⟨⟨c0, c1, c2, c3⟩, ⟨d0, d1, d2, d3⟩, ⟨e0, e1, e2, e3⟩⟩ := HA.out _ G10
    have C := Lib.hid (HS.out _ G10)
    go_wp2_with fail
    refine C.out.mono ?_
    clear C
    rintro e w11 ⟨rfl, hkp, _⟩
    have s10 := G10.size
    have hcell : ∀ b j, w5.heap.size ≤ b ∨ b < w2.heap.size → b < w10.heap.size → w11.cell? ⟨b, j, none⟩ = w10.cell? ⟨b, j, none⟩ := fun b j hb hl =>
      hkp.cell (p := ⟨b, j, none⟩) hl (fun hx => by have h1 := hx.1; have h2 := hx.2; simp only at h1 h2; omega)
    rw [← hcell w.heap.size 0 (by omega) (by omega)] at c0
    rw [← hcell w.heap.size 1 (by omega) (by omega)] at c1
    rw [← hcell w.heap.size 2 (by omega) (by omega)] at c2
    rw [← hcell w.heap.size 3 (by omega) (by omega)] at c3
    rw [← hcell w5.heap.size 0 (by omega) (by omega)] at e0
    rw [← hcell w5.heap.size 1 (by omega) (by omega)] at e1
    rw [← hcell w5.heap.size 2 (by omega) (by omega)] at e2
    rw [← hcell w5.heap.size 3 (by omega) (by omega)] at e3
    have hN : n.Ok w11 := by
      have h1 : n.In w10 0 w.heap.size := NT.In.grew (hB := Nat.le_refl _) HN.out (G6.trans G10)
      exact (h1.agree (hkp.agree (by omega) (fun k _ h3 h4 => by have := h4.1; omega))).ok (by have := hkp.size; omega)
    have hY : y.Ok w11 := ((HY6.out.1.grew G10 hz6).agree (hkp.agree (by omega) (fun k h2 _ h4 => by have := h4.2; omega))).ok (by have := hkp.size; omega)
    have GE : Grew w w11 := (G6.trans G10).keep hkp (fun k hk => by have := hk.1; omega)
    have C := Lib.hid (S2.out y HYE.out _ hY hN)
    clear d0 d1 d2 d3 hcell
    go_wp2_with fail
    refine C.out.mono ?_
    rintro e w12 ⟨rfl, g12⟩
    go_wp2_with fail
    go_ret
    exact ⟨rfl, GE.trans g12⟩
end Go.Proofs.Ytdobncickipjjaa
