/- redlineref05.Get: the contract. -/
import Derived.Test.YtgnlgfkolbecmaaRef04
import Derived.Test.YtgnlgfkolbecmaaGet
namespace Go.Proofs.Ytgnlgfkolbecmaa
open Go Go.RowKit

/-- how redlineref05.Get ends -/
def RGet (n : NT) (p : List Int) (w : World) (e : Ending) (w' : World) : Prop :=
  ∃ (x : NT) (k : Int), e = .returned (.tuple #[x.val, .int .i64 k]) ∧ Grew w w' ∧ x.Ok w' ∧ Hid ((k = 0 ∧ n.er.at p = some x.er) ∨ (k = 5 ∧ n.er.at p = none))
theorem rget_mk {n x : NT} {p : List Int} {w F : World} {k : Int} (hg : Grew w F) (hx : x.Ok F) (h : Hid ((k = 0 ∧ n.er.at p = some x.er) ∨ (k = 5 ∧ n.er.at p = none))) : RGet n p w (.returned (.tuple #[x.val, .int .i64 k])) F := ⟨x, k, rfl, hg, hx, h⟩
/-- the boxes: the node that is stood at, the result's -/
def GAt (w : World) (x : NT) (w' : World) : Prop := Grew w w' ∧ w.heap.size + 2 ≤ w'.heap.size ∧ x.Bx w.heap.size w' ∧ (∀ j, w'.frozen? ⟨w.heap.size, j, none⟩ = false) ∧
  (w'.cell? ⟨w.heap.size + 1, 0, none⟩ = some (.bool false) ∧ w'.cell? ⟨w.heap.size + 1, 1, none⟩ = some (.slice none 0 0) ∧ w'.cell? ⟨w.heap.size + 1, 2, none⟩ = some (.slice none 0 0) ∧ w'.cell? ⟨w.heap.size + 1, 3, none⟩ = some (.slice none 0 0)) ∧ (∀ j, w'.frozen? ⟨w.heap.size + 1, j, none⟩ = false) ∧ x.In w' 0 w.heap.size
theorem GAt.next {w : World} {x : NT} {w1 w2 : World} (h : GAt w x w1) (hg : Grew w1 w2) : GAt w x w2 := by
  obtain ⟨h1, h2, h3, h4, h5, h6, h7⟩ := h
  have q : ∀ j, w2.cell? ⟨w.heap.size + 1, j, none⟩ = w1.cell? ⟨w.heap.size + 1, j, none⟩ := fun j => hg.cell (p := ⟨w.heap.size + 1, j, none⟩) (by show w.heap.size + 1 < _; omega)
  refine ⟨h1.trans hg, Nat.le_trans h2 hg.size, h3.grew hg (by omega), fun j => (hg.frozen (p := ⟨w.heap.size, j, none⟩) (by show w.heap.size < _; omega)).trans (h4 j), ?_, fun j => (hg.frozen (p := ⟨w.heap.size + 1, j, none⟩) (by show w.heap.size + 1 < _; omega)).trans (h6 j), h7.grew hg h1.size⟩
  simp only [q]; exact h5
theorem GAt.step {w : World} {x y : NT} {w1 F : World} (h : GAt w x w1) (fc : y.Bx w.heap.size F) (hk : Keeps (· = w.heap.size) w1 F) (hff : ∀ p, F.frozen? p = w1.frozen? p) (hy : y.In w1 0 w.heap.size) : GAt w y F := by
  obtain ⟨h1, h2, h3, h4, h5, h6, h7⟩ := h
  have q : ∀ j, F.cell? ⟨w.heap.size + 1, j, none⟩ = w1.cell? ⟨w.heap.size + 1, j, none⟩ := fun j => hk.cell (p := ⟨w.heap.size + 1, j, none⟩) (by show w.heap.size + 1 < _; omega) (by show ¬ w.heap.size + 1 = w.heap.size; omega)
  refine ⟨h1.keep hk (fun b hb => by omega), Nat.le_trans h2 hk.size, fc, fun j => (hff _).trans (h4 j), ?_, fun j => (hff _).trans (h6 j), hy.agree (hk.agree h1.size (fun b _ h8 h9 => by omega))⟩
  simp only [q]; exact h5

set_option maxHeartbeats 4000000 in
theorem refGet05_any (n : NT) (pa : Option Addr) (pc : Nat) (p : List Int) (w : World) (hn : n.Ok w) (hb : n.er.bulk ≤ 1048576) (hp : IntsIn w 0 w.heap.size pa pc p) (hl : p.length ≤ 1048576) :
    Calls Try.prog 29 #[n.val, .slice pa p.length pc] w (RGet n p w) := by
  unfold NT.val
  go_enter Try.func29, Try.ntmps29
  go_wp2_with fail
  have hA0 : GAt w n ((w.alloc (.cells #[.bool n.lf, .slice n.pa n.ps.length n.pc, .slice n.ta n.ts.length n.tc, .slice n.ka n.ks.length n.kc] 26)).alloc (.cells #[.bool false, .slice none 0 0, .slice none 0 0, .slice none 0 0] 26)) := ⟨(Grew.alloc1 _ _).alloc _, by simp, ⟨by go_simp, by go_simp, by go_simp, by go_simp⟩, fun j => by rw [World.frozen?_alloc_past _ _ _ (by simp), World.frozen?_alloc_at _ _ _ _ rfl], ⟨by go_simp, by go_simp, by go_simp, by go_simp⟩, fun j => by rw [World.frozen?_alloc_at _ _ _ _ (by simp)], NT.In.grew hn ((Grew.alloc1 _ _).alloc _) (Nat.le_refl _)⟩
  generalize (w.alloc (.cells #[.bool n.lf, .slice n.pa n.ps.length n.pc, .slice n.ta n.ts.length n.tc, .slice n.ka n.ks.length n.kc] 26)).alloc (.cells #[.bool false, .slice none 0 0, .slice none 0 0, .slice none 0 0] 26) = w1 at *
  go_loopw [10] (fun i wr => ∃ (k : Nat) (x : NT), k ≤ p.length ∧ i = .int .i64 k ∧ GAt w x wr ∧ Hid (n.er.at p = x.er.at (p.drop k) ∧ x.er.bulk ≤ n.er.bulk)) (fun i _ => p.length - (intOf i).toNat)
  case atStart => exact ⟨0, n, by omega, rfl, hA0, (show _ ∧ _ from ⟨rfl, Nat.le_refl _⟩)⟩
  case round =>
    obtain ⟨k, x, hk1, rfl, hA, hH⟩ := hrel
    clear hA0
    have HA := Lib.hid hA
    by_cases hlt : k < p.length
    · obtain ⟨pb, po, rfl, _, hpb, hpc⟩ := (hp.grew hA.1 (Nat.le_refl _)).at hlt
      have hD := drop_cons p k hlt
      have e0 : p.getD k default = p.getD k 0 := rfl
      rw [e0] at hD
      obtain ⟨ka, hka⟩ : ∃ y, x.ka = y := ⟨_, rfl⟩
      have HKA := Lib.hid hka
      have hkk := (NT.In_iff.1 hA.2.2.2.2.2.2).2.2
      obtain ⟨_, hz, ⟨d0, d1, d2, d3⟩, df, ⟨r0, r1, r2, r3⟩, rf, _⟩ := id hA
      rw [hka] at d3
      clear hka hA
      generalize p.getD k 0 = i at *
      by_cases h0 : i < 0
      · have HN : Hid (n.er.at p = none) := by
          show _ = _
          rw [hH.out.1, hD, T.at, if_pos (Or.inl h0)]
        clear hD e0 hH hkk
        have ht : decide (i < 0) = true := by simpa using h0
        go_wp2_with fail
        have HR := Lib.hid HA.out.2.2.2.2.1
        have hG := HA.out.1
        generalize hF : ((((wr.setCell ⟨w.heap.size + 1, 0, none⟩ _).setCell ⟨w.heap.size + 1, 1, none⟩ _).setCell ⟨w.heap.size + 1, 2, none⟩ _).setCell ⟨w.heap.size + 1, 3, none⟩ _) = F
        obtain ⟨⟨f0, f1, f2, f3⟩, hk⟩ := put4 HR.out hF
        clear hF
        refine bodyPost_ret (v := .tuple #[NT.nil.val, .int .i64 5]) (by simp [results, Try.results29, go_sem, NT.val, NT.nil, f0, f1, f2, f3]) rfl (rget_mk (hG.keep hk (fun b h => by omega)) NT.nil_in (Or.inr ⟨rfl, HN.out⟩))
      · by_cases h1 : (x.ks.length : Int) ≤ i
        · have HN : Hid (n.er.at p = none) := by
            show _ = _
            rw [hH.out.1, hD, T.at, if_pos (Or.inr (by simpa using h1))]
          clear hD e0 hH hkk
          have ht : decide (i < 0) = false := by simpa using h0
          have ht2 : decide ((x.ks.length : Int) ≤ i) = true := by simpa using h1
          go_wp2_with fail
          have HR := Lib.hid HA.out.2.2.2.2.1
          have hG := HA.out.1
          generalize hF : ((((wr.setCell ⟨w.heap.size + 1, 0, none⟩ _).setCell ⟨w.heap.size + 1, 1, none⟩ _).setCell ⟨w.heap.size + 1, 2, none⟩ _).setCell ⟨w.heap.size + 1, 3, none⟩ _) = F
          obtain ⟨⟨f0, f1, f2, f3⟩, hk⟩ := put4 HR.out hF
          clear hF
          refine bodyPost_ret (v := .tuple #[NT.nil.val, .int .i64 5]) (by simp [results, Try.results29, go_sem, NT.val, NT.nil, f0, f1, f2, f3]) rfl (rget_mk (hG.keep hk (fun b h => by omega)) NT.nil_in (Or.inr ⟨rfl, HN.out⟩))
        · obtain ⟨m, rfl⟩ : ∃ m : Nat, i = m := ⟨i.toNat, by omega⟩
          have hm : m < x.ks.length := by omega
          have HN : Hid (n.er.at p = (x.ks.getD m default).er.at (p.drop (k + 1)) ∧ (x.ks.getD m default).er.bulk ≤ n.er.bulk) := by
            refine ⟨?_, ?_⟩
            · rw [hH.out.1, hD, T.at, if_neg (by simp only [NT.er_ks, List.length_map]; omega)]
              simp [List.getD, hm]
            · have h2 := T.bulk_kid (n := x.er) (k := (x.ks.getD m default).er) (by rw [NT.er_ks]; exact er_mem (getD_mem x.ks m hm))
              have := hH.out.2
              omega
          obtain ⟨b2, o2, hka2, hb1, hb2, hc0, hc1, hc2, hc3⟩ := hkk.at hm
          obtain rfl : ka = some ⟨b2, o2, none⟩ := by rw [← HKA.out]; exact hka2
          have hx2 := hkk.2 _ (getD_mem x.ks m hm)
          clear hD e0 hH hka2 hkk
          generalize x.ks.getD m default = y at *
          have ht : decide ((m : Int) < 0) = false := by simp
          have ht2 : decide ((x.ks.length : Int) ≤ (m : Int)) = false := by simpa using h1
          have hm2 : (m : Int) < x.ks.length := by omega
          have HX2 := Lib.hid hx2
          have HD := Lib.hid HA.out.2.2.1
          clear hx2
          go_wp2_with fail
          generalize hF : ((((wr.setCell ⟨w.heap.size, 0, none⟩ _).setCell ⟨w.heap.size, 1, none⟩ _).setCell ⟨w.heap.size, 2, none⟩ _).setCell ⟨w.heap.size, 3, none⟩ _) = F
          obtain ⟨fc, hk⟩ := put4 HD.out hF
          have hff := put4_soft hF
          clear hF
          have hN := HA.out.step (y := y) fc hk hff HX2.out
          go_roundw
          case rel => exact ⟨k + 1, y, by omega, by go_num, hN, HN⟩
          case measure => simp [intOf]; omega
    · obtain rfl : p.length = k := by omega
      have hlt3 : ¬ (p.length : Int) < p.length := by omega
      have HN : Hid (n.er.at p = some x.er) := by
        show _ = _
        rw [hH.out.1, List.drop_of_length_le (Nat.le_refl _), T.at]
      have C := Lib.hid (copy04_any x wr (NT.In.ok hA.2.2.2.2.2.2 hA.1.size) (by have := hH.out.2; omega))
      unfold NT.val at C
      obtain ⟨_, hz, ⟨d0, d1, d2, d3⟩, df, ⟨r0, r1, r2, r3⟩, rf, _⟩ := id hA
      clear r0 r1 r2 r3 rf
      go_wp2_with fail
      refine C.out.mono ?_
      rintro e w3 ⟨y, rfl, g3, hy, hye⟩
      have hA3 := HA.out.next g3
      obtain ⟨hG, hz3, _, _, ⟨r0, r1, r2, r3⟩, rf, _⟩ := id hA3
      have HR := Lib.hid (⟨r0, r1, r2, r3⟩ : _ ∧ _ ∧ _ ∧ _)
      have HH : Hid (n.er.at p = some y.er) := by show _ = _; rw [HN.out, hye.out]
      have hz0 := HA.out.2.1
      have HY := Lib.hid hy
      have HG := Lib.hid hG
      clear hA3 hy hye HN C hA hG d0 d1 d2 d3 df
      unfold NT.val
      go_wp2_with fail
      generalize hF : ((((w3.setCell ⟨w.heap.size + 1, 0, none⟩ _).setCell ⟨w.heap.size + 1, 1, none⟩ _).setCell ⟨w.heap.size + 1, 2, none⟩ _).setCell ⟨w.heap.size + 1, 3, none⟩ _) = F
      obtain ⟨⟨f0, f1, f2, f3⟩, hk⟩ := put4 HR.out hF
      clear hF
      refine bodyPost_ret (v := .tuple #[y.val, .int .i64 0]) (by simp [results, Try.results29, go_sem, NT.val, f0, f1, f2, f3]) rfl (rget_mk (HG.out.keep hk (fun b h => by omega)) ((HY.out.agree (hk.agree (Nat.le_refl _) (fun b a c h => by omega))).mono (Nat.zero_le _) hk.size) (Or.inl ⟨rfl, HH.out⟩))
end Go.Proofs.Ytgnlgfkolbecmaa
