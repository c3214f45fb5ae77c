/- THE LAW redlinelaw04.NodeSizes: the contract: for every tree that is not too great it returns true and turns nothing that was there. -/
import Derived.Test.YtdobncickipjjaaLive
import Derived.Test.YtdobncickipjjaaLeft
import Derived.Test.YtdobncickipjjaaText
namespace Go.Proofs.Ytdobncickipjjaa
open Go Go.RowKit

set_option maxHeartbeats 1000000 in
theorem nodeSizes_any (n : NT) (w : World) (hn : n.Ok w) (hb : n.er.bulk ≤ 1048576) :
    Calls Try.prog 3 #[n.val] w fun e w' => e = .returned (.bool true) ∧ Grew w w' := by
  have FW := Lib.hid (fun w hn => few_any n w 200 hn hb (by omega) (by omega))
  have hi := NT.In_iff.1 hn
  have hlens := n.lens
  have l2 : n.ts.length ≤ 1048576 := by omega
  have l3 : n.ks.length ≤ 1048576 := by omega
  clear hlens
  cases hf : few n.er 200 with
  | false =>
    rw [hf] at FW
    clear hf
    unfold NT.val
    go_enter Try.func3, Try.ntmps3
    go_wp2_with fail
    refine (live04_any _).mono ?_
    rintro e w1 ⟨rfl, g1⟩
    have g1' := (Grew.alloc1 _ _).trans g1
    have C := Lib.hid (FW.out w1 (hn.grew g1'))
    obtain ⟨c0, c1, c2, c3, z1⟩ := box4 g1
    go_wp2_with fail
    refine C.out.mono ?_
    rintro e w2 ⟨rfl, g2⟩
    go_wp2_with fail
    go_ret
    exact ⟨rfl, g1'.trans g2⟩
  | true =>
    rw [hf] at FW
    clear hf
    have SN := Lib.hid (fun w hn => size_any n w hn hb)
    have TN := Lib.hid (fun w hn => text_any n w hn hb)
    have hbk : T.bulkAll (n.ks.map NT.er) ≤ 1048576 := by have := n.er.bulk_eq; simp only [NT.er_ps, NT.er_ts, NT.er_ks] at this; omega
    have HSZ := Lib.hid (T.size_eq n.er)
    have HTX := Lib.hid (T.text_eq n.er)
    simp only [NT.er_ts, NT.er_ks] at HSZ HTX
    have hsl : 1 + n.ts.length + T.sizes (n.ks.map NT.er) ≤ 1048576 := by have := T.size_le n.er; have := HSZ.out; omega
    have htl : n.ts.length + (T.texts (n.ks.map NT.er)).length ≤ 1048576 := by have h1 := T.text_le n.er; have h2 := HTX.out; rw [h2, List.length_append] at h1; omega
    unfold NT.val
    go_enter Try.func3, Try.ntmps3
    go_wp2_with fail
    refine (live04_any _).mono ?_
    rintro e w1 ⟨rfl, g1⟩
    have g1' := (Grew.alloc1 _ _).trans g1
    have C := Lib.hid (FW.out w1 (hn.grew g1'))
    obtain ⟨c0, c1, c2, c3, z1⟩ := box4 g1
    go_wp2_with fail
    refine C.out.mono ?_
    rintro e w2 ⟨rfl, g2⟩
    clear c0 c1 c2 c3 C FW
    obtain ⟨c0, c1, c2, c3, z2⟩ := box4 (g1.trans g2)
    have g2' := g1'.trans g2
    have hr2 := hi.2.1.grew g2' (Nat.le_refl _)
    go_wp2_with fail
    refine (copy03_own _ _ _ _ _ _ hr2 l2).mono ?_
    rintro e w3 ⟨v, rfl, g3, hown⟩
    have g3' := g2'.trans g3
    have g30 := (g1.trans g2).trans g3
    clear c0 c1 c2 c3 hr2
    obtain ⟨c0, c1, c2, c3, z3⟩ := box4 g30
    go_wp2_with fail
    go_loopw [3, 4, 22] (fun s t i wr => ∃ (k : Nat), k ≤ n.ks.length ∧ i = .int .i64 k ∧ s = .int .i64 ((1 + n.ts.length + T.sizes ((n.ks.map NT.er).take k) : Nat) : Int) ∧ Grew w2 wr ∧
      wr.ownsRow w2.heap.size 21 1 t (n.ts ++ T.texts ((n.ks.map NT.er).take k)).length ((n.ts ++ T.texts ((n.ks.map NT.er).take k)).map (Value.int .i32))) (fun _ _ i _ => n.ks.length - (intOf i).toNat)
    case atStart => exact ⟨0, by omega, rfl, by simp [T.sizes], g3, by simpa [T.texts] using hown⟩
    case round =>
      clear hown g3 g30 g3' c0 c1 c2 c3 z3
      obtain ⟨k, hk, rfl, rfl, hg, hown⟩ := hrel
      have hsl1 := T.sizes_take_le (n.ks.map NT.er) k
      have htl1 : (n.ts ++ T.texts ((n.ks.map NT.er).take k)).length ≤ 1048576 := by have := T.texts_take_le (n.ks.map NT.er) k; rw [List.length_append]; omega
      by_cases hlt : k < n.ks.length
      · have hsl2 := T.sizes_take_le (n.ks.map NT.er) (k + 1)
        have htl2 : (n.ts ++ T.texts ((n.ks.map NT.er).take (k + 1))).length ≤ 1048576 := by have := T.texts_take_le (n.ks.map NT.er) (k + 1); rw [List.length_append]; omega
        have HS1 : Hid (T.sizes ((n.ks.map NT.er).take (k + 1)) = T.sizes ((n.ks.map NT.er).take k) + (n.ks.getD k default).er.size) := by
          show _ = _
          rw [kids_take _ _ hlt, T.sizes_append]; simp [T.sizes]
        have HT1 : Hid (n.ts ++ T.texts ((n.ks.map NT.er).take (k + 1)) = (n.ts ++ T.texts ((n.ks.map NT.er).take k)) ++ (n.ks.getD k default).er.text) := by
          show _ = _
          rw [kids_take _ _ hlt, T.texts_append]; simp [T.texts]
        rw [HS1.out] at hsl2
        rw [HT1.out, List.length_append] at htl2
        have hkk := hi.2.2.grew (g2'.trans hg) (Nat.le_refl _)
        obtain ⟨b, o, hka, _, hbh, hc0, hc1, hc2, hc3⟩ := hkk.at hlt
        have hmem := getD_mem n.ks k hlt
        have hkx : (n.ks.getD k default).Ok wr := NT.In.ok (hkk.2 _ hmem) (g2'.trans hg).size
        have hbx := T.bulk_mem (er_mem hmem)
        have SX := Lib.hid (fun w hn => size_any (n.ks.getD k default) w hn (by omega))
        have TX := Lib.hid (fun w hn => text_any (n.ks.getD k default) w hn (by omega))
        generalize n.ks.getD k default = x at *
        generalize T.sizes ((n.ks.map NT.er).take k) = sk at *
        generalize n.ts ++ T.texts ((n.ks.map NT.er).take k) = tk at *
        have S1 := Lib.hid (SX.out _ (hkx.grew (Grew.alloc1 _ (.cells #[.bool x.lf, .slice x.pa x.ps.length x.pc, .slice x.ta x.ts.length x.tc, .slice x.ka x.ks.length x.kc] 26))))
        clear SX
        generalize n.ka = ka at *
        subst hka
        obtain ⟨ua, uc, rfl⟩ := owned_shape hown
        have hown1 := ownsRow_grew hown (Grew.alloc1 _ (.cells #[.bool x.lf, .slice x.pa x.ps.length x.pc, .slice x.ta x.ts.length x.tc, .slice x.ka x.ks.length x.kc] 26))
        go_wp2_with fail
        refine S1.out.mono ?_
        rintro e w4 ⟨rfl, g4⟩
        have g4' := (Grew.alloc1 _ _).trans g4
        obtain ⟨d0, d1, d2, d3, z4⟩ := box4 g4
        have T1 := Lib.hid (TX.out _ (hkx.grew g4'))
        go_wp2_with fail
        refine T1.out.mono ?_
        rintro e w5 ⟨ta, tc, rfl, g5, hrt⟩
        have hown2 := ownsRow_grew (ownsRow_grew hown1 g4) g5
        have g25 := hg.trans (g4'.trans g5)
        have hz5 := g25.size
        clear hown hown1 d0 d1 d2 d3
        go_wp2_with (at_builtin; refine wpList_append_runes rfl (.tmp 30) (.tmp 32) 23 rfl w2.heap.size 21 Try.underlying23 infoRune (.slice ua tk.length uc) _ _ rfl hown2 ta x.er.text tc _ _ rfl hrt (by unfold maxLen; omega) (by omega) hz5 ?_; intro v' w6 hown' hgrow hblk; obtain ⟨va', vc', rfl⟩ := owned_shape hown')
        have hlo := hown2.lt
        go_roundw
        case rel => exact ⟨k + 1, by omega, by go_num, by rw [HS1.out]; go_num, g25.grown hgrow (fun j hj => (hlo j hj).1), by rw [HT1.out, List.length_append, List.map_append]; exact hown'⟩
        case measure => simp [intOf]; omega
      · have HK : (n.ks.map NT.er).take k = n.ks.map NT.er := List.take_of_length_le (by simp; omega)
        have hge : n.ks.length ≤ k := by omega
        rw [HK] at hown hsl1 htl1 ⊢
        rw [HSZ.out] at SN
        rw [HTX.out] at TN
        clear HSZ HTX HK hlt
        generalize T.sizes (n.ks.map NT.er) = sk at *
        generalize n.ts ++ T.texts (n.ks.map NT.er) = tk at *
        obtain ⟨ua, uc, rfl⟩ := owned_shape hown
        obtain ⟨c0, c1, c2, c3, z3⟩ := box4 ((g1.trans g2).trans hg)
        have S1 := Lib.hid (SN.out wr (hn.grew (g2'.trans hg)))
        have heq : (((1 + n.ts.length + sk : Nat) : Int) == ((1 + n.ts.length + sk : Nat) : Int)) = true := by simp
        go_wp2_with fail
        refine S1.out.mono ?_
        rintro e w4 ⟨rfl, g4⟩
        obtain ⟨d0, d1, d2, d3, z4⟩ := box4 (((g1.trans g2).trans hg).trans g4)
        have T1 := Lib.hid (TN.out w4 (hn.grew ((g2'.trans hg).trans g4)))
        clear c0 c1 c2 c3
        go_wp2_with fail
        refine T1.out.mono ?_
        rintro e w5 ⟨ta, tc, rfl, g5, hrt⟩
        have hr2 : ∀ r ∈ tk, -2147483648 ≤ r ∧ r ≤ 2147483647 := hrt.2
        obtain ⟨a', c', he, hr3⟩ := runesIn_owned (ownsRow_grew (ownsRow_grew hown g4) g5) hr2
        cases he
        have S2 := Lib.hid (same03_any ta ua tc uc tk tk w5 _ _ _ _ hrt hr3 htl1 htl1 (Nat.le_refl _) (Nat.le_refl _))
        go_wp2_with fail
        refine S2.out.mono ?_
        rintro e w6 ⟨rfl, g6⟩
        go_wp2_with fail
        go_ret
        exact ⟨ret_bool (by simp), (g2'.trans hg).trans (g4.trans (g5.trans g6))⟩
end Go.Proofs.Ytdobncickipjjaa
