/- redlineref04.Text: the contract. -/
import Derived.Test.YtdobncickipjjaaDoorText
namespace Go.Proofs.YtdobncickipjjaaDoor
open Go Go.RowKit

theorem kids_next (ks : List NT) (k : Nat) (h : k < ks.length) : (ks.map NT.er).take (k + 1) = (ks.map NT.er).take k ++ [(ks.getD k default).er] := by
  rw [List.take_succ_eq_append_getElem (by simpa using h)]
  simp [List.getD, List.getElem?_eq_getElem h]

theorem ownsRow_low {w : World} {base lo : Nat} {e : TypeId} {size : Nat} {v : Value} {n : Nat} {xs : List Value} (h : w.ownsRow base e size v n xs) (hl : lo ≤ base) : w.ownsRow lo e size v n xs := by
  obtain ⟨h1, h2⟩ := h
  refine ⟨h1, ?_⟩
  rcases h2 with h2 | ⟨g, cap, cur, h3, h4, h5⟩
  · exact Or.inl h2
  · exact Or.inr ⟨g, cap, cur, h3, Nat.le_trans hl h4, h5⟩

set_option maxHeartbeats 1000000 in
theorem refText_any (n : NT) : ∀ w : World, n.Ok w → n.er.bulk ≤ 1048576 →
    Calls Tryd.prog 18 #[n.val] w fun e w' => ∃ a c, e = .returned (.slice a n.er.text.length c) ∧ Grew w w' ∧ RunesIn w' w.heap.size w'.heap.size a c n.er.text := by
  induction n using NT.ind with
  | h n ih =>
  intro w hn hb
  have HI := Lib.hid ih
  clear ih
  have hi := NT.In_iff.1 hn
  have hlens := n.lens
  have l2 : n.ts.length ≤ 1048576 := by omega
  have l3 : n.ks.length ≤ 1048576 := by omega
  have hbk : T.bulkAll (n.ks.map NT.er) ≤ 1048576 := by have := n.er.bulk_eq; simp only [NT.er_ps, NT.er_ts, NT.er_ks] at this; omega
  have HTX := Lib.hid (T.text_eq n.er)
  simp only [NT.er_ts, NT.er_ks] at HTX
  have htl : n.ts.length + (T.texts (n.ks.map NT.er)).length ≤ 1048576 := by have h1 := T.text_le n.er; have h2 := HTX.out; rw [h2, List.length_append] at h1; omega
  have HR := Lib.hid (text_range n hn)
  clear hlens
  unfold NT.val
  go_enter Tryd.func18, Tryd.ntmps18
  go_wp2_with fail
  have hg1 := Grew.alloc1 w (Obj.cells #[.bool n.lf, .slice n.pa n.ps.length n.pc, .slice n.ta n.ts.length n.tc, .slice n.ka n.ks.length n.kc] 26)
  refine (copy03_own _ _ _ _ _ _ (hi.2.1.grew hg1 (Nat.le_refl _)) l2).mono ?_
  rintro e w1 ⟨v, rfl, g1, hown⟩
  obtain ⟨c0, c1, c2, c3, z1⟩ := box4 g1
  have g1' := hg1.trans g1
  replace hown := ownsRow_low hown hg1.size
  go_wp2_with fail
  go_loopw [3, 12] (fun t i wr => ∃ (k : Nat), k ≤ n.ks.length ∧ i = .int .i64 k ∧ Grew w wr ∧
      wr.ownsRow w.heap.size 21 1 t (n.ts ++ T.texts ((n.ks.map NT.er).take k)).length ((n.ts ++ T.texts ((n.ks.map NT.er).take k)).map (Value.int .i32))) (fun _ i _ => n.ks.length - (intOf i).toNat)
  case atStart => exact ⟨0, by omega, rfl, g1', by simpa [T.texts] using hown⟩
  case round =>
    clear hown g1 g1' c0 c1 c2 c3 z1 hg1
    obtain ⟨k, hk, rfl, hg, hown⟩ := hrel
    have htl1 : (n.ts ++ T.texts ((n.ks.map NT.er).take k)).length ≤ 1048576 := by have := T.texts_take_le (n.ks.map NT.er) k; rw [List.length_append]; omega
    by_cases hlt : k < n.ks.length
    · have htl2 : (n.ts ++ T.texts ((n.ks.map NT.er).take (k + 1))).length ≤ 1048576 := by have := T.texts_take_le (n.ks.map NT.er) (k + 1); rw [List.length_append]; omega
      have HT1 : Hid (n.ts ++ T.texts ((n.ks.map NT.er).take (k + 1)) = (n.ts ++ T.texts ((n.ks.map NT.er).take k)) ++ (n.ks.getD k default).er.text) := by
        show _ = _
        rw [kids_next _ _ hlt, T.texts_append]; simp [T.texts]
      rw [HT1.out, List.length_append] at htl2
      have hkk := hi.2.2.grew hg (Nat.le_refl _)
      obtain ⟨b, o, hka, _, hbh, hc0, hc1, hc2, hc3⟩ := hkk.at hlt
      have hmem := getD_mem n.ks k hlt
      have hkx : (n.ks.getD k default).Ok wr := NT.In.ok (hkk.2 _ hmem) hg.size
      have hbx := T.bulk_mem (er_mem hmem)
      have TX := Lib.hid (fun w' (hg : Grew wr w') => HI.out _ hmem w' (hkx.grew hg) (by omega))
      generalize n.ks.getD k default = x at *
      generalize n.ts ++ T.texts ((n.ks.map NT.er).take k) = tk at *
      generalize n.ka = ka at *
      subst hka
      clear HI
      obtain ⟨ua, uc, rfl⟩ := owned_shape hown
      have hown1 := ownsRow_grew hown (Grew.alloc1 _ (.cells #[.bool x.lf, .slice x.pa x.ps.length x.pc, .slice x.ta x.ts.length x.tc, .slice x.ka x.ks.length x.kc] 26))
      go_wp2_with fail
      refine (TX.out _ (Grew.alloc1 _ _)).mono ?_
      rintro e w5 ⟨ta, tc, rfl, g5, hrt⟩
      have hown2 := ownsRow_grew hown1 g5
      have g25 := hg.trans ((Grew.alloc1 _ _).trans g5)
      have hz5 := g25.size
      clear hown hown1
      go_wp2_with (at_builtin; refine wpList_append_runes rfl (.tmp 16) (.tmp 18) 23 rfl w.heap.size 21 Tryd.underlying23 infoRune (.slice ua tk.length uc) _ _ rfl hown2 ta x.er.text tc _ _ rfl hrt (by unfold maxLen; omega) (by omega) hz5 ?_; intro v' w6 hown' hgrow hblk; obtain ⟨va', vc', rfl⟩ := owned_shape hown')
      have hlo := hown2.lt
      go_roundw
      case rel => exact ⟨k + 1, by omega, by go_num, g25.grown hgrow (fun j hj => (hlo j hj).1), by rw [HT1.out, List.length_append, List.map_append]; exact hown'⟩
      case measure => simp [intOf]; omega
    · have HK : (n.ks.map NT.er).take k = n.ks.map NT.er := List.take_of_length_le (by simp; omega)
      have hge : n.ks.length ≤ k := by omega
      rw [HK, ← HTX.out] at hown
      obtain ⟨a', c', rfl, hr3⟩ := runesIn_owned hown HR.out
      clear HK HI HTX HR
      go_wp2_with fail
      go_ret
      exact ⟨a', c', rfl, hg, hr3⟩
end Go.Proofs.YtdobncickipjjaaDoor
