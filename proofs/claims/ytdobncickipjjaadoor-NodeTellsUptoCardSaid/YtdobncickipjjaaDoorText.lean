/- node.Text: the contract. -/
import Derived.Test.YtdobncickipjjaaDoorWalk
import Derived.Test.YtdobncickipjjaaDoorRunes
namespace Go.Proofs.YtdobncickipjjaaDoor
open Go Go.RowKit

mutual
def T.text : T → List Int
  | .mk _ _ ts ks => ts ++ T.texts ks
def T.texts : List T → List Int
  | [] => []
  | k :: r => T.text k ++ T.texts r
end
theorem T.text_eq (t : T) : t.text = t.ts ++ T.texts t.ks := by cases t; simp [T.text]
theorem T.text_le (t : T) : t.text.length ≤ t.bulk := by
  induction t using T.ind with
  | h t ih =>
    have : (T.texts t.ks).length ≤ T.bulkAll t.ks := by
      generalize t.ks = l at ih
      induction l with
      | nil => simp [T.texts]
      | cons x r ihr =>
        have h1 := ih x (by simp)
        have h2 := ihr (fun k hk => ih k (by simp [hk]))
        simp only [T.texts, T.bulkAll, List.length_append]; omega
    rw [T.text_eq, T.bulk_eq, List.length_append]; omega
theorem T.texts_append (a b : List T) : T.texts (a ++ b) = T.texts a ++ T.texts b := by
  induction a with
  | nil => rfl
  | cons x r ih => simp [T.texts, ih]
theorem T.texts_take_le (l : List T) (k : Nat) : (T.texts (l.take k)).length ≤ (T.texts l).length := by
  conv => rhs; rw [← List.take_append_drop k l, T.texts_append, List.length_append]
  omega
/-- what the nodes of a list say, one behind the other -/
def ownTexts (l : List NT) : List Int := l.flatMap NT.ts
theorem ownTexts_append (a b : List NT) : ownTexts (a ++ b) = ownTexts a ++ ownTexts b := by simp [ownTexts]
theorem ownTexts_pre (n : NT) : ownTexts n.pre = n.er.text := by
  induction n using NT.ind with
  | h n ih =>
    have hl : ∀ l : List NT, (∀ k ∈ l, ownTexts k.pre = k.er.text) → ownTexts (l.flatMap NT.pre) = T.texts (l.map NT.er) := by
      intro l
      induction l with
      | nil => intro _; rfl
      | cons x r ihr =>
        intro h
        simp only [List.flatMap_cons, ownTexts_append, List.map_cons, T.texts]
        rw [h x (by simp), ihr (fun k hk => h k (by simp [hk]))]
    rw [NT.pre_eq, T.text_eq, NT.er_ks, NT.er_ts, ← hl n.ks ih]
    simp [ownTexts]
theorem ownTexts_take (l : List NT) (i : Nat) (x : NT) (h : l[i]? = some x) : ownTexts (l.take (i + 1)) = ownTexts (l.take i) ++ x.ts := by
  have hi : i < l.length := by
    rcases Nat.lt_or_ge i l.length with h1 | h1
    · exact h1
    · rw [List.getElem?_eq_none h1] at h; cases h
  rw [List.take_succ_eq_append_getElem hi, ownTexts_append]
  have : l[i] = x := by rw [List.getElem?_eq_getElem hi] at h; exact Option.some.inj h
  simp [ownTexts, this]
theorem ownTexts_take_le (l : List NT) (i : Nat) : (ownTexts (l.take i)).length ≤ (ownTexts l).length := by
  conv => rhs; rw [← List.take_append_drop i l, ownTexts_append, List.length_append]
  omega
theorem text_range (n : NT) {w : World} {lo hi : Nat} (h : n.In w lo hi) : ∀ r ∈ n.er.text, -2147483648 ≤ r ∧ r ≤ 2147483647 := by
  induction n using NT.ind with
  | h n ih =>
    have hn := NT.In_iff.1 h
    have hl : ∀ l : List NT, (∀ k ∈ l, ∀ r ∈ k.er.text, -2147483648 ≤ r ∧ r ≤ 2147483647) → ∀ r ∈ T.texts (l.map NT.er), -2147483648 ≤ r ∧ r ≤ 2147483647 := by
      intro l
      induction l with
      | nil => intro _ r hr; cases hr
      | cons x t iht =>
        intro hk r hr
        simp only [List.map_cons, T.texts, List.mem_append] at hr
        rcases hr with hr | hr
        · exact hk x (by simp) r hr
        · exact iht (fun k hk2 => hk k (by simp [hk2])) r hr
    intro r hr
    rw [T.text_eq, NT.er_ts, NT.er_ks, List.mem_append] at hr
    rcases hr with hr | hr
    · exact hn.2.1.2 r hr
    · exact hl n.ks (fun k hk => ih k hk (hn.2.2.2 k hk)) r hr

/-- the closure's own cell behind i nodes: a slice of the call's own that holds what they say -/
def TextI (n : NT) (s : Nat) (i : Nat) (O : Nat → Prop) (w : World) : Prop :=
  ∃ v, w.cell? ⟨s, 0, none⟩ = some v ∧ w.frozen? ⟨s, 0, none⟩ = false ∧ s < w.heap.size ∧ w.ownsRow (s + 1) 21 1 v (ownTexts (n.pre.take i)).length ((ownTexts (n.pre.take i)).map (Value.int .i32)) ∧ O s ∧ (∀ k, v.ownBlock = some k → O k) ∧ ∀ k, O k → k = s ∨ v.ownBlock = some k
def NoJ' (_ : Nat) (_ : World) : Prop := False

set_option maxHeartbeats 400000 in
theorem textTo_any (n : NT) (hb : n.er.bulk ≤ 1048576) (s : Nat) (lo hi : Nat) :
    WTo n.pre 38 #[.pointer (some ⟨s, 0, none⟩)] lo hi (TextI n s) NoJ' := by
  intro i x hx O w ⟨v, hc, hf, hsz, hown, hO1, hO2, hO3⟩ hin hhi hS
  have hle2 := ownTexts_take_le n.pre (i + 1)
  have hsl := T.text_le n.er
  rw [ownTexts_pre] at hle2
  have HX := Lib.hid (ownTexts_take n.pre i x hx)
  rw [HX.out, List.length_append] at hle2
  generalize ownTexts (n.pre.take i) = a at *
  have ha : a.length ≤ 1048576 := by omega
  have hl : x.ts.length ≤ 1048576 := by omega
  have hrt := (NT.In_iff.1 hin).2.1
  clear hx hle2 hin hsl
  obtain ⟨va, vc, rfl⟩ := owned_shape hown
  have hon := hown.lt
  simp only [NT.val, List.append_toArray, List.cons_append, List.nil_append]
  go_enter Tryd.func38, Tryd.ntmps38
  have hso : ¬ (Value.slice va a.length vc).ownBlock = some s := fun h => by have := hon s h; omega
  have hcs : ∀ o, (w.alloc o).cell? ⟨s, 0, none⟩ = some (Value.slice va a.length vc) := fun o => by rw [World.cell?_alloc_past _ _ _ hsz]; exact hc
  have hfs : ∀ o, (w.alloc o).frozen? ⟨s, 0, none⟩ = false := fun o => by rw [World.frozen?_alloc_past _ _ _ hsz]; exact hf
  go_wp2_with (at_builtin; refine wpList_append_runes rfl (.tmp 4) (.tmp 6) 23 rfl (s + 1) 21 Tryd.underlying23 infoRune (.slice va a.length vc) _ _ rfl (ownsRow_grew hown (Grew.alloc1 _ _)) x.ta x.ts x.tc lo hi rfl (hrt.grew (Grew.alloc1 _ _) hhi) (by unfold maxLen; omega) (by omega) (by simp; omega) ?_; intro v' w1 hown' hgrow hblk; obtain ⟨va', vc', rfl⟩ := owned_shape hown'; have hkw := grownBy_keeps hgrow (O := fun k => (Value.slice va a.length vc).ownBlock = some k) (fun _ h => h); have hc1 := (hkw.cell (p := ⟨s, 0, none⟩) (by simp; omega) hso).trans (hcs _); have hf1 := (hkw.frozen (p := ⟨s, 0, none⟩) (by simp; omega) hso).trans (hfs _))
  go_ret
  have hz1 : s < w1.heap.size := by have := hgrow.size; simp at this; omega
  have hso' : ¬ (Value.slice va' (a.length + x.ts.length) vc').ownBlock = some s := fun h => by have := hown'.lt s h; omega
  rw [← List.map_append, ← List.length_append] at hown'
  rw [← List.length_append] at hblk hso' ⊢
  refine ⟨fun k => k = s ∨ (Value.slice va' (a ++ x.ts).length vc').ownBlock = some k, ⟨?_, ?_⟩, Or.inl ⟨rfl, ⟨_, World.cell?_setCell_same _ _ _ hc1, by rw [World.frozen?_setCell]; exact hf1, by simpa [World.setCell] using hz1, by rw [HX.out]; exact ownsRow_other hown' hso' _, Or.inl rfl, fun k hk => Or.inr hk, fun k hk => hk⟩⟩⟩
  · exact (((Grew.alloc1 _ _).keeps O).trans (hkw.wider (fun k _ hk => hO2 k hk))).setCell (Or.inr hO1) _
  · intro k hk
    rcases hk with rfl | hk
    · exact Or.inl hO1
    · rcases hblk k hk with h1 | h1
      · exact Or.inl (hO2 k h1)
      · exact Or.inr (by simp at h1; omega)

set_option maxHeartbeats 400000 in
theorem text_any (n : NT) (w : World) (hn : n.Ok w) (hb : n.er.bulk ≤ 1048576) :
    Calls Tryd.prog 17 #[n.val] w fun e w' => ∃ a c, e = .returned (.slice a n.er.text.length c) ∧ Grew w w' ∧ RunesIn w' w.heap.size w'.heap.size a c n.er.text := by
  have C := Lib.hid (fun s (hs : w.heap.size ≤ s) w1 => walk_any 38 #[.pointer (some ⟨s, 0, none⟩)] 0 w.heap.size (TextI n s) NoJ' n (· = s) w1 Tryd.call38 (textTo_any n hb s 0 w.heap.size)
    (fun i O w w' ⟨v, h1, h2, h3, h4, h5⟩ hg => ⟨v, (hg.cell h3).trans h1, (hg.frozen h3).trans h2, Nat.lt_of_lt_of_le h3 hg.size, ownsRow_grew h4 hg, h5⟩)
    (fun i O w ⟨v, h1, h2, h3, h4, h5, h6, h7⟩ k hk => by rcases h7 k hk with rfl | h8; exact h3; exact (h4.lt k h8).2) (fun k _ h2 => by omega) hb)
  have HO := Lib.hid (ownTexts_pre n)
  have HR := Lib.hid (text_range n hn)
  unfold NT.val
  go_enter Tryd.func17, Tryd.ntmps17
  go_wp2_with fail
  have hg : ∀ o1 o2, Grew w ((w.alloc o1).alloc o2) := fun o1 o2 => ((Grew.refl w).alloc o1).alloc o2
  refine (C.out (w.heap.size + 1) (by omega) _ (NT.In.grew hn (hg _ _) (Nat.le_refl _)) (hg _ _).size ⟨.slice none 0 0, by go_simp, by go_simp, by simp, World.ownsRow_nil _ _ _ _, rfl, (fun k hk => by cases hk), fun k hk => Or.inl hk⟩).mono ?_
  rintro e w2 ⟨O2, hk2, ⟨rfl, v, hc, hf, hs, hown, _⟩ | ⟨rfl, j, hJ⟩⟩
  · rw [List.take_length, HO.out] at hown
    obtain ⟨a, c, rfl, hr⟩ := runesIn_owned hown HR.out
    go_wp2_with fail
    go_ret
    exact ⟨a, c, rfl, (hg _ _).keep hk2.1 (fun k h => by subst h; omega), hr.mono (by omega) (Nat.le_refl _)⟩
  · exact absurd hJ id
end Go.Proofs.YtdobncickipjjaaDoor
