/- node.Text: the contract. -/
import Derived.Test.YtdopncbmlehnoaaGreatDoorK23
import Derived.Test.YtdopncbmlehnoaaGreatDoorK09
import Derived.Test.YtdopncbmlehnoaaGreatDoorK22
import Derived.Test.YtdopncbmlehnoaaGreatDoorK21
import Derived.Test.YtdopncbmlehnoaaGreatDoorK20
namespace Go.Proofs.YtdopncbmlehnoaaGreatDoor
open Go Go.RowKit

mutual
def T.text : T → List Int
  | .mk _ _ ts ks => ts ++ T.texts ks
def T.texts : List T → List Int
  | [] => []
  | k :: r => T.text k ++ T.texts r
end
theorem T.text_eq (t : T) : t.text = t.ts ++ T.texts t.ks := by cases t; simp [T.text]
theorem T.text_le (t : T) : t.text.length ≤ t.bulk := by
  induction t using T.ind with
  | h t ih =>
    have : (T.texts t.ks).length ≤ T.bulkAll t.ks := by
      generalize t.ks = l at ih
      induction l with
      | nil => simp [T.texts]
      | cons x r ihr =>
        have h1 := ih x (by simp)
        have h2 := ihr (fun k hk => ih k (by simp [hk]))
        simp only [T.texts, T.bulkAll, List.length_append]; omega
    rw [T.text_eq, T.bulk_eq, List.length_append]; omega
theorem T.texts_append (a b : List T) : T.texts (a ++ b) = T.texts a ++ T.texts b := by
  induction a with
  | nil => rfl
  | cons x r ih => simp [T.texts, ih]
/-- what the nodes of a list say, one behind the other -/
def ownTexts (l : List NT) : List Int := l.flatMap NT.ts
theorem ownTexts_append (a b : List NT) : ownTexts (a ++ b) = ownTexts a ++ ownTexts b := by simp [ownTexts]
theorem ownTexts_pre (n : NT) : ownTexts n.pre = n.er.text := by
  induction n using NT.ind with
  | h n ih =>
    have hl : ∀ l : List NT, (∀ k ∈ l, ownTexts k.pre = k.er.text) → ownTexts (l.flatMap NT.pre) = T.texts (l.map NT.er) := by
      intro l
      induction l with
      | nil => intro _; rfl
      | cons x r ihr =>
        intro h
        simp only [List.flatMap_cons, ownTexts_append, List.map_cons, T.texts]
        rw [h x (by simp), ihr (fun k hk => h k (by simp [hk]))]
    rw [NT.pre_eq, T.text_eq, NT.er_ks, NT.er_ts, ← hl n.ks ih]
    simp [ownTexts]
theorem ownTexts_take (l : List NT) (i : Nat) (x : NT) (h : l[i]? = some x) : ownTexts (l.take (i + 1)) = ownTexts (l.take i) ++ x.ts := by
  have hi : i < l.length := by
    rcases Nat.lt_or_ge i l.length with h1 | h1
    · exact h1
    · rw [List.getElem?_eq_none h1] at h; cases h
  rw [List.take_succ_eq_append_getElem hi, ownTexts_append]
  have : l[i] = x := by rw [List.getElem?_eq_getElem hi] at h; exact Option.some.inj h
  simp [ownTexts, this]
theorem ownTexts_take_le (l : List NT) (i : Nat) : (ownTexts (l.take i)).length ≤ (ownTexts l).length := by
  conv => rhs; rw [← List.take_append_drop i l, ownTexts_append, List.length_append]
  omega
theorem text_range (n : NT) {w : World} {lo hi : Nat} (h : n.In w lo hi) : ∀ r ∈ n.er.text, -2147483648 ≤ r ∧ r ≤ 2147483647 := by
  induction n using NT.ind with
  | h n ih =>
    have hn := NT.In_iff.1 h
    have hl : ∀ l : List NT, (∀ k ∈ l, ∀ r ∈ k.er.text, -2147483648 ≤ r ∧ r ≤ 2147483647) → ∀ r ∈ T.texts (l.map NT.er), -2147483648 ≤ r ∧ r ≤ 2147483647 := by
      intro l
      induction l with
      | nil => intro _ r hr; cases hr
      | cons x t iht =>
        intro hk r hr
        simp only [List.map_cons, T.texts, List.mem_append] at hr
        rcases hr with hr | hr
        · exact hk x (by simp) r hr
        · exact iht (fun k hk2 => hk k (by simp [hk2])) r hr
    intro r hr
    rw [T.text_eq, NT.er_ts, NT.er_ks, List.mem_append] at hr
    rcases hr with hr | hr
    · exact hn.2.1.2 r hr
    · exact hl n.ks (fun k hk => ih k hk (hn.2.2.2 k hk)) r hr

/-- the closure's own cell behind i nodes: a slice of the call's own that holds what they say -/
def TextI (n : NT) (s : Nat) (i : Nat) (O : Nat → Prop) (w : World) : Prop :=
  ∃ v, w.cell? ⟨s, 0, none⟩ = some v ∧ w.frozen? ⟨s, 0, none⟩ = false ∧ s < w.heap.size ∧ w.ownsRow (s + 1) 21 1 v (ownTexts (n.pre.take i)).length ((ownTexts (n.pre.take i)).map (Value.int .i32)) ∧ O s ∧ (∀ k, v.ownBlock = some k → O k) ∧ ∀ k, O k → k = s ∨ v.ownBlock = some k
def NoJ' (_ : Nat) (_ : World) : Prop := False

set_option maxHeartbeats 400000 in
theorem textTo_any (n : NT) (hb : n.er.bulk ≤ 1048576) (s : Nat) (lo hi : Nat) :
    WTo n.pre 70 #[.pointer (some ⟨s, 0, none⟩)] lo hi (TextI n s) NoJ' := by
  intro i x hx O w ⟨v, hc, hf, hsz, hown, hO1, hO2, hO3⟩ hin hhi hS
  have hle2 := ownTexts_take_le n.pre (i + 1)
  have hsl := T.text_le n.er
  rw [ownTexts_pre] at hle2
  have HX := Lib.hid (ownTexts_take n.pre i x hx)
  rw [HX.out, List.length_append] at hle2
  generalize ownTexts (n.pre.take i) = a at *
  have ha : a.length ≤ 1048576 := by omega
  have hl : x.ts.length ≤ 1048576 := by omega
  have hrt := (NT.In_iff.1 hin).2.1
  clear hx hle2 hin hsl
  obtain ⟨va, vc, rfl⟩ := owned_shape hown
  have hon := hown.lt
  simp only [NT.val, List.append_toArray, List.cons_append, List.nil_append]
  go_enter Tryz.func70, Tryz.ntmps70
  have hso : ¬ (Value.slice va a.length vc).ownBlock = some s := fun h => by have := hon s h; omega
  have hcs : ∀ o, (w.alloc o).cell? ⟨s, 0, none⟩ = some (Value.slice va a.length vc) := fun o => by rw [World.cell?_alloc_past _ _ _ hsz]; exact hc
  have hfs : ∀ o, (w.alloc o).frozen? ⟨s, 0, none⟩ = false := fun o => by rw [World.frozen?_alloc_past _ _ _ hsz]; exact hf
  go_wp2_with (at_builtin; refine wpList_append_runes rfl (.tmp 4) (.tmp 6) 23 rfl (s + 1) 21 Tryz.underlying23 infoRune (.slice va a.length vc) _ _ rfl (ownsRow_grew hown (Grew.alloc1 _ _)) x.ta x.ts x.tc lo hi rfl (hrt.grew (Grew.alloc1 _ _) hhi) (by unfold maxLen; omega) (by omega) (by simp; omega) ?_; intro v' w1 hown' hgrow hblk; obtain ⟨va', vc', rfl⟩ := owned_shape hown'; have hkw := grownBy_keeps hgrow (O := fun k => (Value.slice va a.length vc).ownBlock = some k) (fun _ h => h); have hc1 := (hkw.cell (p := ⟨s, 0, none⟩) (by simp; omega) hso).trans (hcs _); have hf1 := (hkw.frozen (p := ⟨s, 0, none⟩) (by simp; omega) hso).trans (hfs _))
  go_ret
  have hz1 : s < w1.heap.size := by have := hgrow.size; simp at this; omega
  have hso' : ¬ (Value.slice va' (a.length + x.ts.length) vc').ownBlock = some s := fun h => by have := hown'.lt s h; omega
  rw [← List.map_append, ← List.length_append] at hown'
  rw [← List.length_append] at hblk hso' ⊢
  refine ⟨fun k => k = s ∨ (Value.slice va' (a ++ x.ts).length vc').ownBlock = some k, ⟨?_, ?_⟩, Or.inl ⟨rfl, ⟨_, World.cell?_setCell_same _ _ _ hc1, by rw [World.frozen?_setCell]; exact hf1, by simpa [World.setCell] using hz1, by rw [HX.out]; exact ownsRow_other hown' hso' _, Or.inl rfl, fun k hk => Or.inr hk, fun k hk => hk⟩⟩⟩
  · exact (((Grew.alloc1 _ _).keeps O).trans (hkw.wider (fun k _ hk => hO2 k hk))).setCell (Or.inr hO1) _
  · intro k hk
    rcases hk with rfl | hk
    · exact Or.inl hO1
    · rcases hblk k hk with h1 | h1
      · exact Or.inl (hO2 k h1)
      · exact Or.inr (by simp at h1; omega)

set_option maxHeartbeats 400000 in
theorem text_any (n : NT) (w : World) (hn : n.Ok w) (hb : n.er.bulk ≤ 1048576) :
    Calls Tryz.prog 27 #[n.val] w fun e w' => ∃ a c, e = .returned (.slice a n.er.text.length c) ∧ Grew w w' ∧ RunesIn w' w.heap.size w'.heap.size a c n.er.text := by
  have C := Lib.hid (fun s (hs : w.heap.size ≤ s) w1 => walk_any 70 #[.pointer (some ⟨s, 0, none⟩)] 0 w.heap.size (TextI n s) NoJ' n (· = s) w1 Tryz.call70 (textTo_any n hb s 0 w.heap.size)
    (fun i O w w' ⟨v, h1, h2, h3, h4, h5⟩ hg => ⟨v, (hg.cell h3).trans h1, (hg.frozen h3).trans h2, Nat.lt_of_lt_of_le h3 hg.size, ownsRow_grew h4 hg, h5⟩)
    (fun i O w ⟨v, h1, h2, h3, h4, h5, h6, h7⟩ k hk => by rcases h7 k hk with rfl | h8; exact h3; exact (h4.lt k h8).2) (fun k _ h2 => by omega) hb)
  have HO := Lib.hid (ownTexts_pre n)
  have HR := Lib.hid (text_range n hn)
  unfold NT.val
  go_enter Tryz.func27, Tryz.ntmps27
  go_wp2_with fail
  have hg : ∀ o1 o2, Grew w ((w.alloc o1).alloc o2) := fun o1 o2 => ((Grew.refl w).alloc o1).alloc o2
  refine (C.out (w.heap.size + 1) (by omega) _ (NT.In.grew hn (hg _ _) (Nat.le_refl _)) (hg _ _).size ⟨.slice none 0 0, by go_simp, by go_simp, by simp, World.ownsRow_nil _ _ _ _, rfl, (fun k hk => by cases hk), fun k hk => Or.inl hk⟩).mono ?_
  rintro e w2 ⟨O2, hk2, ⟨rfl, v, hc, hf, hs, hown, _⟩ | ⟨rfl, j, hJ⟩⟩
  · rw [List.take_length, HO.out] at hown
    obtain ⟨a, c, rfl, hr⟩ := runesIn_owned hown HR.out
    go_wp2_with fail
    go_ret
    exact ⟨a, c, rfl, (hg _ _).keep hk2.1 (fun k h => by subst h; omega), hr.mono (by omega) (Nat.le_refl _)⟩
  · exact absurd hJ id
end Go.Proofs.YtdopncbmlehnoaaGreatDoor
/- TREES CHANGED AT A PATH: their sizes and texts; plain. -/
namespace Go.Proofs.YtdopncbmlehnoaaGreatDoor
open Go Go.RowKit

theorem T.sizes_set (k : T) : ∀ (l : List T) (i : Nat), i < l.length → T.sizes (l.set i k) + (l.getD i default).size = T.sizes l + k.size
  | [], _, h => absurd h (Nat.not_lt_zero _)
  | x :: r, 0, _ => by simp only [List.set_cons_zero, T.sizes, List.getD_cons_zero]; omega
  | x :: r, i + 1, h => by
    have := T.sizes_set k r i (by simpa using h)
    simp only [List.set_cons_succ, T.sizes, List.getD_cons_succ]; omega
theorem T.sizes_erase : ∀ (l : List T) (i : Nat), i < l.length → T.sizes (l.eraseIdx i) + (l.getD i default).size = T.sizes l
  | [], _, h => absurd h (Nat.not_lt_zero _)
  | x :: r, 0, _ => by simp only [List.eraseIdx_cons_zero, T.sizes, List.getD_cons_zero]; omega
  | x :: r, i + 1, h => by
    have := T.sizes_erase r i (by simpa using h)
    simp only [List.eraseIdx_cons_succ, T.sizes, List.getD_cons_succ]; omega
theorem T.sizes_split (l : List T) (i : Nat) : T.sizes (l.take i) + T.sizes (l.drop i) = T.sizes l := by
  rw [← T.sizes_append, List.take_append_drop]
theorem T.at_one (t : T) (i : Int) {x : T} (h : t.at [i] = some x) : 0 ≤ i ∧ i < t.ks.length ∧ x = t.ks.getD i.toNat default := by
  rw [T.at] at h
  split at h
  · cases h
  · rename_i hn
    rw [T.at] at h
    exact ⟨by omega, by omega, by injection h with h; exact h.symm⟩
theorem T.size_setAt {y y' : T} : ∀ {p : List Int} {t : T}, t.at p = some y → (T.setAt y' t p).size + y.size = t.size + y'.size := by
  intro p
  induction p with
  | nil =>
    intro t h
    injection h with h
    subst h
    show y'.size + _ = _
    omega
  | cons i r ih =>
    intro t h
    rw [T.at] at h
    split at h
    · cases h
    · rename_i hn
      have h1 := ih h
      have h2 := T.sizes_set (T.setAt y' (t.ks.getD i.toNat default) r) t.ks i.toNat (by omega)
      rw [T.setAt, T.size, T.size_eq t]
      omega
theorem T.texts_set {k : T} : ∀ (l : List T) (i : Nat), i < l.length → k.text = (l.getD i default).text → T.texts (l.set i k) = T.texts l
  | [], _, h, _ => absurd h (Nat.not_lt_zero _)
  | x :: r, 0, _, e => by
    simp only [List.getD_cons_zero] at e
    simp only [List.set_cons_zero, T.texts, e]
  | x :: r, i + 1, h, e => by
    simp only [List.set_cons_succ, T.texts, T.texts_set r i (by simpa using h) (by simpa using e)]
theorem T.text_setAt {y y' : T} (he : y'.text = y.text) : ∀ {p : List Int} {t : T}, t.at p = some y → (T.setAt y' t p).text = t.text := by
  intro p
  induction p with
  | nil =>
    intro t h
    injection h with h
    subst h
    exact he
  | cons i r ih =>
    intro t h
    rw [T.at] at h
    split at h
    · cases h
    · rename_i hn
      rw [T.setAt, T.text, T.texts_set t.ks i.toNat (by omega) (ih h), T.text_eq t]
/-- what stands behind a change -/
theorem changed_ok {t : T} {p : List Int} {how : How} (hk : ∀ y c, how y = .inr c → c ≠ 0) (h : (changedT t p how).2 = 0) : ∃ y y', t.at p = some y ∧ how y = .inl y' ∧ changedT t p how = (T.setAt y' t p, 0) := by
  unfold changedT at h ⊢
  cases ha : t.at p with
  | none => rw [ha] at h; exact absurd h (show ¬ (5 : Int) = 0 by decide)
  | some y =>
    rw [ha] at h
    cases hh : how y with
    | inl y' => exact ⟨y, y', rfl, hh, by simp only [hh]⟩
    | inr c => simp only [hh] at h; exact absurd h (hk y c hh)
theorem put_ok {t m y : T} {p : List Int} (h : t.at p = some y) : putTr t p m = (T.setAt m t p, 0) := by
  unfold putTr changedT; rw [h]
theorem addHow_err {i : Int} {m y : T} {c : Int} (h : addHow i m y = .inr c) : c ≠ 0 := by
  unfold addHow at h
  split at h
  · injection h with h; subst h; decide
  · split at h
    · injection h with h; subst h; decide
    · cases h
/-- a node is put in -/
theorem add_ok {t m : T} {p : List Int} (h : (addT t p m).2 = 0) : p ≠ [] ∧ ∃ u, t.at (p.take (p.length - 1)) = some u ∧ u.lf = false ∧ 0 ≤ p.getD (p.length - 1) 0 ∧ p.getD (p.length - 1) 0 ≤ u.ks.length ∧
    addT t p m = (T.setAt (.mk u.lf u.ps u.ts (u.ks.take (p.getD (p.length - 1) 0).toNat ++ m :: u.ks.drop (p.getD (p.length - 1) 0).toNat)) t (p.take (p.length - 1)), 0) := by
  unfold addT at h ⊢
  split at h
  · exact absurd h (show ¬ (6 : Int) = 0 by decide)
  · rename_i hp
    refine ⟨hp, ?_⟩
    rw [if_neg hp]
    obtain ⟨u, u', hu, hh, he⟩ := changed_ok (fun _ _ => addHow_err) h
    unfold addHow at hh
    split at hh
    · cases hh
    · rename_i hlf
      split at hh
      · cases hh
      · rename_i hb
        injection hh with hh
        subst hh
        exact ⟨u, hu, by simpa using hlf, by omega, by omega, he⟩
/-- a node is taken out -/
theorem cut_ok {t : T} {p : List Int} (h : (cutT t p).2.2 = 0) : p ≠ [] ∧ ∃ u, t.at (p.take (p.length - 1)) = some u ∧ 0 ≤ p.getD (p.length - 1) 0 ∧ p.getD (p.length - 1) 0 < u.ks.length ∧ t.at p = some (u.ks.getD (p.getD (p.length - 1) 0).toNat default) ∧
    cutT t p = (T.setAt (.mk u.lf u.ps u.ts (u.ks.eraseIdx (p.getD (p.length - 1) 0).toNat)) t (p.take (p.length - 1)), u.ks.getD (p.getD (p.length - 1) 0).toNat default, 0) := by
  unfold cutT at h ⊢
  split at h
  · exact absurd h (show ¬ (6 : Int) = 0 by decide)
  · rename_i hp
    refine ⟨hp, ?_⟩
    rw [if_neg hp]
    cases ha : t.at p with
    | none => rw [ha] at h; exact absurd h (show ¬ (5 : Int) = 0 by decide)
    | some k =>
      rw [ha] at h
      obtain ⟨u, hu, h0, h1⟩ := T.at_last (List.length_pos_iff.2 hp) ha
      have e : p = p.take (p.length - 1) ++ [p.getD (p.length - 1) 0] := by
        have hpl := List.length_pos_iff.2 hp
        have h1 := List.take_append_drop (p.length - 1) p
        have h2 : p.drop (p.length - 1) = [p.getD (p.length - 1) 0] := by
          rw [List.drop_eq_getElem_cons (by omega), List.drop_of_length_le (by omega)]
          simp [List.getD, List.getElem?_eq_getElem (show p.length - 1 < p.length by omega)]
        rw [h2] at h1
        exact h1.symm
      have hk : u.at [p.getD (p.length - 1) 0] = some k := by
        rw [e, T.at_both, hu] at ha
        exact ha
      obtain ⟨_, _, hkk⟩ := T.at_one u _ hk
      subst hkk
      refine ⟨u, hu, h0, h1, rfl, ?_⟩
      have hc : changedT t (p.take (p.length - 1)) (cutHow (p.getD (p.length - 1) 0).toNat) = (T.setAt (.mk u.lf u.ps u.ts (u.ks.eraseIdx (p.getD (p.length - 1) 0).toNat)) t (p.take (p.length - 1)), 0) := by
        unfold changedT; rw [hu]; rfl
      simp only [hc]
theorem add_size {t m : T} {p : List Int} (h : (addT t p m).2 = 0) : (addT t p m).1.size = t.size + m.size := by
  obtain ⟨_, u, hu, _, _, _, he⟩ := add_ok h
  rw [he]
  have h1 := T.size_setAt (y' := .mk u.lf u.ps u.ts (u.ks.take (p.getD (p.length - 1) 0).toNat ++ m :: u.ks.drop (p.getD (p.length - 1) 0).toNat)) hu
  have h2 := T.sizes_split u.ks (p.getD (p.length - 1) 0).toNat
  rw [T.size_eq u, T.size, T.sizes_append, T.sizes] at h1
  show (T.setAt _ t _).size = _
  omega
theorem cut_size {t : T} {p : List Int} (h : (cutT t p).2.2 = 0) : (cutT t p).1.size + (cutT t p).2.1.size = t.size := by
  obtain ⟨_, u, hu, h0, h1, _, he⟩ := cut_ok h
  rw [he]
  have h2 := T.size_setAt (y' := .mk u.lf u.ps u.ts (u.ks.eraseIdx (p.getD (p.length - 1) 0).toNat)) hu
  have h3 := T.sizes_erase u.ks (p.getD (p.length - 1) 0).toNat (by omega)
  rw [T.size_eq u, T.size] at h2
  show (T.setAt _ t _).size + (u.ks.getD _ default).size = _
  omega
end Go.Proofs.YtdopncbmlehnoaaGreatDoor
