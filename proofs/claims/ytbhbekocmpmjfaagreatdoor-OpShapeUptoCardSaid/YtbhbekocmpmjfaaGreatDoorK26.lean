/- TREES CHANGED AT A PATH: their sizes and texts; plain. -/
import Derived.Test.YtbhbekocmpmjfaaGreatDoorK21
import Derived.Test.YtbhbekocmpmjfaaGreatDoorK20
import Derived.Test.YtbhbekocmpmjfaaGreatDoorK19
import Derived.Test.YtbhbekocmpmjfaaGreatDoorK22
import Derived.Test.YtbhbekocmpmjfaaGreatDoorK25
namespace Go.Proofs.YtbhbekocmpmjfaaGreatDoor
open Go Go.RowKit
theorem T.sizes_set (k : T) : ∀ (l : List T) (i : Nat), i < l.length → T.sizes (l.set i k) + (l.getD i default).size = T.sizes l + k.size
 | [], _, h => absurd h (Nat.not_lt_zero _)
 | x :: r, 0, _ => by simp only [List.set_cons_zero, T.sizes, List.getD_cons_zero]; omega
 | x :: r, i + 1, h => by
  have := T.sizes_set k r i (by simpa using h)
  simp only [List.set_cons_succ, T.sizes, List.getD_cons_succ]; omega
theorem T.sizes_erase : ∀ (l : List T) (i : Nat), i < l.length → T.sizes (l.eraseIdx i) + (l.getD i default).size = T.sizes l
 | [], _, h => absurd h (Nat.not_lt_zero _)
 | x :: r, 0, _ => by simp only [List.eraseIdx_cons_zero, T.sizes, List.getD_cons_zero]; omega
 | x :: r, i + 1, h => by
  have := T.sizes_erase r i (by simpa using h)
  simp only [List.eraseIdx_cons_succ, T.sizes, List.getD_cons_succ]; omega
theorem T.sizes_split (l : List T) (i : Nat) : T.sizes (l.take i) + T.sizes (l.drop i) = T.sizes l := by
 rw [← T.sizes_append, List.take_append_drop]
theorem T.at_one (t : T) (i : Int) {x : T} (h : t.at [i] = some x) : 0 ≤ i ∧ i < t.ks.length ∧ x = t.ks.getD i.toNat default := by
 rw [T.at] at h
 split at h
 ·cases h
 ·rename_i hn
  rw [T.at] at h
  exact ⟨by omega, by omega, by injection h with h; exact h.symm⟩
theorem T.size_setAt {y y' : T} : ∀ {p : List Int} {t : T}, t.at p = some y → (T.setAt y' t p).size + y.size = t.size + y'.size := by
 intro p
 induction p with
 | nil =>
  intro t h
  injection h with h
  subst h
  show y'.size + _ = _
  omega
 | cons i r ih =>
  intro t h
  rw [T.at] at h
  split at h
  ·cases h
  ·rename_i hn
   have h1 := ih h
   have h2 := T.sizes_set (T.setAt y' (t.ks.getD i.toNat default) r) t.ks i.toNat (by omega)
   rw [T.setAt, T.size, T.size_eq t]
   omega
theorem changed_ok {t : T} {p : List Int} {how : How} (hk : ∀ y c, how y = .inr c → c ≠ 0) (h : (zaK t p how).2 = 0) : ∃ y y', t.at p = some y ∧ how y = .inl y' ∧ zaK t p how = (T.setAt y' t p, 0) := by
 unfold zaK at h ⊢
 cases ha : t.at p with
 | none => rw [ha] at h; exact absurd h (show ¬ (5 : Int) = 0 by decide)
 | some y =>
  rw [ha] at h
  cases hh : how y with
  | inl y' => exact ⟨y, y', rfl, hh, by simp only [hh]⟩
  | inr c => simp only [hh] at h; exact absurd h (hk y c hh)
theorem put_ok {t m y : T} {p : List Int} (h : t.at p = some y) : zb3 t p m = (T.setAt m t p, 0) := by
 unfold zb3 zaK; rw [h]
theorem addHow_err {i : Int} {m y : T} {c : Int} (h : zae i m y = .inr c) : c ≠ 0 := by
 unfold zae at h
 split at h
 ·injection h with h; subst h; decide
 ·split at h
  ·injection h with h; subst h; decide
  ·cases h
theorem add_ok {t m : T} {p : List Int} (h : (addT t p m).2 = 0) : p ≠ [] ∧ ∃ u, t.at (p.take (p.length - 1)) = some u ∧ u.lf = false ∧ 0 ≤ p.getD (p.length - 1) 0 ∧ p.getD (p.length - 1) 0 ≤ u.ks.length ∧
  addT t p m = (T.setAt (.mk u.lf u.ps u.ts (u.ks.take (p.getD (p.length - 1) 0).toNat ++ m :: u.ks.drop (p.getD (p.length - 1) 0).toNat)) t (p.take (p.length - 1)), 0) := by
 unfold addT at h ⊢
 split at h
 ·exact absurd h (show ¬ (6 : Int) = 0 by decide)
 ·rename_i hp
  refine ⟨hp, ?_⟩
  rw [if_neg hp]
  obtain ⟨u, u', hu, hh, he⟩ := changed_ok (fun _ _ => addHow_err) h
  unfold zae at hh
  split at hh
  ·cases hh
  ·rename_i hlf
   split at hh
   ·cases hh
   ·rename_i hb
    injection hh with hh
    subst hh
    exact ⟨u, hu, by simpa using hlf, by omega, by omega, he⟩
theorem cut_ok {t : T} {p : List Int} (h : (cutT t p).2.2 = 0) : p ≠ [] ∧ ∃ u, t.at (p.take (p.length - 1)) = some u ∧ 0 ≤ p.getD (p.length - 1) 0 ∧ p.getD (p.length - 1) 0 < u.ks.length ∧ t.at p = some (u.ks.getD (p.getD (p.length - 1) 0).toNat default) ∧
  cutT t p = (T.setAt (.mk u.lf u.ps u.ts (u.ks.eraseIdx (p.getD (p.length - 1) 0).toNat)) t (p.take (p.length - 1)), u.ks.getD (p.getD (p.length - 1) 0).toNat default, 0) := by
 unfold cutT at h ⊢
 split at h
 ·exact absurd h (show ¬ (6 : Int) = 0 by decide)
 ·rename_i hp
  refine ⟨hp, ?_⟩
  rw [if_neg hp]
  cases ha : t.at p with
  | none => rw [ha] at h; exact absurd h (show ¬ (5 : Int) = 0 by decide)
  | some k =>
   rw [ha] at h
   obtain ⟨u, hu, h0, h1⟩ := T.at_last (List.length_pos_iff.2 hp) ha
   have e : p = p.take (p.length - 1) ++ [p.getD (p.length - 1) 0] := by
    have hpl := List.length_pos_iff.2 hp
    have h1 := List.take_append_drop (p.length - 1) p
    have h2 : p.drop (p.length - 1) = [p.getD (p.length - 1) 0] := by
     rw [List.drop_eq_getElem_cons (by omega), List.drop_of_length_le (by omega)]
     simp [List.getD, List.getElem?_eq_getElem (show p.length - 1 < p.length by omega)]
    rw [h2] at h1
    exact h1.symm
   have hk : u.at [p.getD (p.length - 1) 0] = some k := by
    rw [e, T.at_both, hu] at ha
    exact ha
   obtain ⟨_, _, hkk⟩ := T.at_one u _ hk
   subst hkk
   refine ⟨u, hu, h0, h1, rfl, ?_⟩
   have hc : zaK t (p.take (p.length - 1)) (zaV (p.getD (p.length - 1) 0).toNat) = (T.setAt (.mk u.lf u.ps u.ts (u.ks.eraseIdx (p.getD (p.length - 1) 0).toNat)) t (p.take (p.length - 1)), 0) := by
    unfold zaK; rw [hu]; rfl
   simp only [hc]
theorem add_size {t m : T} {p : List Int} (h : (addT t p m).2 = 0) : (addT t p m).1.size = t.size + m.size := by
 obtain ⟨_, u, hu, _, _, _, he⟩ := add_ok h
 rw [he]
 have h1 := T.size_setAt (y' := .mk u.lf u.ps u.ts (u.ks.take (p.getD (p.length - 1) 0).toNat ++ m :: u.ks.drop (p.getD (p.length - 1) 0).toNat)) hu
 have h2 := T.sizes_split u.ks (p.getD (p.length - 1) 0).toNat
 rw [T.size_eq u, T.size, T.sizes_append, T.sizes] at h1
 show (T.setAt _ t _).size = _
 omega
theorem cut_size {t : T} {p : List Int} (h : (cutT t p).2.2 = 0) : (cutT t p).1.size + (cutT t p).2.1.size = t.size := by
 obtain ⟨_, u, hu, h0, h1, _, he⟩ := cut_ok h
 rw [he]
 have h2 := T.size_setAt (y' := .mk u.lf u.ps u.ts (u.ks.eraseIdx (p.getD (p.length - 1) 0).toNat)) hu
 have h3 := T.sizes_erase u.ks (p.getD (p.length - 1) 0).toNat (by omega)
 rw [T.size_eq u, T.size] at h2
 show (T.setAt _ t _).size + (u.ks.getD _ default).size = _
 omega
end Go.Proofs.YtbhbekocmpmjfaaGreatDoor
