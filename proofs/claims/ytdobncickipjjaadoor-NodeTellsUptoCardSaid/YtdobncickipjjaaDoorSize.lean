/- node.Size: the contract. -/
import Derived.Test.YtdobncickipjjaaDoorWalk
namespace Go.Proofs.YtdobncickipjjaaDoor
open Go Go.RowKit

mutual
def T.size : T → Nat
  | .mk _ _ ts ks => 1 + ts.length + T.sizes ks
def T.sizes : List T → Nat
  | [] => 0
  | k :: r => T.size k + T.sizes r
end
theorem T.size_eq (t : T) : t.size = 1 + t.ts.length + T.sizes t.ks := by cases t; simp [T.size]
theorem T.sizes_sum (l : List T) : T.sizes l = (l.map T.size).sum := by
  induction l with
  | nil => rfl
  | cons x r ih => simp [T.sizes, ih]
theorem T.size_le (t : T) : t.size ≤ t.bulk := by
  induction t using T.ind with
  | h t ih =>
    have : T.sizes t.ks ≤ T.bulkAll t.ks := by
      generalize t.ks = l at ih
      induction l with
      | nil => simp [T.sizes]
      | cons x r ihr =>
        have h1 := ih x (by simp)
        have h2 := ihr (fun k hk => ih k (by simp [hk]))
        simp only [T.sizes, T.bulkAll]; omega
    rw [T.size_eq, T.bulk_eq]; omega
theorem T.sizes_append (a b : List T) : T.sizes (a ++ b) = T.sizes a + T.sizes b := by simp [T.sizes_sum]
theorem T.sizes_take_le (l : List T) (k : Nat) : T.sizes (l.take k) ≤ T.sizes l := by
  conv => rhs; rw [← List.take_append_drop k l, T.sizes_append]
  omega
/-- what the nodes of a list have by themselves -/
def ownSizes (l : List NT) : Nat := (l.map fun x => 1 + x.ts.length).sum
theorem ownSizes_append (a b : List NT) : ownSizes (a ++ b) = ownSizes a + ownSizes b := by simp [ownSizes]
theorem ownSizes_pre (n : NT) : ownSizes n.pre = n.er.size := by
  induction n using NT.ind with
  | h n ih =>
    have hl : ∀ l : List NT, (∀ k ∈ l, ownSizes k.pre = k.er.size) → ownSizes (l.flatMap NT.pre) = T.sizes (l.map NT.er) := by
      intro l
      induction l with
      | nil => intro _; rfl
      | cons x r ihr =>
        intro h
        simp only [List.flatMap_cons, ownSizes_append, List.map_cons, T.sizes]
        rw [h x (by simp), ihr (fun k hk => h k (by simp [hk]))]
    rw [NT.pre_eq, T.size_eq, NT.er_ks, NT.er_ts, ← hl n.ks ih]
    simp [ownSizes]
theorem ownSizes_take (l : List NT) (i : Nat) (x : NT) (h : l[i]? = some x) : ownSizes (l.take (i + 1)) = ownSizes (l.take i) + (1 + x.ts.length) := by
  have hi : i < l.length := by
    rcases Nat.lt_or_ge i l.length with h1 | h1
    · exact h1
    · rw [List.getElem?_eq_none h1] at h; cases h
  rw [List.take_succ_eq_append_getElem hi, ownSizes_append]
  have : l[i] = x := by rw [List.getElem?_eq_getElem hi] at h; exact Option.some.inj h
  simp [ownSizes, this]
theorem ownSizes_take_le (l : List NT) (i : Nat) : ownSizes (l.take i) ≤ ownSizes l := by
  conv => rhs; rw [← List.take_append_drop i l, ownSizes_append]
  omega

/-- the closure's own cell behind i nodes -/
def SizeI (n : NT) (s : Nat) (i : Nat) (O : Nat → Prop) (w : World) : Prop :=
  w.cell? ⟨s, 0, none⟩ = some (.int .i64 (ownSizes (n.pre.take i) : Nat)) ∧ w.frozen? ⟨s, 0, none⟩ = false ∧ s < w.heap.size ∧ O s ∧ ∀ k, O k → k = s
def NoJ (_ : Nat) (_ : World) : Prop := False

set_option maxHeartbeats 400000 in
theorem sizeTo_any (n : NT) (hb : n.er.bulk ≤ 1048576) (s : Nat) (lo hi : Nat) :
    WTo n.pre 34 #[.pointer (some ⟨s, 0, none⟩)] lo hi (SizeI n s) NoJ := by
  intro i x hx O w ⟨hc, hf, hsz, hO1, hO2⟩ hin hhi hS
  have hle := ownSizes_take_le n.pre i
  have hle2 := ownSizes_take_le n.pre (i + 1)
  have hsl := T.size_le n.er
  rw [ownSizes_pre] at hle hle2
  have HX := Lib.hid (ownSizes_take n.pre i x hx)
  rw [HX.out] at hle2
  generalize ownSizes (n.pre.take i) = a at *
  have ha : a ≤ 1048576 := by omega
  have hl : x.ts.length ≤ 1048576 := by omega
  clear hx hle hle2 hin hS hO2
  simp only [NT.val, List.append_toArray, List.cons_append, List.nil_append]
  go_enter Tryd.func34, Tryd.ntmps34
  go_wp2_with fail
  go_ret
  refine ⟨(· = s), ⟨Keeps.alloc ((Keeps.refl _ _).setCell (Or.inr hO1) _) _, fun k hk => Or.inl (by subst hk; exact hO1)⟩, Or.inl ⟨rfl, ?_, ?_, ?_, rfl, fun _ h => h⟩⟩
  · rw [World.cell?_alloc_past _ _ _ (by simpa [World.setCell] using hsz), World.cell?_setCell_same _ _ _ hc, HX.out]
    simp
  · rw [World.frozen?_alloc_past _ _ _ (by simpa [World.setCell] using hsz), World.frozen?_setCell]
    exact hf
  · simp [World.setCell]; omega

set_option maxHeartbeats 400000 in
theorem size_any (n : NT) (w : World) (hn : n.Ok w) (hb : n.er.bulk ≤ 1048576) :
    Calls Tryd.prog 11 #[n.val] w fun e w' => e = .returned (.int .i64 n.er.size) ∧ Grew w w' := by
  have C := Lib.hid (fun s (hs : w.heap.size ≤ s) w1 => walk_any 34 #[.pointer (some ⟨s, 0, none⟩)] 0 w.heap.size (SizeI n s) NoJ n (· = s) w1 Tryd.call34 (sizeTo_any n hb s 0 w.heap.size)
    (fun i O w w' h hg => ⟨(hg.cell h.2.2.1).trans h.1, (hg.frozen h.2.2.1).trans h.2.1, Nat.lt_of_lt_of_le h.2.2.1 hg.size, h.2.2.2⟩) (fun i O w h k hk => by rw [h.2.2.2.2 k hk]; exact h.2.2.1) (fun k _ h2 => by omega) hb)
  have HO := Lib.hid (ownSizes_pre n)
  unfold NT.val
  go_enter Tryd.func11, Tryd.ntmps11
  go_wp2_with fail
  have hg : ∀ o1 o2, Grew w ((w.alloc o1).alloc o2) := fun o1 o2 => ((Grew.refl w).alloc o1).alloc o2
  refine (C.out (w.heap.size + 1) (by omega) _ (NT.In.grew hn (hg _ _) (Nat.le_refl _)) (hg _ _).size ⟨by go_simp; simp [ownSizes], by go_simp, by simp, rfl, fun _ h => h⟩).mono ?_
  rintro e w2 ⟨O2, hk2, ⟨rfl, hI2⟩ | ⟨rfl, j, hJ⟩⟩
  · have hc := hI2.1
    rw [List.take_length, HO.out] at hc
    go_wp2_with fail
    go_ret
    exact ⟨rfl, (hg _ _).keep hk2.1 (fun k h => by subst h; omega)⟩
  · exact absurd hJ id
end Go.Proofs.YtdobncickipjjaaDoor
