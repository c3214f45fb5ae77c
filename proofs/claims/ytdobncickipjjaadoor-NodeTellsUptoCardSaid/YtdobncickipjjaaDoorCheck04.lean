/- node.own, node.Check: the contracts. -/
import Derived.Test.YtdobncickipjjaaDoorCheck01
import Derived.Test.YtdobncickipjjaaDoorCheck03
import Derived.Test.YtdobncickipjjaaDoorSize
namespace Go.Proofs.YtdobncickipjjaaDoor
open Go Go.RowKit

set_option maxHeartbeats 1000000 in
theorem own_any (n : NT) (w : World) (lo hi : Nat) (hn : n.In w lo hi) (hh : hi ≤ w.heap.size) (hb : n.er.bulk ≤ 1048576) :
    Calls Tryd.prog 30 #[n.val] w fun e w' => e = .returned (.int .i64 n.er.own) ∧ Grew w w' := by
  have hi3 := NT.In_iff.1 hn
  have hlens := n.lens
  have hpb : propsBulk n.ps ≤ 1048576 := by have := n.er.bulk_eq; simp only [NT.er_ps, NT.er_ts, NT.er_ks] at this; omega
  have C1 := Lib.hid (fun w' (hg : Grew w w') => check01_any n.ps n.pa n.pc w' _ _ (hi3.1.grew hg hh) (Nat.le_trans hh hg.size) hpb)
  have C3 := Lib.hid (fun w' (hg : Grew w w') => check03_any n.ts n.ta n.tc w' _ _ (hi3.2.1.grew hg hh) (Nat.le_trans hh hg.size) (by omega))
  have HO : Hid (n.er.own = if checkPs n.ps ≠ 0 then checkPs n.ps else if (n.lf && decide (0 < n.ks.length)) || (!n.lf && decide (0 < n.ts.length)) then 7 else checkRs n.ts) := by
    show _ = _
    simp [T.own]
  have l2 : n.ts.length ≤ 1048576 := by omega
  have l3 : n.ks.length ≤ 1048576 := by omega
  clear hlens hi3
  generalize hcp : checkPs n.ps = cp at *
  clear hcp
  unfold NT.val
  by_cases hz : cp = 0
  · subst hz
    cases hlf : n.lf with
    | true =>
      by_cases hk : 0 < n.ks.length
      · have HE : Hid (n.er.own = 7) := by show _ = _; rw [HO.out]; simp [hlf, hk]
        clear HO
        go_enter Tryd.func30, Tryd.ntmps30
        go_wp2_with fail
        refine (C1.out _ (Grew.alloc1 _ _)).mono ?_
        rintro e w1 ⟨rfl, g1⟩
        obtain ⟨c0, c1, c2, c3, z1⟩ := box4 g1
        go_wp2_with fail
        go_ret
        exact ⟨ret_int HE.out.symm, (Grew.alloc1 _ _).trans g1⟩
      · have HE : Hid (n.er.own = checkRs n.ts) := by show _ = _; rw [HO.out]; simp [hlf, hk]
        have hk0 : n.ks.length = 0 := by omega
        clear HO hk
        go_enter Tryd.func30, Tryd.ntmps30
        go_wp2_with fail
        refine (C1.out _ (Grew.alloc1 _ _)).mono ?_
        rintro e w1 ⟨rfl, g1⟩
        obtain ⟨c0, c1, c2, c3, z1⟩ := box4 g1
        go_wp2_with fail
        refine (C3.out _ ((Grew.alloc1 _ _).trans g1)).mono ?_
        rintro e w2 ⟨rfl, g2⟩
        go_wp2_with fail
        go_ret
        exact ⟨ret_int HE.out.symm, (Grew.alloc1 _ _).trans (g1.trans g2)⟩
    | false =>
      by_cases hk : 0 < n.ts.length
      · have HE : Hid (n.er.own = 7) := by show _ = _; rw [HO.out]; simp [hlf, hk]
        clear HO
        go_enter Tryd.func30, Tryd.ntmps30
        go_wp2_with fail
        refine (C1.out _ (Grew.alloc1 _ _)).mono ?_
        rintro e w1 ⟨rfl, g1⟩
        obtain ⟨c0, c1, c2, c3, z1⟩ := box4 g1
        go_wp2_with fail
        go_ret
        exact ⟨ret_int HE.out.symm, (Grew.alloc1 _ _).trans g1⟩
      · have HE : Hid (n.er.own = checkRs n.ts) := by show _ = _; rw [HO.out]; simp [hlf, hk]
        have hk0 : n.ts.length = 0 := by omega
        simp only [hk0] at C1 C3
        clear HO hk
        go_enter Tryd.func30, Tryd.ntmps30
        go_wp2_with fail
        refine (C1.out _ (Grew.alloc1 _ _)).mono ?_
        rintro e w1 ⟨rfl, g1⟩
        obtain ⟨c0, c1, c2, c3, z1⟩ := box4 g1
        go_wp2_with fail
        refine (C3.out _ ((Grew.alloc1 _ _).trans g1)).mono ?_
        rintro e w2 ⟨rfl, g2⟩
        go_wp2_with fail
        go_ret
        exact ⟨ret_int HE.out.symm, (Grew.alloc1 _ _).trans (g1.trans g2)⟩
  · have HE : Hid (n.er.own = cp) := by show _ = _; rw [HO.out]; simp [hz]
    have hne : (cp == 0) = false := by simpa using hz
    have hne2 : (cp != 0) = true := by simpa using hz
    clear HO
    go_enter Tryd.func30, Tryd.ntmps30
    go_wp2_with fail
    refine (C1.out _ (Grew.alloc1 _ _)).mono ?_
    rintro e w1 ⟨rfl, g1⟩
    go_wp2_with fail
    go_ret
    exact ⟨ret_int HE.out.symm, (Grew.alloc1 _ _).trans g1⟩

/-- the first that is wrong -/
def firstErr : List NT → Int
  | [] => 0
  | x :: r => if x.er.own ≠ 0 then x.er.own else firstErr r
theorem firstErr_append (a b : List NT) : firstErr (a ++ b) = if firstErr a ≠ 0 then firstErr a else firstErr b := by
  induction a with
  | nil => simp [firstErr]
  | cons x r ih =>
    simp only [List.cons_append, firstErr, ih]
    by_cases h : x.er.own = 0 <;> simp [h]
theorem firstErr_pre (n : NT) : firstErr n.pre = n.er.chk := by
  induction n using NT.ind with
  | h n ih =>
    have hl : ∀ l : List NT, (∀ k ∈ l, firstErr k.pre = k.er.chk) → firstErr (l.flatMap NT.pre) = T.chks (l.map NT.er) := by
      intro l
      induction l with
      | nil => intro _; rfl
      | cons x r ihr =>
        intro h
        simp only [List.flatMap_cons, firstErr_append, List.map_cons, T.chks]
        rw [h x (by simp), ihr (fun k hk => h k (by simp [hk]))]
    rw [NT.pre_eq, T.chk_eq, NT.er_ks, ← hl n.ks ih]
    rfl
theorem firstErr_all {l : List NT} (h : ∀ (j : Nat) (x : NT), l[j]? = some x → x.er.own = 0) : firstErr l = 0 := by
  induction l with
  | nil => rfl
  | cons x r ih =>
    have h0 := h 0 x rfl
    have := ih (fun j y hy => h (j + 1) y (by simpa using hy))
    simp [firstErr, h0, this]
theorem firstErr_at {l : List NT} {i : Nat} {x : NT} (hx : l[i]? = some x) (hne : x.er.own ≠ 0) (h : ∀ (j : Nat) (y : NT), j < i → l[j]? = some y → y.er.own = 0) : firstErr l = x.er.own := by
  induction l generalizing i with
  | nil => simp at hx
  | cons y r ih =>
    cases i with
    | zero =>
      obtain rfl : y = x := by simpa using hx
      simp [firstErr, hne]
    | succ i =>
      have h0 := h 0 y (by omega) rfl
      have := ih (i := i) (by simpa using hx) (fun j z hj hz => h (j + 1) z (by omega) (by simpa using hz))
      simp [firstErr, h0, this]

/-- the closure's own cell behind i nodes: nothing is wrong -/
def CheckI (n : NT) (s : Nat) (i : Nat) (O : Nat → Prop) (w : World) : Prop :=
  w.cell? ⟨s, 0, none⟩ = some (.int .i64 0) ∧ w.frozen? ⟨s, 0, none⟩ = false ∧ s < w.heap.size ∧ O s ∧ (∀ k, O k → k = s) ∧ ∀ (j : Nat) (y : NT), j < i → n.pre[j]? = some y → y.er.own = 0
def CheckJ (n : NT) (s : Nat) (_ : Nat) (w : World) : Prop :=
  w.cell? ⟨s, 0, none⟩ = some (.int .i64 n.er.chk)

set_option maxHeartbeats 400000 in
theorem checkTo_any (n : NT) (s : Nat) (lo hi : Nat) (hbs : ∀ (i : Nat) (x : NT), n.pre[i]? = some x → x.er.bulk ≤ 1048576) :
    WTo n.pre 29 #[.pointer (some ⟨s, 0, none⟩)] lo hi (CheckI n s) (CheckJ n s) := by
  intro i x hx O w ⟨hc, hf, hsz, hO1, hO2, hall⟩ hin hhi hS
  have C := Lib.hid (fun w' (hg : Grew w w') => own_any x w' lo hi (hin.grew hg hhi) (Nat.le_trans hhi hg.size) (hbs i x hx))
  by_cases hz : x.er.own = 0
  · have HA : Hid (∀ (j : Nat) (y : NT), j < i + 1 → n.pre[j]? = some y → y.er.own = 0) := fun j y hj hy => by
      rcases Nat.lt_or_ge j i with h | h
      · exact hall j y h hy
      · obtain rfl : j = i := by omega
        rw [hx] at hy
        obtain rfl := Option.some.inj hy
        exact hz
    rw [hz] at C
    clear hx hin hS hO2 hall hz hbs
    simp only [NT.val, List.append_toArray, List.cons_append, List.nil_append]
    go_enter Tryd.func29, Tryd.ntmps29
    go_wp2_with fail
    have hz1 : s < (w.alloc (Obj.cells #[.bool x.lf, .slice x.pa x.ps.length x.pc, .slice x.ta x.ts.length x.tc, .slice x.ka x.ks.length x.kc] 26)).heap.size := by simp; omega
    refine (C.out _ (Grew.alloc1 _ _)).mono ?_
    rintro e w1 ⟨rfl, g1⟩
    have g1' := (Grew.alloc1 _ _).trans g1
    have hc1 : w1.cell? ⟨s, 0, none⟩ = some (.int .i64 0) := (g1'.cell hsz).trans hc
    have hf1 : w1.frozen? ⟨s, 0, none⟩ = false := (g1'.frozen hsz).trans hf
    have hs1 : s < w1.heap.size := Nat.lt_of_lt_of_le hz1 g1.size
    clear hc hf
    go_wp2_with fail
    go_ret
    refine ⟨(· = s), ⟨((Keeps.of_below g1').setCell (Or.inr hO1) _), fun k hk => Or.inl (by subst hk; exact hO1)⟩, Or.inl ⟨rfl, ?_, ?_, ?_, rfl, fun _ h => h, HA.out⟩⟩
    · exact World.cell?_setCell_same _ _ _ hc1
    · rw [World.frozen?_setCell]; exact hf1
    · simpa [World.setCell] using hs1
  · have HF := Lib.hid ((firstErr_pre n).symm.trans (firstErr_at hx hz hall))
    have hne : (x.er.own == 0) = false := by simpa using hz
    clear hx hin hS hO2 hall hz hbs
    generalize x.er.own = v at *
    simp only [NT.val, List.append_toArray, List.cons_append, List.nil_append]
    go_enter Tryd.func29, Tryd.ntmps29
    go_wp2_with fail
    have hz1 : s < (w.alloc (Obj.cells #[.bool x.lf, .slice x.pa x.ps.length x.pc, .slice x.ta x.ts.length x.tc, .slice x.ka x.ks.length x.kc] 26)).heap.size := by simp; omega
    refine (C.out _ (Grew.alloc1 _ _)).mono ?_
    rintro e w1 ⟨rfl, g1⟩
    have g1' := (Grew.alloc1 _ _).trans g1
    have hc1 : w1.cell? ⟨s, 0, none⟩ = some (.int .i64 0) := (g1'.cell hsz).trans hc
    have hf1 : w1.frozen? ⟨s, 0, none⟩ = false := (g1'.frozen hsz).trans hf
    have hs1 : s < w1.heap.size := Nat.lt_of_lt_of_le hz1 g1.size
    clear hc hf
    go_wp2_with fail
    go_ret
    refine ⟨(· = s), ⟨((Keeps.of_below g1').setCell (Or.inr hO1) _), fun k hk => Or.inl (by subst hk; exact hO1)⟩, Or.inr ⟨rfl, ?_⟩⟩
    show World.cell? _ _ = some (Value.int .i64 n.er.chk)
    rw [HF.out]
    exact World.cell?_setCell_same _ _ _ hc1

theorem NT.pre_bulk (n : NT) : ∀ x ∈ n.pre, x.er.bulk ≤ n.er.bulk := by
  induction n using NT.ind with
  | h n ih =>
    intro x hx
    rw [NT.pre_eq, List.mem_cons] at hx
    rcases hx with rfl | hx
    · exact Nat.le_refl _
    · obtain ⟨k, hk, hx⟩ := List.mem_flatMap.1 hx
      have h1 := ih k hk x hx
      have h2 := T.bulk_kid (n := n.er) (k := k.er) (by rw [NT.er_ks]; exact er_mem hk)
      omega

set_option maxHeartbeats 400000 in
theorem check04_any (n : NT) (w : World) (hn : n.Ok w) (hb : n.er.bulk ≤ 1048576) :
    Calls Tryd.prog 9 #[n.val] w fun e w' => e = .returned (.int .i64 n.er.chk) ∧ Grew w w' := by
  have SZ := Lib.hid (fun w' (hg : Grew w w') => size_any n w' (hn.grew hg) hb)
  have hle : n.er.size ≤ 1048576 := by have := T.size_le n.er; omega
  have C := Lib.hid (fun s (hs : w.heap.size ≤ s) w1 => walk_any 29 #[.pointer (some ⟨s, 0, none⟩)] 0 w.heap.size (CheckI n s) (CheckJ n s) n (· = s) w1 Tryd.call29 (checkTo_any n s 0 w.heap.size (fun i x hx => by have := NT.pre_bulk n x (List.mem_of_getElem? hx); omega))
    (fun i O w w' h hg => ⟨(hg.cell h.2.2.1).trans h.1, (hg.frozen h.2.2.1).trans h.2.1, Nat.lt_of_lt_of_le h.2.2.1 hg.size, h.2.2.2⟩) (fun i O w h k hk => by rw [h.2.2.2.2.1 k hk]; exact h.2.2.1) (fun k _ h2 => by omega) hb)
  have HO := Lib.hid (firstErr_pre n)
  generalize n.er.size = sz at *
  unfold NT.val
  go_enter Tryd.func9, Tryd.ntmps9
  go_wp2_with fail
  refine (SZ.out _ (Grew.alloc1 _ _)).mono ?_
  rintro e w1 ⟨rfl, g1⟩
  have g1' := (Grew.alloc1 _ _).trans g1
  obtain ⟨c0, c1, c2, c3, z1⟩ := box4 g1
  go_wp2_with fail
  have g2 := g1'.trans (Grew.alloc1 w1 (Obj.cells #[.int .i64 0] 29))
  refine (C.out w1.heap.size g1'.size _ (NT.In.grew hn g2 (Nat.le_refl _)) g2.size ⟨by go_simp, by go_simp, by simp, rfl, fun _ h => h, fun j y hj => by omega⟩).mono ?_
  rintro e w2 ⟨O2, hk2, ⟨rfl, hI2⟩ | ⟨rfl, j, hJ⟩⟩
  · have hc := hI2.1
    have HZ : Hid (n.er.chk = 0) := by
      show _ = _
      rw [← HO.out]
      exact firstErr_all (fun j x hx => hI2.2.2.2.2.2 j x (by
        rcases Nat.lt_or_ge j n.pre.length with h | h
        · exact h
        · rw [List.getElem?_eq_none h] at hx; cases hx) hx)
    go_wp2_with fail
    go_ret
    exact ⟨ret_int HZ.out.symm, g2.keep hk2.1 (fun k h => by subst h; have := g1'.size; omega)⟩
  · have hc : w2.cell? ⟨w1.heap.size, 0, none⟩ = some (.int .i64 n.er.chk) := hJ
    go_wp2_with fail
    go_ret
    exact ⟨rfl, g2.keep hk2.1 (fun k h => by subst h; have := g1'.size; omega)⟩
end Go.Proofs.YtdobncickipjjaaDoor
