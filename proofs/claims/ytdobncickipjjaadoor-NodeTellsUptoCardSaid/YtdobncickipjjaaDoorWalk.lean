/- node.walk and what it calls: the contracts, for whatever function value is handed in. -/
import Derived.Test.YtdobncickipjjaaDoorIndex
namespace Go.Proofs.YtdobncickipjjaaDoor
open Go Go.RowKit

/-- the nodes of a tree, in order -/
def NT.pre : NT → List NT
  | .mk lf pa pc ps ta tc ts ka kc ks => .mk lf pa pc ps ta tc ts ka kc ks :: NT.pres ks
  where NT.pres : List NT → List NT
  | [] => []
  | k :: r => NT.pre k ++ NT.pres r
theorem NT.pres_eq (l : List NT) : NT.pre.NT.pres l = l.flatMap NT.pre := by
  induction l with
  | nil => rfl
  | cons x r ih => simp [NT.pre.NT.pres, ih]
theorem NT.pre_eq (n : NT) : n.pre = n :: n.ks.flatMap NT.pre := by cases n; simp [NT.pre, NT.pres_eq]

/-- how many nodes stand ahead of the j-th of a list -/
def offs (ks : List NT) (j : Nat) : Nat := ((ks.take j).flatMap NT.pre).length
theorem offs_zero (ks : List NT) : offs ks 0 = 0 := by simp [offs]
theorem offs_succ (ks : List NT) (j : Nat) (h : j < ks.length) : offs ks (j + 1) = offs ks j + (ks.getD j default).pre.length := by
  unfold offs
  rw [List.take_succ_eq_append_getElem h, List.flatMap_append, List.length_append]
  congr 1
  simp [List.getD, List.getElem?_eq_getElem h]
theorem offs_end (n : NT) : 1 + offs n.ks n.ks.length = n.pre.length := by
  unfold offs; rw [List.take_length, NT.pre_eq]; simp; omega
theorem pre_kid {L : List NT} {i : Nat} {n : NT} (h : n.pre <+: L.drop i) (j : Nat) (hj : j < n.ks.length) : (n.ks.getD j default).pre <+: L.drop (i + 1 + offs n.ks j) := by
  obtain ⟨rest, hr⟩ := h
  rw [NT.pre_eq] at hr
  have h1 : L.drop (i + 1) = n.ks.flatMap NT.pre ++ rest := by
    rw [← List.tail_drop, ← hr]; rfl
  have h2 : n.ks.flatMap NT.pre = (n.ks.take j).flatMap NT.pre ++ ((n.ks.getD j default).pre ++ (n.ks.drop (j + 1)).flatMap NT.pre) := by
    conv => lhs; rw [← List.take_append_drop j n.ks, drop_cons n.ks j hj]
    simp
  rw [← List.drop_drop, h1, h2, List.append_assoc, offs, List.drop_left, List.append_assoc]
  exact ⟨_, rfl⟩
theorem pre_head {L : List NT} {i : Nat} {n : NT} (h : n.pre <+: L.drop i) : L[i]? = some n := by
  obtain ⟨rest, hr⟩ := h
  rw [NT.pre_eq] at hr
  have : (L.drop i)[0]? = some n := by rw [← hr]; rfl
  simpa using this

/-- what node.walk lays: the function that is handed in, and the closure that calls itself -/
def WEnv (tf : FuncId) (caps : Array Value) (bt be : Nat) (w : World) : Prop :=
  w.cell? ⟨bt, 0, none⟩ = some (.func (.func tf) #[] caps) ∧ w.cell? ⟨be, 0, none⟩ = some (.func (.func 43) #[] #[.pointer (some ⟨bt, 0, none⟩), .pointer (some ⟨be, 0, none⟩)]) ∧ bt < w.heap.size ∧ be < w.heap.size
theorem WEnv.keeps {tf : FuncId} {caps : Array Value} {bt be : Nat} {w w' : World} {S : Nat → Prop} (h : WEnv tf caps bt be w) (hk : Keeps S w w') (h1 : ¬ S bt) (h2 : ¬ S be) : WEnv tf caps bt be w' :=
  ⟨(hk.cell (p := ⟨bt, 0, none⟩) h.2.2.1 h1).trans h.1, (hk.cell (p := ⟨be, 0, none⟩) h.2.2.2 h2).trans h.2.1, Nat.lt_of_lt_of_le h.2.2.1 hk.size, Nat.lt_of_lt_of_le h.2.2.2 hk.size⟩

section
variable (L : List NT) (tf : FuncId) (caps : Array Value) (lo hi bt be : Nat) (I : Nat → (Nat → Prop) → World → Prop) (J : Nat → World → Prop)

/-- what is asked of the function that is handed in -/
def WTo : Prop := ∀ i x, L[i]? = some x → ∀ O w, I i O w → x.In w lo hi → hi ≤ w.heap.size → (∀ k, lo ≤ k → k < hi → ¬ O k) →
  Calls Tryd.prog tf (#[x.val] ++ caps) w fun e w' => ∃ O', Moves O w O' w' ∧ ((e = .returned (.bool true) ∧ I (i + 1) O' w') ∨ (e = .returned (.bool false) ∧ J i w'))

set_option maxHeartbeats 400000 in
theorem each_any (eg : ∀ args w, (callFunc tf args).run Tryd.prog w = .ok (.enter tf args) w) (hto : WTo L tf caps lo hi I J) (hst : ∀ i O w w', I i O w → Grew w w' → I i O w')
    (hlt : ∀ i O w, I i O w → ∀ k, O k → k < w.heap.size) (n : NT) :
    ∀ (i : Nat) (O : Nat → Prop) (w : World), n.pre <+: L.drop i → n.er.bulk ≤ 1048576 → n.In w lo hi → hi ≤ w.heap.size → (∀ k, lo ≤ k → k < hi → ¬ O k) → ¬ O bt → ¬ O be → I i O w → WEnv tf caps bt be w →
      Calls Tryd.prog 43 #[n.val, .pointer (some ⟨bt, 0, none⟩), .pointer (some ⟨be, 0, none⟩)] w fun e w' =>
        ∃ O', Moves O w O' w' ∧ ((e = .returned (.bool true) ∧ I (i + n.pre.length) O' w') ∨ (e = .returned (.bool false) ∧ ∃ j, J j w')) := by
  induction n using NT.ind with
  | h n ih =>
  intro i O w hpre hb hn hhi hS hbt hbe hI hE
  have hlens := n.lens
  have HI := Lib.hid ih
  clear ih
  have HTO := Lib.hid (hto i n (pre_head hpre) O (w.alloc (Obj.cells #[.bool n.lf, .slice n.pa n.ps.length n.pc, .slice n.ta n.ts.length n.tc, .slice n.ka n.ks.length n.kc] 26)) (hst _ _ _ _ hI (Grew.alloc1 _ _)) (hn.grew (Grew.alloc1 _ _) hhi) (by simp; omega) hS)
  clear hto
  have hE1 := hE.1
  have hE2 := hE.2.1
  have z1 := hE.2.2.1
  have z2 := hE.2.2.2
  have hbox : ¬ O w.heap.size := fun h => by have := hlt _ _ _ hI _ h; omega
  unfold NT.val
  go_enter Tryd.func43, Tryd.ntmps43
  go_wp2_with fail
  obtain ⟨w1, hw1⟩ : ∃ w1, w1 = w.alloc (Obj.cells #[.bool n.lf, .slice n.pa n.ps.length n.pc, .slice n.ta n.ts.length n.tc, .slice n.ka n.ks.length n.kc] 26) := ⟨_, rfl⟩
  have b1 : Grew w w1 := by rw [hw1]; exact Grew.alloc1 _ _
  have c3 : w1.cell? ⟨w.heap.size, 3, none⟩ = some (.slice n.ka n.ks.length n.kc) := by rw [hw1]; go_simp
  have zz : w.heap.size < w1.heap.size := by rw [hw1]; simp
  rw [← hw1] at HTO ⊢
  clear hw1
  refine HTO.out.mono ?_
  have hE' := hE.keeps (b1.keeps O) hbt hbe
  rintro e w2 ⟨O2, hk2, ⟨rfl, hI2⟩ | ⟨rfl, hJ⟩⟩
  · have hE2' := hE'.keeps hk2.1 hbt hbe
    have hbt2 : ¬ O2 bt := hk2.notin hbt (by omega)
    have hbe2 : ¬ O2 be := hk2.notin hbe (by omega)
    have hS2 : ∀ k, lo ≤ k → k < hi → ¬ O2 k := fun k h1 h2 => hk2.notin (hS k h1 h2) (by omega)
    have d3 : w2.cell? ⟨w.heap.size, 3, none⟩ = some (.slice n.ka n.ks.length n.kc) := by
      rw [hk2.1.cell (by exact zz) hbox]; exact c3
    have hh1 : hi ≤ w1.heap.size := Nat.le_trans hhi b1.size
    have hkk := (NT.In_iff.1 ((hn.grew b1 hhi).agree (hk2.1.agree hh1 hS))).2.2
    have hh2 : hi ≤ w2.heap.size := Nat.le_trans hh1 hk2.1.size
    have hlen : n.ks.length ≤ 1048576 := by omega
    have C := Lib.hid (containsNodes_any n.ks n.ka n.kc 45 #[.pointer (some ⟨be, 0, none⟩)] lo hi (fun j O w => I (i + 1 + offs n.ks j) O w ∧ ¬ O bt ∧ ¬ O be ∧ WEnv tf caps bt be w) (fun _ w => ∃ m, J m w) Tryd.call45 (by
      intro j hj O3 w3 ⟨hI3, hbt3, hbe3, hE3⟩ hk3 hh3 hS3
      have hmem := getD_mem n.ks j hj
      have hbk := T.bulk_kid (n := n.er) (k := (n.ks.getD j default).er) (by rw [NT.er_ks]; exact er_mem hmem)
      have C3 := fun w4 (hg : Grew w3 w4) => HI.out _ hmem (i + 1 + offs n.ks j) O3 w4 (pre_kid hpre j hj) (by omega) ((hk3.2 _ hmem).grew hg hh3) (Nat.le_trans hh3 hg.size) hS3 hbt3 hbe3 (hst _ _ _ _ hI3 hg) (hE3.keeps (hg.keeps O3) hbt3 hbe3)
      rw [Nat.add_assoc _ (offs n.ks j), ← offs_succ n.ks j hj] at C3
      generalize n.ks.getD j default = x at *
      have C4 := Lib.hid C3
      clear C3
      have e2 := hE3.2.1
      have z3 := hE3.2.2.2
      have z4 := hE3.2.2.1
      clear hI3
      simp only [NT.val, List.append_toArray, List.cons_append, List.nil_append]
      go_enter Tryd.func45, Tryd.ntmps45
      go_wp2_with fail
      refine (C4.out _ (Grew.alloc1 _ _)).mono ?_
      rintro e w5 ⟨O5, hk5, ⟨rfl, hI5⟩ | ⟨rfl, hJ5⟩⟩
      · go_wp2_with fail
        go_ret
        exact ⟨O5, (Moves.grew (Grew.alloc1 _ _)).trans hk5, Or.inl ⟨rfl, hI5, hk5.notin hbt3 (by simp; omega), hk5.notin hbe3 (by simp; omega), (hE3.keeps ((Grew.alloc1 _ _).keeps O3) hbt3 hbe3).keeps hk5.1 hbt3 hbe3⟩⟩
      · go_wp2_with fail
        go_ret
        exact ⟨O5, (Moves.grew (Grew.alloc1 _ _)).trans hk5, Or.inr ⟨rfl, hJ5⟩⟩) O2 hS2 hlen w2 hkk hh2 ⟨by rw [offs_zero]; exact hI2, hbt2, hbe2, hE2'⟩)
    have HO := Lib.hid (offs_end n)
    clear HI
    go_wp2_with fail
    refine C.out.mono ?_
    rintro e w3 ⟨O3, hk3, ⟨rfl, hI3, _⟩ | ⟨j, hj, rfl, hJ⟩⟩
    · go_wp2_with fail
      go_ret
      exact ⟨O3, (Moves.grew b1).trans (hk2.trans hk3), Or.inl ⟨rfl, by rw [← HO.out, ← Nat.add_assoc]; exact hI3⟩⟩
    · go_wp2_with fail
      go_ret
      exact ⟨O3, (Moves.grew b1).trans (hk2.trans hk3), Or.inr ⟨rfl, hJ⟩⟩
  · go_wp2_with fail
    go_ret
    exact ⟨O2, (Moves.grew b1).trans hk2, Or.inr ⟨rfl, _, hJ⟩⟩

set_option maxHeartbeats 400000 in
theorem walk_any (n : NT) (O : Nat → Prop) (w : World) (eg : ∀ args w, (callFunc tf args).run Tryd.prog w = .ok (.enter tf args) w) (hto : WTo n.pre tf caps lo hi I J) (hst : ∀ i O w w', I i O w → Grew w w' → I i O w')
    (hlt : ∀ i O w, I i O w → ∀ k, O k → k < w.heap.size) (hS : ∀ k, lo ≤ k → k < hi → ¬ O k) (hb : n.er.bulk ≤ 1048576) (hn : n.In w lo hi) (hhi : hi ≤ w.heap.size) (hI : I 0 O w) :
    Calls Tryd.prog 28 #[n.val, .func (.func tf) #[] caps] w fun e w' =>
      ∃ O', Moves O w O' w' ∧ ((e = .returned (.bool true) ∧ I n.pre.length O' w') ∨ (e = .returned (.bool false) ∧ ∃ j, J j w')) := by
  have C := Lib.hid (fun w3 bt be => each_any n.pre tf caps lo hi bt be I J eg hto hst hlt n 0 O w3 (by simp) hb)
  have hO := hlt _ _ _ hI
  clear hto eg
  unfold NT.val
  go_enter Tryd.func28, Tryd.ntmps28
  go_wp2_with fail
  have hg : ∀ o1 o2 o3, Grew w (((w.alloc o1).alloc o2).alloc o3) := fun o1 o2 o3 => (((Grew.refl w).alloc o1).alloc o2).alloc o3
  refine (C.out _ (w.heap.size + 1) (w.heap.size + 1 + 1) (hn.grew (hg _ _ _) hhi) (Nat.le_trans hhi (hg _ _ _).size) hS (fun h => by have := hO _ h; omega) (fun h => by have := hO _ h; omega) (hst _ _ _ _ hI (hg _ _ _)) ⟨by go_simp, by go_simp, by simp, by simp⟩).mono ?_
  rintro e w2 ⟨O2, hk2, ⟨rfl, hI2⟩ | ⟨rfl, hJ⟩⟩
  · rw [Nat.zero_add] at hI2
    go_wp2_with fail
    go_ret
    exact ⟨O2, (Moves.grew (hg _ _ _)).trans hk2, Or.inl ⟨rfl, hI2⟩⟩
  · go_wp2_with fail
    go_ret
    exact ⟨O2, (Moves.grew (hg _ _ _)).trans hk2, Or.inr ⟨rfl, hJ⟩⟩
end
end Go.Proofs.YtdobncickipjjaaDoor
