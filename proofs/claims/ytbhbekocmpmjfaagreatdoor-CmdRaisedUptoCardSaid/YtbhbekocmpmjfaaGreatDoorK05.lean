/- tree.at, tree.Get: the contracts. -/
import Derived.Test.YtbhbekocmpmjfaaGreatDoorK03
import Derived.Test.YtbhbekocmpmjfaaGreatDoorK04
import Derived.Test.YtbhbekocmpmjfaaGreatDoorK02
import Derived.Deep.MidRow
namespace Go.Proofs.YtbhbekocmpmjfaaGreatDoor
open Go Go.RowKit

/-- the node of a tree at a path -/
def T.at : T → List Int → Option T
  | n, [] => some n
  | n, i :: r => if i < 0 ∨ (n.ks.length : Int) ≤ i then none else T.at (n.ks.getD i.toNat default) r
/-- a node lies at an address -/
def NodeAt (w : World) (b o : Nat) (n : NT) : Prop := w.cell? ⟨b, o, none⟩ = some (.bool n.lf) ∧ w.cell? ⟨b, o + 1, none⟩ = some (.slice n.pa n.ps.length n.pc) ∧ w.cell? ⟨b, o + 2, none⟩ = some (.slice n.ta n.ts.length n.tc) ∧ w.cell? ⟨b, o + 3, none⟩ = some (.slice n.ka n.ks.length n.kc)
theorem NodeAt.grew {w w' : World} {b o : Nat} {n : NT} (h : NodeAt w b o n) (hg : Grew w w') (hb : b < w.heap.size) : NodeAt w' b o n := by
  have q : ∀ j, w'.cell? ⟨b, j, none⟩ = w.cell? ⟨b, j, none⟩ := fun j => hg.cell (p := ⟨b, j, none⟩) hb
  unfold NodeAt at h ⊢
  simp only [q]; exact h
theorem bulk_at {t x : T} : ∀ {p : List Int}, t.at p = some x → x.bulk ≤ t.bulk := by
  intro p
  induction p generalizing t with
  | nil => intro h; simp only [T.at, Option.some.injEq] at h; rw [h]; exact Nat.le_refl _
  | cons i r ih =>
    intro h
    rw [T.at] at h
    split at h
    · cases h
    · rename_i hi
      have h1 := ih h
      have h2 := T.bulk_kid (n := t) (getD_mem t.ks i.toNat (by omega))
      omega

/-- how tree.at ends -/
def AtEnds (n : NT) (p : List Int) (lo hi : Nat) (w : World) (e : Ending) (w' : World) : Prop :=
  Grew w w' ∧ ((∃ b' o' x, e = .returned (.tuple #[.pointer (some ⟨b', o', none⟩), .int .i64 0]) ∧ NodeAt w' b' o' x ∧ x.In w' lo hi ∧ b' < w'.heap.size ∧ Hid (n.er.at p = some x.er)) ∨ (e = .returned (.tuple #[.pointer none, .int .i64 5]) ∧ Hid (n.er.at p = none)))
theorem atEnds_none {n : NT} {p : List Int} {lo hi : Nat} {w w' : World} (hg : Grew w w') (h : Hid (n.er.at p = none)) : AtEnds n p lo hi w (.returned (.tuple #[.pointer none, .int .i64 5])) w' := ⟨hg, Or.inr ⟨rfl, h⟩⟩
theorem atEnds_some {n : NT} {p : List Int} {lo hi : Nat} {w w' : World} {b o : Nat} {x : NT} (hg : Grew w w') (h1 : NodeAt w' b o x) (h2 : x.In w' lo hi) (h3 : b < w'.heap.size) (h : Hid (n.er.at p = some x.er)) : AtEnds n p lo hi w (.returned (.tuple #[.pointer (some ⟨b, o, none⟩), .int .i64 0])) w' :=
  ⟨hg, Or.inl ⟨_, _, _, rfl, h1, h2, h3, h⟩⟩

set_option maxHeartbeats 1000000 in
theorem treeAt_any (n : NT) (b o : Nat) (pa : Option Addr) (pc : Nat) (p : List Int) (w : World) (lo hi plo phi : Nat) (hbx : NodeAt w b o n) (hbs : b < w.heap.size) (hn : n.In w lo hi) (hhi : hi ≤ w.heap.size) (hp : IntsIn w plo phi pa pc p) (hphi : phi ≤ w.heap.size) (hl : p.length ≤ 1048576) :
    Calls Tryz.prog 95 #[.pointer (some ⟨b, o, none⟩), .slice pa p.length pc] w (AtEnds n p lo hi w) := by
  go_enter Tryz.func95, Tryz.ntmps95
  go_wp2_with fail
  go_loopw [0, 10] (fun t i wr => ∃ (k b' o' : Nat) (x : NT), k ≤ p.length ∧ i = .int .i64 k ∧ t = .pointer (some ⟨b', o', none⟩) ∧ Grew w wr ∧ NodeAt wr b' o' x ∧ b' < wr.heap.size ∧ x.In wr lo hi ∧ Hid (n.er.at p = x.er.at (p.drop k))) (fun _ i _ => p.length - (intOf i).toNat)
  case atStart => exact ⟨0, b, o, n, by omega, rfl, rfl, Grew.refl _, hbx, hbs, hn, by show _ = _; rfl⟩
  case round =>
    obtain ⟨k, b', o', x, hk1, rfl, rfl, hg, hbx', hbs', hx, hH⟩ := hrel
    clear hbx hn
    by_cases hlt : k < p.length
    · obtain ⟨pb, po, rfl, _, hpb, hpc⟩ := (hp.grew hg hphi).at hlt
      have hD := drop_cons p k hlt
      obtain ⟨d0, d1, d2, d3⟩ := id hbx'
      obtain ⟨ka, hka⟩ : ∃ y, x.ka = y := ⟨_, rfl⟩
      rw [hka] at d3
      have HKA := Lib.hid hka
      clear hka
      have HK := Lib.hid ((NT.In_iff.1 hx).2.2)
      have e0 : p.getD k default = p.getD k 0 := rfl
      rw [e0] at hD
      generalize p.getD k 0 = i at *
      by_cases h0 : i < 0
      · have HN : Hid (n.er.at p = none) := by
          show _ = _
          rw [hH.out, hD, T.at, if_pos (Or.inl h0)]
        clear hD e0 hH
        have ht : decide (i < 0) = true := by simpa using h0
        go_wp2_with fail
        go_ret2
        exact atEnds_none hg HN
      · have h0' : ¬ i < 0 := h0
        by_cases h1 : (x.ks.length : Int) ≤ i
        · have HN : Hid (n.er.at p = none) := by
            show _ = _
            rw [hH.out, hD, T.at, if_pos (Or.inr (by simpa using h1))]
          clear hD e0 hH
          have ht : decide (i < 0) = false := by simpa using h0
          have ht2 : decide ((x.ks.length : Int) ≤ i) = true := by simpa using h1
          go_wp2_with fail
          go_ret2
          exact atEnds_none hg HN
        · obtain ⟨m, rfl⟩ : ∃ m : Nat, i = m := ⟨i.toNat, by omega⟩
          have hm : m < x.ks.length := by omega
          have HN : Hid (n.er.at p = (x.ks.getD m default).er.at (p.drop (k + 1))) := by
            show _ = _
            rw [hH.out, hD, T.at, if_neg (by simp only [NT.er_ks, List.length_map]; omega)]
            simp [List.getD, hm]
          have hk := HK.out.at hm
          obtain ⟨b2, o2, hka2, hb1, hb2, hc0, hc1, hc2, hc3⟩ := hk
          obtain rfl : ka = some ⟨b2, o2, none⟩ := by rw [← HKA.out]; exact hka2
          have hN2 : NodeAt wr b2 (o2 + m * 4) (x.ks.getD m default) := ⟨hc0, hc1, hc2, hc3⟩
          have hx2 := HK.out.2 _ (getD_mem x.ks m hm)
          have hz2 : b2 < wr.heap.size := by have := hg.size; omega
          clear hD e0 hH hka2 hc0 hc1 hc2 hc3 hbx'
          generalize x.ks.getD m default = y at *
          have ht : decide ((m : Int) < 0) = false := by simp
          have ht2 : decide ((x.ks.length : Int) ≤ (m : Int)) = false := by simpa using h1
          have hm2 : (m : Int) < x.ks.length := by omega
          go_wp2_with fail
          go_roundw
          case rel => exact ⟨k + 1, b2, o2 + m * 4, y, by omega, by go_num, rfl, hg, hN2, hz2, hx2, HN⟩
          case measure => simp [intOf]; omega
    · obtain rfl : p.length = k := by omega
      have HN : Hid (n.er.at p = some x.er) := by
        show _ = _
        rw [hH.out, List.drop_of_length_le (Nat.le_refl _), T.at]
      have hlt3 : ¬ (p.length : Int) < p.length := by omega
      go_wp2_with fail
      go_ret2
      exact atEnds_some hg hbx' hx hbs' HN

/-- the node that is told where there is none -/
def NT.nil : NT := .mk false none 0 [] none 0 [] none 0 []
theorem NT.nil_in {w : World} {lo hi : Nat} : NT.nil.In w lo hi := NT.In_iff.2 ⟨rowIn_nil, runesIn_nil, kidsIn_nil⟩
theorem nil_own {w : World} {lo hi : Nat} : NT.nil.Own w lo hi :=
  ⟨NT.nil_in, NT.Soft_iff.2 ⟨fun h => (by cases h), fun h => (by cases h), fun h => (by cases h), fun k hk => (by cases hk)⟩⟩
/-- how tree.Get ends -/
def GetEnds (n : NT) (p : List Int) (w : World) (e : Ending) (w' : World) : Prop :=
  ∃ (x : NT) (k : Int), e = .returned (.tuple #[x.val, .int .i64 k]) ∧ Grew w w' ∧ x.Own w' w.heap.size w'.heap.size ∧ Hid ((k = 0 ∧ n.er.at p = some x.er) ∨ (k = 5 ∧ n.er.at p = none ∧ x.er = T.mk false [] [] []))

set_option maxHeartbeats 1000000 in
theorem treeGet_any (n : NT) (pa : Option Addr) (pc : Nat) (p : List Int) (w : World) (hn : n.Ok w) (hb : n.er.bulk ≤ 1048576) (hp : IntsIn w 0 w.heap.size pa pc p) (hl : p.length ≤ 1048576) :
    Calls Tryz.prog 30 #[n.val, .slice pa p.length pc] w (GetEnds n p w) := by
  have CA := Lib.hid (fun w1 (hg : Grew w w1) (b : Nat) (hb1 : b < w1.heap.size) (hat : NodeAt w1 b 0 n) => treeAt_any n b 0 pa pc p w1 0 w.heap.size 0 w.heap.size hat hb1 (NT.In.grew hn hg (Nat.le_refl _)) hg.size (hp.grew hg (Nat.le_refl _)) hg.size hl)
  unfold NT.val
  go_enter Tryz.func30, Tryz.ntmps30
  go_wp2_with fail
  have g1 : Grew w ((w.alloc (.cells #[.bool n.lf, .slice n.pa n.ps.length n.pc, .slice n.ta n.ts.length n.tc, .slice n.ka n.ks.length n.kc] 26)).alloc (.cells #[.bool false, .slice none 0 0, .slice none 0 0, .slice none 0 0] 26)) := (Grew.alloc1 _ _).alloc _
  have hat : NodeAt ((w.alloc (.cells #[.bool n.lf, .slice n.pa n.ps.length n.pc, .slice n.ta n.ts.length n.tc, .slice n.ka n.ks.length n.kc] 26)).alloc (.cells #[.bool false, .slice none 0 0, .slice none 0 0, .slice none 0 0] 26)) w.heap.size 0 n := ⟨by go_simp, by go_simp, by go_simp, by go_simp⟩
  have hr1 : NodeAt ((w.alloc (.cells #[.bool n.lf, .slice n.pa n.ps.length n.pc, .slice n.ta n.ts.length n.tc, .slice n.ka n.ks.length n.kc] 26)).alloc (.cells #[.bool false, .slice none 0 0, .slice none 0 0, .slice none 0 0] 26)) (w.heap.size + 1) 0 NT.nil := ⟨by show _ = some (Value.bool false); go_simp, by show _ = some (Value.slice none 0 0); go_simp, by show _ = some (Value.slice none 0 0); go_simp, by show _ = some (Value.slice none 0 0); go_simp⟩
  have hf1 : ∀ j, ((w.alloc (.cells #[.bool n.lf, .slice n.pa n.ps.length n.pc, .slice n.ta n.ts.length n.tc, .slice n.ka n.ks.length n.kc] 26)).alloc (.cells #[.bool false, .slice none 0 0, .slice none 0 0, .slice none 0 0] 26)).frozen? ⟨w.heap.size + 1, j, none⟩ = false := fun j => by rw [World.frozen?_alloc_at _ _ _ _ (by simp)]
  have z1 : w.heap.size + 1 < ((w.alloc (.cells #[.bool n.lf, .slice n.pa n.ps.length n.pc, .slice n.ta n.ts.length n.tc, .slice n.ka n.ks.length n.kc] 26)).alloc (.cells #[.bool false, .slice none 0 0, .slice none 0 0, .slice none 0 0] 26)).heap.size := by simp
  generalize (w.alloc (.cells #[.bool n.lf, .slice n.pa n.ps.length n.pc, .slice n.ta n.ts.length n.tc, .slice n.ka n.ks.length n.kc] 26)).alloc (.cells #[.bool false, .slice none 0 0, .slice none 0 0, .slice none 0 0] 26) = w1 at *
  refine (CA.out w1 g1 w.heap.size (by omega) hat).mono ?_
  rintro e w2 ⟨hg, ⟨b', o', x, rfl, hat2, hx, hz, hH⟩ | ⟨rfl, hH⟩⟩
  · have hr2 := hr1.grew hg z1
    have hf2 : ∀ j, w2.frozen? ⟨w.heap.size + 1, j, none⟩ = false := fun j => (hg.frozen (p := ⟨w.heap.size + 1, j, none⟩) z1).trans (hf1 j)
    have hbx := bulk_at hH.out
    have z2 := Nat.lt_of_lt_of_le z1 hg.size
    have C := Lib.hid (copy_any x w2 (hx.ok (Nat.le_trans g1.size hg.size)) (by omega))
    unfold NT.val at C
    obtain ⟨q0, q1, q2, q3⟩ := hat2
    go_wp2_with fail
    refine C.out.mono ?_
    rintro e w3 ⟨y, rfl, g3, hy, hye⟩
    have hr3 := hr2.grew g3 z2
    have hf3 : ∀ j, w3.frozen? ⟨w.heap.size + 1, j, none⟩ = false := fun j => (g3.frozen (p := ⟨w.heap.size + 1, j, none⟩) z2).trans (hf2 j)
    obtain ⟨r0, r1, r2, r3⟩ := hr3
    have HG := Lib.hid (⟨(g1.trans hg).trans g3, hy.mono (show w.heap.size + 2 ≤ w2.heap.size by omega) (Nat.le_refl _)⟩ : _ ∧ _)
    have HH : Hid (n.er.at p = some y.er) := by show _ = _; rw [hH.out, hye.out]
    clear q0 q1 q2 q3 hr2 hr1 hat hf2 hf1 hg g3 hy hye hH C CA
    go_wp2_with fail
    have hW := copy_out (u0 := .bool y.lf) (u1 := .slice y.pa y.ps.length y.pc) (u2 := .slice y.ta y.ts.length y.tc) (u3 := .slice y.ka y.ks.length y.kc) HG.out.1 r0 r1 r2 r3 HG.out.2 rfl
    generalize ((((w3.setCell ⟨w.heap.size + 1, 0, none⟩ (.bool y.lf)).setCell ⟨w.heap.size + 1, 1, none⟩ (.slice y.pa y.ps.length y.pc)).setCell ⟨w.heap.size + 1, 2, none⟩ (.slice y.ta y.ts.length y.tc)).setCell ⟨w.heap.size + 1, 3, none⟩ (.slice y.ka y.ks.length y.kc)) = W' at *
    obtain ⟨hg', f0, f1, f2, f3, ho⟩ := hW
    refine bodyPost_ret (v := .tuple #[y.val, .int .i64 0]) (by simp [results, Tryz.results30, go_sem, NT.val, f0, f1, f2, f3]) rfl ⟨y, 0, rfl, hg', ho, Or.inl ⟨rfl, HH.out⟩⟩
  · have hr2 := hr1.grew hg z1
    have hf2 : ∀ j, w2.frozen? ⟨w.heap.size + 1, j, none⟩ = false := fun j => (hg.frozen (p := ⟨w.heap.size + 1, j, none⟩) z1).trans (hf1 j)
    obtain ⟨r0, r1, r2, r3⟩ := hr2
    have HG := Lib.hid (g1.trans hg)
    clear hr1 hat hf1 hg CA
    go_wp2_with fail
    have hW := copy_out (x := NT.nil) (u0 := .bool false) (u1 := .slice none 0 0) (u2 := .slice none 0 0) (u3 := .slice none 0 0) HG.out r0 r1 r2 r3 nil_own rfl
    generalize ((((w2.setCell ⟨w.heap.size + 1, 0, none⟩ (.bool false)).setCell ⟨w.heap.size + 1, 1, none⟩ (.slice none 0 0)).setCell ⟨w.heap.size + 1, 2, none⟩ (.slice none 0 0)).setCell ⟨w.heap.size + 1, 3, none⟩ (.slice none 0 0)) = W' at *
    obtain ⟨hg', f0, f1, f2, f3, ho⟩ := hW
    refine bodyPost_ret (v := .tuple #[NT.nil.val, .int .i64 5]) (by simp [results, Tryz.results30, go_sem, NT.val, NT.nil, f0, f1, f2, f3]) rfl ⟨NT.nil, 5, rfl, hg', ho, Or.inr ⟨rfl, hH.out, rfl⟩⟩
end Go.Proofs.YtbhbekocmpmjfaaGreatDoor
/- A NODE OF A TREE THAT LIES APART IS WRITTEN. -/
namespace Go.Proofs.YtbhbekocmpmjfaaGreatDoor
open Go Go.RowKit

/-- the node at a path; another one in its place; where it lies -/
def NT.sub : NT → List Int → NT
  | n, [] => n
  | n, i :: r => NT.sub (n.ks.getD i.toNat default) r
def NT.setAt (y : NT) : NT → List Int → NT
  | _, [] => y
  | n, i :: r => .mk n.lf n.pa n.pc n.ps n.ta n.tc n.ts n.ka n.kc (n.ks.set i.toNat (NT.setAt y (n.ks.getD i.toNat default) r))
def T.setAt (y : T) : T → List Int → T
  | _, [] => y
  | n, i :: r => .mk n.lf n.ps n.ts (n.ks.set i.toNat (T.setAt y (n.ks.getD i.toNat default) r))
def NT.adr : NT → Nat → Nat → List Int → Nat × Nat
  | _, b, o, [] => (b, o)
  | n, b, o, i :: r => match n.ka with
    | some a => NT.adr (n.ks.getD i.toNat default) a.block (a.off + i.toNat * 4) r
    | none => (b, o)
theorem er_getD (l : List NT) (i : Nat) : (l.getD i default).er = (l.map NT.er).getD i default := by
  simp only [List.getD, List.getElem?_map]
  cases l[i]? with
  | none => rfl
  | some x => rfl
theorem NT.setAt_er (y : NT) (p : List Int) : ∀ n : NT, (NT.setAt y n p).er = T.setAt y.er n.er p := by
  induction p with
  | nil => intro n; rfl
  | cons i r ih =>
    intro n
    rw [NT.setAt, T.setAt, NT.er_eq]
    simp only [NT.lf_mk, NT.ps_mk, NT.ts_mk, NT.ks_mk, NT.er_lf, NT.er_ps, NT.er_ts, NT.er_ks, List.map_set]
    rw [ih, er_getD]
theorem T.at_cons {t x : T} {i : Int} {r : List Int} (h : t.at (i :: r) = some x) : 0 ≤ i ∧ i.toNat < t.ks.length ∧ (t.ks.getD i.toNat default).at r = some x := by
  rw [T.at] at h
  split at h
  · cases h
  · exact ⟨by omega, by omega, h⟩
theorem NT.setAt_cell {y : NT} {r : List Int} (hr : r ≠ []) (n : NT) (j : Nat) : (NT.setAt y n r).cell j = n.cell j := by
  cases r with
  | nil => exact absurd rfl hr
  | cons i r =>
    rw [NT.setAt]
    unfold NT.cell
    simp only [NT.lf_mk, NT.pa_mk, NT.pc_mk, NT.ps_mk, NT.ta_mk, NT.tc_mk, NT.ts_mk, NT.ka_mk, NT.kc_mk, NT.ks_mk, List.length_set]
/-- the hole at a path: the interval of what lies there; what may be written -/
theorem NT.Sep.hole {w : World} (p : List Int) : ∀ {x : NT} {lo hi : Nat} {t : T} (b0 o0 : Nat), x.Sep lo hi → x.In w lo hi → hi ≤ w.heap.size → p ≠ [] → x.er.at p = some t →
    ∃ l h, lo ≤ l ∧ l ≤ h ∧ h ≤ hi ∧ (x.sub p).Sep l h ∧ (x.sub p).In w l h ∧ lo ≤ (x.adr b0 o0 p).1 ∧ (x.adr b0 o0 p).1 < l ∧ NodeAt w (x.adr b0 o0 p).1 (x.adr b0 o0 p).2 (x.sub p) ∧
      ∀ (B : Nat), B ≤ lo → ∀ (w' : World) (y : NT), (∀ k, lo ≤ k → k < hi → k ≠ (x.adr b0 o0 p).1 → ¬(l ≤ k ∧ k < h) → w'.heap[k]? = w.heap[k]?) → (∀ q, (q < (x.adr b0 o0 p).2 ∨ (x.adr b0 o0 p).2 + 4 ≤ q) → w'.cell? ⟨(x.adr b0 o0 p).1, q, none⟩ = w.cell? ⟨(x.adr b0 o0 p).1, q, none⟩) →
        w.heap.size ≤ w'.heap.size → NodeAt w' (x.adr b0 o0 p).1 (x.adr b0 o0 p).2 y → y.In w' B w'.heap.size → (NT.setAt y x p).In w' B w'.heap.size := by
  induction p with
  | nil => intro x lo hi t b0 o0 _ _ _ h; exact absurd rfl h
  | cons i r ih =>
    intro x lo hi t b0 o0 hs hin hsz _ hat
    obtain ⟨hi0, hil, hat'⟩ := T.at_cons hat
    rw [NT.er_ks, List.length_map] at hil
    rw [NT.er_ks, ← er_getD] at hat'
    obtain ⟨_, _, a, m, _, f, h1, h2, hp, ht, hk, hf0, hfm, hfh, hks⟩ := hs
    have hmono := mono_of hfm
    have hin' := NT.In_iff.1 hin
    obtain ⟨kb, ko, hka, _, _, hkc⟩ := hin'.2.2.1.2 (by omega)
    have hkb := hk kb ko hka (by omega)
    have hkid : (x.ks.getD i.toNat default).In w (f i.toNat) (f (i.toNat + 1)) := (hks _ hil).narrow (hin'.2.2.2 _ (getD_mem _ _ hil))
    have m1 := hmono i.toNat (by omega) 0 (Nat.zero_le _)
    have m2 := hmono x.ks.length (Nat.le_refl _) (i.toNat + 1) (by omega)
    have m3 := hfm _ hil
    -- the other Kids, and the rows
    have hrest : ∀ (B0 : Nat), B0 ≤ lo → ∀ (w' : World) (l h : Nat) (B : Nat), (∀ k, lo ≤ k → k < hi → k ≠ B → ¬(l ≤ k ∧ k < h) → w'.heap[k]? = w.heap[k]?) → f i.toNat ≤ l → h ≤ f (i.toNat + 1) → (B = kb ∨ (f i.toNat ≤ B ∧ B < f (i.toNat + 1))) → w.heap.size ≤ w'.heap.size → ∀ (z : NT), z.In w' B0 w'.heap.size →
        RowIn w' B0 w'.heap.size x.ka x.ks.length x.kc 4 (fun i' j => ((x.ks.set i.toNat z).getD i' default).cell j) → (NT.mk x.lf x.pa x.pc x.ps x.ta x.tc x.ts x.ka x.kc (x.ks.set i.toNat z)).In w' B0 w'.heap.size := by
      intro B0 hB0 w' l h B hag hl hh hB hw z hz hrow
      refine NT.In_iff.2 ⟨?_, ?_, ?_, ?_⟩
      · simp only [NT.pa_mk, NT.pc_mk, NT.ps_mk]
        refine (RowIn.agree (RowIn.narrow hin'.1 hp) (fun k k1 k2 => hag k k1 (by omega) (by omega) (by omega))).mono (by omega) (by omega)
      · simp only [NT.ta_mk, NT.tc_mk, NT.ts_mk]
        exact ⟨(RowIn.agree (RowIn.narrow hin'.2.1.1 ht) (fun k k1 k2 => hag k k1 (by omega) (by omega) (by omega))).mono (by omega) (by omega), hin'.2.1.2⟩
      · simp only [NT.ka_mk, NT.kc_mk, NT.ks_mk, List.length_set]
        exact hrow
      · simp only [NT.ks_mk]
        intro k hk'
        obtain ⟨j, hj, rfl⟩ := List.getElem_of_mem hk'
        have hj' : j < x.ks.length := by simpa using hj
        by_cases hij : i.toNat = j
        · subst hij
          rw [List.getElem_set_self]
          exact hz
        · rw [List.getElem_set_ne hij]
          have e : x.ks.getD j default = x.ks[j] := by simp [List.getD, List.getElem?_eq_getElem hj']
          have hkj := (hks _ hj').narrow (hin'.2.2.2 _ (getD_mem _ _ hj'))
          rw [e] at hkj
          have n1 := hmono j (by omega) 0 (Nat.zero_le _)
          have n2 := hmono x.ks.length (Nat.le_refl _) (j + 1) (by omega)
          have n3 : j < i.toNat → f (j + 1) ≤ f i.toNat := fun hlt => hmono i.toNat (by omega) (j + 1) (by omega)
          have n4 : i.toNat < j → f (i.toNat + 1) ≤ f j := fun hlt => hmono j (by omega) (i.toNat + 1) (by omega)
          have n5 := hfm _ hj'
          exact (hkj.agree (fun k k1 k2 => hag k (by omega) (by omega) (by
            rcases Nat.lt_or_ge j i.toNat with h5 | h5
            · have := n3 h5; omega
            · have := n4 (by omega); omega) (by
            rcases Nat.lt_or_ge j i.toNat with h5 | h5
            · have := n3 h5; omega
            · have := n4 (by omega); omega))).mono (by omega) (by omega)
    cases r with
    | nil =>
      have hadr : x.adr b0 o0 [i] = (kb, ko + i.toNat * 4) := by rw [NT.adr, hka]; rfl
      have hsub : x.sub [i] = x.ks.getD i.toNat default := rfl
      rw [hadr, hsub]
      have hnode : NodeAt w kb (ko + i.toNat * 4) (x.ks.getD i.toNat default) := ⟨hkc _ hil 0 (by omega), hkc _ hil 1 (by omega), hkc _ hil 2 (by omega), hkc _ hil 3 (by omega)⟩
      refine ⟨f i.toNat, f (i.toNat + 1), by omega, m3, by omega, hks _ hil, hkid, by show lo ≤ kb; omega, by show kb < _; omega, hnode, ?_⟩
      intro B0 hB0 w' y hag hoth hw hny hy
      refine hrest B0 hB0 w' _ _ kb hag (Nat.le_refl _) (Nat.le_refl _) (Or.inl rfl) hw y hy ?_
      refine ⟨hin'.2.2.1.1, fun hn => ⟨kb, ko, hka, by omega, by omega, fun j hj q hq => ?_⟩⟩
      dsimp only
      by_cases hij : i.toNat = j
      · subst hij
        rw [getD_set_same _ _ _ hj]
        obtain ⟨n0, n1, n2, n3⟩ := hny
        match q, hq with
        | 0, _ => exact n0
        | 1, _ => exact n1
        | 2, _ => exact n2
        | 3, _ => exact n3
      · rw [getD_set_other _ _ _ _ hij]
        refine (hoth (ko + j * 4 + q) ?_).trans (hkc j hj q hq)
        rcases Nat.lt_or_ge j i.toNat with h5 | h5
        · left; show _ < ko + i.toNat * 4; omega
        · right; show ko + i.toNat * 4 + 4 ≤ _; omega
    | cons i2 r2 =>
      obtain ⟨l, h, q1, q2, q3, q4, q5, q6, q7, q8, q9⟩ := ih kb (ko + i.toNat * 4) (hks _ hil) hkid (by omega) (by simp) hat'
      have hadr : x.adr b0 o0 (i :: i2 :: r2) = (x.ks.getD i.toNat default).adr kb (ko + i.toNat * 4) (i2 :: r2) := by rw [NT.adr, hka]
      have hsub : x.sub (i :: i2 :: r2) = (x.ks.getD i.toNat default).sub (i2 :: r2) := rfl
      rw [hadr, hsub]
      generalize hA : (x.ks.getD i.toNat default).adr kb (ko + i.toNat * 4) (i2 :: r2) = A at *
      refine ⟨l, h, by omega, q2, by omega, q4, q5, by omega, q7, q8, ?_⟩
      intro B0 hB0 w' y hag hoth hw hny hy
      have hz := q9 B0 (by omega) w' y (fun k k1 k2 k3 k4 => hag k (by omega) (by omega) k3 k4) hoth hw hny hy
      rw [NT.setAt]
      refine hrest B0 hB0 w' l h A.1 hag q1 q3 (Or.inr ⟨q6, by omega⟩) hw _ hz ?_
      have hrow := (RowIn.agree (RowIn.narrow hin'.2.2.1 hk) (fun k k1 k2 => hag k (by omega) (by omega) (by omega) (by omega)) : RowIn w' a m x.ka x.ks.length x.kc 4 (fun i j => (x.ks.getD i default).cell j)).mono (show B0 ≤ a by omega) (show m ≤ w'.heap.size by omega)
      refine ⟨hrow.1, fun hn => ?_⟩
      obtain ⟨b, o, e, g1, g2, hc⟩ := hrow.2 hn
      refine ⟨b, o, e, g1, g2, fun j hj q hq => ?_⟩
      rw [hc j hj q hq]
      dsimp only
      by_cases hij : i.toNat = j
      · subst hij
        rw [getD_set_same _ _ _ hj, NT.setAt_cell (by simp)]
      · rw [getD_set_other _ _ _ _ hij]
end Go.Proofs.YtbhbekocmpmjfaaGreatDoor
/- ROWS OF CELLS READ AND WRITTEN AS ONE. No program is named here. -/
namespace Go.Proofs.YtbhbekocmpmjfaaGreatDoor
open Go Go.RowKit

theorem rangeAt_grew {w w' : World} {b o : Nat} {cs : List Value} (h : w.rangeAt b o cs) (hg : Grew w w') (hb : b < w.heap.size) : w'.rangeAt b o cs := fun j v hj => (hg.cell (p := ⟨b, o + j, none⟩) hb).trans (h j v hj)
/-- a box: each of its cells -/
theorem box_at {w w1 : World} {cs : Array Value} {t : TypeId} (g : Grew (w.alloc (.cells cs t)) w1) {j : Nat} {v : Value} (h : cs[j]? = some v) : w1.cell? ⟨w.heap.size, j, none⟩ = some v := by
  rw [g.cell (by simp)]
  rw [World.cell?_alloc_new]
  exact h
/-- a new block: it is there, and may be written -/
theorem there_new {w w1 : World} {cs : Array Value} {t : TypeId} (g : Grew (w.alloc (.cells cs t)) w1) : w1.there w.heap.size 0 cs.size := fun j hj => by
  rw [Nat.zero_add, box_at g (Array.getElem?_eq_getElem hj), g.frozen (by simp), World.frozen?_alloc_at _ _ _ _ rfl]
  exact ⟨rfl, rfl⟩
/-- a result's variable of many cells is read -/
theorem results_cell_mid {P : Program} {fn : Func} {p : Tmp} {ty : TypeId} (h : fn.results = #[.cell p ty]) (tmps : Array Value) (w : World) (b o : Nat) (cs : List Value) (d : TypeDesc)
    (hp : tmps.getD p undef = .pointer (some ⟨b, o, none⟩)) (hc : w.rangeAt b o cs) (hu : P.underlying ty = some d) (hd : d.isRow = true) (hi : (P.info? ty).map (·.size) = some cs.length) : (results fn tmps).run P w = .ok (.agg cs.toArray) w := by
  have hp' : tmps[p]?.getD undef = .pointer (some ⟨b, o, none⟩) := by simpa using hp
  simp [results, h, hp', asAddr, run_loadVar_mid w b o ty cs d hc hu hd hi]
/-- what is written lies there -/
theorem rangeAt_put {w : World} {b : Nat} {cs : List Value} (ht : w.there b 0 cs.length) : (w.setCells b 0 cs).rangeAt b 0 cs := fun j v hj => by
  obtain ⟨h1, rfl⟩ := List.getElem?_eq_some_iff.1 hj
  exact World.cell?_setCells_in b cs 0 w (fun i hi => (ht i hi).1) j h1
theorem setCells_keepsO (b : Nat) : ∀ (vs : List Value) (o : Nat) (w : World), Keeps (· = b) w (w.setCells b o vs)
  | [], _, w => Keeps.refl _ w
  | v :: r, o, w => ((Keeps.refl (· = b) w).own o v).trans (setCells_keepsO b r (o + 1) _)
theorem rangeAt_set {F : World} {b : Nat} {cs : List Value} (hr : F.rangeAt b 0 cs) {j : Nat} (hj : j < cs.length) (v : Value) : (F.setCell ⟨b, j, none⟩ v).rangeAt b 0 (cs.set j v) := fun i u hu => by
  rw [Nat.zero_add]
  by_cases e : i = j
  · subst e
    have h1 := hr i _ (List.getElem?_eq_getElem hj)
    rw [Nat.zero_add] at h1
    rw [World.cell?_setCell_same _ _ _ h1]
    rw [List.getElem?_set_self hj] at hu
    exact hu
  · rw [cell_ne (fun h => e h.symm)]
    rw [List.getElem?_set_ne (fun h => e h.symm)] at hu
    have := hr i u hu
    rwa [Nat.zero_add] at this
theorem rangeAt_other {F F' : World} {b b' o : Nat} {cs : List Value} (hr : F.rangeAt b o cs) (hk : Keeps (· = b') F F') (hb : b < F.heap.size) (hne : b ≠ b') : F'.rangeAt b o cs := fun j v hj => (hk.cell (p := ⟨b, o + j, none⟩) hb hne).trans (hr j v hj)
theorem rangeAt_at0 {F : World} {b : Nat} {cs : List Value} (hr : F.rangeAt b 0 cs) {j : Nat} {v : Value} (hj : cs[j]? = some v) : F.cell? ⟨b, j, none⟩ = some v := by
  have := hr j v hj
  rwa [Nat.zero_add] at this
theorem rangeAt_keeps {F F' : World} {O : Nat → Prop} {b o : Nat} {cs : List Value} (hr : F.rangeAt b o cs) (hk : Keeps O F F') (hb : b < F.heap.size) (hO : ¬ O b) : F'.rangeAt b o cs := fun j v hj => (hk.cell (p := ⟨b, o + j, none⟩) hb hO).trans (hr j v hj)
theorem Agree.mono {lo hi lo' hi' : Nat} {w w' : World} (h : Agree lo hi w w') (h1 : lo ≤ lo') (h2 : hi' ≤ hi) : Agree lo' hi' w w' := fun k k1 k2 => h k (by omega) (by omega)
end Go.Proofs.YtbhbekocmpmjfaaGreatDoor
/- BOXES LAID AT A FUNCTION'S START: what lies where. No program is named here. -/
namespace Go.Proofs.YtbhbekocmpmjfaaGreatDoor
open Go Go.RowKit

theorem there_grew {w w' : World} {b o n : Nat} (h : w.there b o n) (hg : Grew w w') (hb : b < w.heap.size) : w'.there b o n := fun j hj => by
  rw [hg.cell (p := ⟨b, o + j, none⟩) hb, hg.frozen (p := ⟨b, o + j, none⟩) hb]
  exact h j hj
theorem boxes1 (w : World) (cs : List Value) (tA : TypeId) (W : World) (hW : w.alloc (.cells cs.toArray tA) = W) : Grew w W ∧ W.rangeAt w.heap.size 0 cs ∧ W.there w.heap.size 0 cs.length ∧ W.heap.size = w.heap.size + 1 := by
  subst hW
  refine ⟨Grew.alloc1 _ _, fun j v hj => ?_, ?_, by simp⟩
  · rw [Nat.zero_add]; exact box_at (Grew.refl _) (by simpa using hj)
  · have := there_new (Grew.refl (w.alloc (.cells cs.toArray tA)))
    rwa [List.size_toArray] at this
theorem boxes2 (w : World) (cs ds : List Value) (tA tB : TypeId) (W : World) (hW : (w.alloc (.cells cs.toArray tA)).alloc (.cells ds.toArray tB) = W) : Grew w W ∧ W.rangeAt w.heap.size 0 cs ∧ W.there w.heap.size 0 cs.length ∧ W.rangeAt (w.heap.size + 1) 0 ds ∧ W.there (w.heap.size + 1) 0 ds.length ∧ W.heap.size = w.heap.size + 2 := by
  obtain ⟨g1, r1, t1, z1⟩ := boxes1 w cs tA _ rfl
  obtain ⟨g2, r2, t2, z2⟩ := boxes1 _ ds tB _ hW
  rw [z1] at r2 t2 z2
  exact ⟨g1.trans g2, rangeAt_grew r1 g2 (by omega), fun j hj => by rw [g2.cell (p := ⟨w.heap.size, 0 + j, none⟩) (by show w.heap.size < _; omega), g2.frozen (p := ⟨w.heap.size, 0 + j, none⟩) (by show w.heap.size < _; omega)]; exact t1 j hj, r2, t2, z2⟩
theorem boxes3 (w : World) (cs ds es : List Value) (tA tB tC : TypeId) (W : World) (hW : ((w.alloc (.cells cs.toArray tA)).alloc (.cells ds.toArray tB)).alloc (.cells es.toArray tC) = W) : Grew w W ∧ W.rangeAt w.heap.size 0 cs ∧ W.rangeAt (w.heap.size + 1) 0 ds ∧ W.rangeAt (w.heap.size + 2) 0 es ∧ W.there (w.heap.size + 2) 0 es.length ∧ W.heap.size = w.heap.size + 3 := by
  obtain ⟨g1, r1, _, q1, _, z1⟩ := boxes2 w cs ds tA tB _ rfl
  obtain ⟨g2, r2, t2, z2⟩ := boxes1 _ es tC _ hW
  rw [z1] at r2 t2 z2
  exact ⟨g1.trans g2, rangeAt_grew r1 g2 (by omega), rangeAt_grew q1 g2 (by omega), r2, t2, z2⟩
/-- a result's variable of many cells, and an error, are read -/
theorem results_cellE {P : Program} {fn : Func} {p q : Tmp} {ty : TypeId} (h : fn.results = #[.cell p ty, .tmp q]) (tmps : Array Value) (w : World) (b o : Nat) (cs : List Value) (d : TypeDesc) (v : Value)
    (hp : tmps.getD p undef = .pointer (some ⟨b, o, none⟩)) (hq : tmps.getD q undef = v) (hc : w.rangeAt b o cs) (hu : P.underlying ty = some d) (hd : d.isRow = true) (hi : (P.info? ty).map (·.size) = some cs.length) : (results fn tmps).run P w = .ok (.tuple #[.agg cs.toArray, v]) w := by
  have hp' : tmps[p]?.getD undef = .pointer (some ⟨b, o, none⟩) := by simpa using hp
  have hq' : tmps[q]?.getD undef = v := by simpa using hq
  simp [results, h, hp', hq', asAddr, run_loadVar_mid w b o ty cs d hc hu hd hi]
end Go.Proofs.YtbhbekocmpmjfaaGreatDoor
