/- tree.at, tree.Get: the contracts. -/
import Derived.Test.YtgnlgfkolbecmaaInts
import Derived.Test.YtgnlgfkolbecmaaCopy
import Derived.Test.YtgnlgfkolbecmaaPut
namespace Go.Proofs.Ytgnlgfkolbecmaa
open Go Go.RowKit

/-- the node of a tree at a path -/
def T.at : T → List Int → Option T
  | n, [] => some n
  | n, i :: r => if i < 0 ∨ (n.ks.length : Int) ≤ i then none else T.at (n.ks.getD i.toNat default) r
/-- a node lies at an address -/
def NodeAt (w : World) (b o : Nat) (n : NT) : Prop := w.cell? ⟨b, o, none⟩ = some (.bool n.lf) ∧ w.cell? ⟨b, o + 1, none⟩ = some (.slice n.pa n.ps.length n.pc) ∧ w.cell? ⟨b, o + 2, none⟩ = some (.slice n.ta n.ts.length n.tc) ∧ w.cell? ⟨b, o + 3, none⟩ = some (.slice n.ka n.ks.length n.kc)
theorem NodeAt.grew {w w' : World} {b o : Nat} {n : NT} (h : NodeAt w b o n) (hg : Grew w w') (hb : b < w.heap.size) : NodeAt w' b o n := by
  have q : ∀ j, w'.cell? ⟨b, j, none⟩ = w.cell? ⟨b, j, none⟩ := fun j => hg.cell (p := ⟨b, j, none⟩) hb
  unfold NodeAt at h ⊢
  simp only [q]; exact h
theorem bulk_at {t x : T} : ∀ {p : List Int}, t.at p = some x → x.bulk ≤ t.bulk := by
  intro p
  induction p generalizing t with
  | nil => intro h; simp only [T.at, Option.some.injEq] at h; rw [h]; exact Nat.le_refl _
  | cons i r ih =>
    intro h
    rw [T.at] at h
    split at h
    · cases h
    · rename_i hi
      have h1 := ih h
      have h2 := T.bulk_kid (n := t) (getD_mem t.ks i.toNat (by omega))
      omega

/-- how tree.at ends -/
def AtEnds (n : NT) (p : List Int) (lo hi : Nat) (w : World) (e : Ending) (w' : World) : Prop :=
  Grew w w' ∧ ((∃ b' o' x, e = .returned (.tuple #[.pointer (some ⟨b', o', none⟩), .int .i64 0]) ∧ NodeAt w' b' o' x ∧ x.In w' lo hi ∧ b' < w'.heap.size ∧ Hid (n.er.at p = some x.er)) ∨ (e = .returned (.tuple #[.pointer none, .int .i64 5]) ∧ Hid (n.er.at p = none)))
theorem atEnds_none {n : NT} {p : List Int} {lo hi : Nat} {w w' : World} (hg : Grew w w') (h : Hid (n.er.at p = none)) : AtEnds n p lo hi w (.returned (.tuple #[.pointer none, .int .i64 5])) w' := ⟨hg, Or.inr ⟨rfl, h⟩⟩
theorem atEnds_some {n : NT} {p : List Int} {lo hi : Nat} {w w' : World} {b o : Nat} {x : NT} (hg : Grew w w') (h1 : NodeAt w' b o x) (h2 : x.In w' lo hi) (h3 : b < w'.heap.size) (h : Hid (n.er.at p = some x.er)) : AtEnds n p lo hi w (.returned (.tuple #[.pointer (some ⟨b, o, none⟩), .int .i64 0])) w' :=
  ⟨hg, Or.inl ⟨_, _, _, rfl, h1, h2, h3, h⟩⟩

set_option maxHeartbeats 1000000 in
theorem treeAt_any (n : NT) (b o : Nat) (pa : Option Addr) (pc : Nat) (p : List Int) (w : World) (lo hi plo phi : Nat) (hbx : NodeAt w b o n) (hbs : b < w.heap.size) (hn : n.In w lo hi) (hhi : hi ≤ w.heap.size) (hp : IntsIn w plo phi pa pc p) (hphi : phi ≤ w.heap.size) (hl : p.length ≤ 1048576) :
    Calls Try.prog 56 #[.pointer (some ⟨b, o, none⟩), .slice pa p.length pc] w (AtEnds n p lo hi w) := by
  go_enter Try.func56, Try.ntmps56
  go_wp2_with fail
  go_loopw [0, 10] (fun t i wr => ∃ (k b' o' : Nat) (x : NT), k ≤ p.length ∧ i = .int .i64 k ∧ t = .pointer (some ⟨b', o', none⟩) ∧ Grew w wr ∧ NodeAt wr b' o' x ∧ b' < wr.heap.size ∧ x.In wr lo hi ∧ Hid (n.er.at p = x.er.at (p.drop k))) (fun _ i _ => p.length - (intOf i).toNat)
  case atStart => exact ⟨0, b, o, n, by omega, rfl, rfl, Grew.refl _, hbx, hbs, hn, by show _ = _; rfl⟩
  case round =>
    obtain ⟨k, b', o', x, hk1, rfl, rfl, hg, hbx', hbs', hx, hH⟩ := hrel
    clear hbx hn
    by_cases hlt : k < p.length
    · obtain ⟨pb, po, rfl, _, hpb, hpc⟩ := (hp.grew hg hphi).at hlt
      have hD := drop_cons p k hlt
      obtain ⟨d0, d1, d2, d3⟩ := id hbx'
      obtain ⟨ka, hka⟩ : ∃ y, x.ka = y := ⟨_, rfl⟩
      rw [hka] at d3
      have HKA := Lib.hid hka
      clear hka
      have HK := Lib.hid ((NT.In_iff.1 hx).2.2)
      have e0 : p.getD k default = p.getD k 0 := rfl
      rw [e0] at hD
      generalize p.getD k 0 = i at *
      by_cases h0 : i < 0
      · have HN : Hid (n.er.at p = none) := by
          show _ = _
          rw [hH.out, hD, T.at, if_pos (Or.inl h0)]
        clear hD e0 hH
        have ht : decide (i < 0) = true := by simpa using h0
        go_wp2_with fail
        go_ret2
        exact atEnds_none hg HN
      · have h0' : ¬ i < 0 := h0
        by_cases h1 : (x.ks.length : Int) ≤ i
        · have HN : Hid (n.er.at p = none) := by
            show _ = _
            rw [hH.out, hD, T.at, if_pos (Or.inr (by simpa using h1))]
          clear hD e0 hH
          have ht : decide (i < 0) = false := by simpa using h0
          have ht2 : decide ((x.ks.length : Int) ≤ i) = true := by simpa using h1
          go_wp2_with fail
          go_ret2
          exact atEnds_none hg HN
        · obtain ⟨m, rfl⟩ : ∃ m : Nat, i = m := ⟨i.toNat, by omega⟩
          have hm : m < x.ks.length := by omega
          have HN : Hid (n.er.at p = (x.ks.getD m default).er.at (p.drop (k + 1))) := by
            show _ = _
            rw [hH.out, hD, T.at, if_neg (by simp only [NT.er_ks, List.length_map]; omega)]
            simp [List.getD, hm]
          have hk := HK.out.at hm
          obtain ⟨b2, o2, hka2, hb1, hb2, hc0, hc1, hc2, hc3⟩ := hk
          obtain rfl : ka = some ⟨b2, o2, none⟩ := by rw [← HKA.out]; exact hka2
          have hN2 : NodeAt wr b2 (o2 + m * 4) (x.ks.getD m default) := ⟨hc0, hc1, hc2, hc3⟩
          have hx2 := HK.out.2 _ (getD_mem x.ks m hm)
          have hz2 : b2 < wr.heap.size := by have := hg.size; omega
          clear hD e0 hH hka2 hc0 hc1 hc2 hc3 hbx'
          generalize x.ks.getD m default = y at *
          have ht : decide ((m : Int) < 0) = false := by simp
          have ht2 : decide ((x.ks.length : Int) ≤ (m : Int)) = false := by simpa using h1
          have hm2 : (m : Int) < x.ks.length := by omega
          go_wp2_with fail
          go_roundw
          case rel => exact ⟨k + 1, b2, o2 + m * 4, y, by omega, by go_num, rfl, hg, hN2, hz2, hx2, HN⟩
          case measure => simp [intOf]; omega
    · obtain rfl : p.length = k := by omega
      have HN : Hid (n.er.at p = some x.er) := by
        show _ = _
        rw [hH.out, List.drop_of_length_le (Nat.le_refl _), T.at]
      have hlt3 : ¬ (p.length : Int) < p.length := by omega
      go_wp2_with fail
      go_ret2
      exact atEnds_some hg hbx' hx hbs' HN

/-- the node that is told where there is none -/
def NT.nil : NT := .mk false none 0 [] none 0 [] none 0 []
theorem NT.nil_in {w : World} {lo hi : Nat} : NT.nil.In w lo hi := NT.In_iff.2 ⟨rowIn_nil, runesIn_nil, kidsIn_nil⟩
theorem nil_own {w : World} {lo hi : Nat} : NT.nil.Own w lo hi :=
  ⟨NT.nil_in, NT.Soft_iff.2 ⟨fun h => (by cases h), fun h => (by cases h), fun h => (by cases h), fun k hk => (by cases hk)⟩⟩
/-- how tree.Get ends -/
def GetEnds (n : NT) (p : List Int) (w : World) (e : Ending) (w' : World) : Prop :=
  ∃ (x : NT) (k : Int), e = .returned (.tuple #[x.val, .int .i64 k]) ∧ Grew w w' ∧ x.Own w' w.heap.size w'.heap.size ∧ Hid ((k = 0 ∧ n.er.at p = some x.er) ∨ (k = 5 ∧ n.er.at p = none ∧ x.er = T.mk false [] [] []))

set_option maxHeartbeats 1000000 in
theorem treeGet_any (n : NT) (pa : Option Addr) (pc : Nat) (p : List Int) (w : World) (hn : n.Ok w) (hb : n.er.bulk ≤ 1048576) (hp : IntsIn w 0 w.heap.size pa pc p) (hl : p.length ≤ 1048576) :
    Calls Try.prog 48 #[n.val, .slice pa p.length pc] w (GetEnds n p w) := by
  have CA := Lib.hid (fun w1 (hg : Grew w w1) (b : Nat) (hb1 : b < w1.heap.size) (hat : NodeAt w1 b 0 n) => treeAt_any n b 0 pa pc p w1 0 w.heap.size 0 w.heap.size hat hb1 (NT.In.grew hn hg (Nat.le_refl _)) hg.size (hp.grew hg (Nat.le_refl _)) hg.size hl)
  unfold NT.val
  go_enter Try.func48, Try.ntmps48
  go_wp2_with fail
  have g1 : Grew w ((w.alloc (.cells #[.bool n.lf, .slice n.pa n.ps.length n.pc, .slice n.ta n.ts.length n.tc, .slice n.ka n.ks.length n.kc] 26)).alloc (.cells #[.bool false, .slice none 0 0, .slice none 0 0, .slice none 0 0] 26)) := (Grew.alloc1 _ _).alloc _
  have hat : NodeAt ((w.alloc (.cells #[.bool n.lf, .slice n.pa n.ps.length n.pc, .slice n.ta n.ts.length n.tc, .slice n.ka n.ks.length n.kc] 26)).alloc (.cells #[.bool false, .slice none 0 0, .slice none 0 0, .slice none 0 0] 26)) w.heap.size 0 n := ⟨by go_simp, by go_simp, by go_simp, by go_simp⟩
  have hr1 : NodeAt ((w.alloc (.cells #[.bool n.lf, .slice n.pa n.ps.length n.pc, .slice n.ta n.ts.length n.tc, .slice n.ka n.ks.length n.kc] 26)).alloc (.cells #[.bool false, .slice none 0 0, .slice none 0 0, .slice none 0 0] 26)) (w.heap.size + 1) 0 NT.nil := ⟨by show _ = some (Value.bool false); go_simp, by show _ = some (Value.slice none 0 0); go_simp, by show _ = some (Value.slice none 0 0); go_simp, by show _ = some (Value.slice none 0 0); go_simp⟩
  have hf1 : ∀ j, ((w.alloc (.cells #[.bool n.lf, .slice n.pa n.ps.length n.pc, .slice n.ta n.ts.length n.tc, .slice n.ka n.ks.length n.kc] 26)).alloc (.cells #[.bool false, .slice none 0 0, .slice none 0 0, .slice none 0 0] 26)).frozen? ⟨w.heap.size + 1, j, none⟩ = false := fun j => by rw [World.frozen?_alloc_at _ _ _ _ (by simp)]
  have z1 : w.heap.size + 1 < ((w.alloc (.cells #[.bool n.lf, .slice n.pa n.ps.length n.pc, .slice n.ta n.ts.length n.tc, .slice n.ka n.ks.length n.kc] 26)).alloc (.cells #[.bool false, .slice none 0 0, .slice none 0 0, .slice none 0 0] 26)).heap.size := by simp
  generalize (w.alloc (.cells #[.bool n.lf, .slice n.pa n.ps.length n.pc, .slice n.ta n.ts.length n.tc, .slice n.ka n.ks.length n.kc] 26)).alloc (.cells #[.bool false, .slice none 0 0, .slice none 0 0, .slice none 0 0] 26) = w1 at *
  refine (CA.out w1 g1 w.heap.size (by omega) hat).mono ?_
  rintro e w2 ⟨hg, ⟨b', o', x, rfl, hat2, hx, hz, hH⟩ | ⟨rfl, hH⟩⟩
  · have hr2 := hr1.grew hg z1
    have hf2 : ∀ j, w2.frozen? ⟨w.heap.size + 1, j, none⟩ = false := fun j => (hg.frozen (p := ⟨w.heap.size + 1, j, none⟩) z1).trans (hf1 j)
    have hbx := bulk_at hH.out
    have z2 := Nat.lt_of_lt_of_le z1 hg.size
    have C := Lib.hid (copy_any x w2 (hx.ok (Nat.le_trans g1.size hg.size)) (by omega))
    unfold NT.val at C
    obtain ⟨q0, q1, q2, q3⟩ := hat2
    go_wp2_with fail
    refine C.out.mono ?_
    rintro e w3 ⟨y, rfl, g3, hy, hye⟩
    have hr3 := hr2.grew g3 z2
    have hf3 : ∀ j, w3.frozen? ⟨w.heap.size + 1, j, none⟩ = false := fun j => (g3.frozen (p := ⟨w.heap.size + 1, j, none⟩) z2).trans (hf2 j)
    obtain ⟨r0, r1, r2, r3⟩ := hr3
    have HG := Lib.hid (⟨(g1.trans hg).trans g3, hy.mono (show w.heap.size + 2 ≤ w2.heap.size by omega) (Nat.le_refl _)⟩ : _ ∧ _)
    have HH : Hid (n.er.at p = some y.er) := by show _ = _; rw [hH.out, hye.out]
    clear q0 q1 q2 q3 hr2 hr1 hat hf2 hf1 hg g3 hy hye hH C CA
    go_wp2_with fail
    have hW := copy_out (u0 := .bool y.lf) (u1 := .slice y.pa y.ps.length y.pc) (u2 := .slice y.ta y.ts.length y.tc) (u3 := .slice y.ka y.ks.length y.kc) HG.out.1 r0 r1 r2 r3 HG.out.2 rfl
    generalize ((((w3.setCell ⟨w.heap.size + 1, 0, none⟩ (.bool y.lf)).setCell ⟨w.heap.size + 1, 1, none⟩ (.slice y.pa y.ps.length y.pc)).setCell ⟨w.heap.size + 1, 2, none⟩ (.slice y.ta y.ts.length y.tc)).setCell ⟨w.heap.size + 1, 3, none⟩ (.slice y.ka y.ks.length y.kc)) = W' at *
    obtain ⟨hg', f0, f1, f2, f3, ho⟩ := hW
    refine bodyPost_ret (v := .tuple #[y.val, .int .i64 0]) (by simp [results, Try.results48, go_sem, NT.val, f0, f1, f2, f3]) rfl ⟨y, 0, rfl, hg', ho, Or.inl ⟨rfl, HH.out⟩⟩
  · have hr2 := hr1.grew hg z1
    have hf2 : ∀ j, w2.frozen? ⟨w.heap.size + 1, j, none⟩ = false := fun j => (hg.frozen (p := ⟨w.heap.size + 1, j, none⟩) z1).trans (hf1 j)
    obtain ⟨r0, r1, r2, r3⟩ := hr2
    have HG := Lib.hid (g1.trans hg)
    clear hr1 hat hf1 hg CA
    go_wp2_with fail
    have hW := copy_out (x := NT.nil) (u0 := .bool false) (u1 := .slice none 0 0) (u2 := .slice none 0 0) (u3 := .slice none 0 0) HG.out r0 r1 r2 r3 nil_own rfl
    generalize ((((w2.setCell ⟨w.heap.size + 1, 0, none⟩ (.bool false)).setCell ⟨w.heap.size + 1, 1, none⟩ (.slice none 0 0)).setCell ⟨w.heap.size + 1, 2, none⟩ (.slice none 0 0)).setCell ⟨w.heap.size + 1, 3, none⟩ (.slice none 0 0)) = W' at *
    obtain ⟨hg', f0, f1, f2, f3, ho⟩ := hW
    refine bodyPost_ret (v := .tuple #[NT.nil.val, .int .i64 5]) (by simp [results, Try.results48, go_sem, NT.val, NT.nil, f0, f1, f2, f3]) rfl ⟨NT.nil, 5, rfl, hg', ho, Or.inr ⟨rfl, hH.out, rfl⟩⟩
end Go.Proofs.Ytgnlgfkolbecmaa
