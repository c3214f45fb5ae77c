/- cmd.there: the contract; the paths of a tree's nodes. -/
import Derived.Test.YtmekodocibnniaaDoorCmdA
namespace Go.Proofs.YtmekodocibnniaaDoor
open Go Go.RowKit

theorem T.at_append (p q : List Int) : ∀ (t : T), t.at (p ++ q) = (t.at p).bind (·.at q) := by
  induction p with
  | nil => intro t; rfl
  | cons i r ih =>
    intro t
    rw [List.cons_append, T.at, T.at]
    split
    · rfl
    · exact ih _
/-- a node's parent, and its place there -/
theorem T.at_snoc {t x : T} {p : List Int} {i : Int} (h : t.at (p ++ [i]) = some x) : ∃ u, t.at p = some u ∧ 0 ≤ i ∧ i < u.ks.length := by
  rw [T.at_append] at h
  obtain ⟨u, hu, h⟩ := Option.bind_eq_some_iff.1 h
  refine ⟨u, hu, ?_⟩
  rw [T.at] at h
  split at h
  · cases h
  · rename_i hn
    omega
theorem T.ks_len (t : T) : t.ks.length < t.bulk := by
  have := T.bulkAll_len t.ks
  rw [T.bulk_eq]; omega
/-- how cmd.there ends -/
def ThereEnds (n : NT) (p : List Int) (lv : Int) (w : World) (e : Ending) (w' : World) : Prop :=
  ∃ (x : NT) (k : Int), e = .returned (.tuple #[x.val, .int .i64 k]) ∧ Grew w w' ∧ x.Own w' w.heap.size w'.heap.size ∧ Hid (((p.length : Int) < lv ∧ k = 6) ∨ (lv ≤ p.length ∧ k = 0 ∧ n.er.at p = some x.er) ∨ (lv ≤ p.length ∧ k = 5 ∧ n.er.at p = none))

set_option maxHeartbeats 1000000 in
theorem there_any (n : NT) (pa : Option Addr) (pc : Nat) (p : List Int) (lv : Int) (w : World) (hn : n.Ok w) (hb : n.er.bulk ≤ 1048576) (hp : IntsIn w 0 w.heap.size pa pc p) (hl : p.length ≤ 1048576) :
    Calls Tryd.prog 18 #[n.val, .slice pa p.length pc, .int .i64 lv] w (ThereEnds n p lv w) := by
  have CG := Lib.hid (fun w1 (hg : Grew w w1) => treeGet_any n pa pc p w1 (NT.Ok.grew hn hg) hb ((hp.grew hg (Nat.le_refl _)).mono (Nat.le_refl _) hg.size) hl)
  unfold NT.val at CG ⊢
  have g1 : Grew w ((w.alloc (.cells #[.bool n.lf, .slice n.pa n.ps.length n.pc, .slice n.ta n.ts.length n.tc, .slice n.ka n.ks.length n.kc] 26)).alloc (.cells #[.bool false, .slice none 0 0, .slice none 0 0, .slice none 0 0] 26)) := (Grew.alloc1 _ _).alloc _
  have hr1 : NodeAt ((w.alloc (.cells #[.bool n.lf, .slice n.pa n.ps.length n.pc, .slice n.ta n.ts.length n.tc, .slice n.ka n.ks.length n.kc] 26)).alloc (.cells #[.bool false, .slice none 0 0, .slice none 0 0, .slice none 0 0] 26)) (w.heap.size + 1) 0 NT.nil := ⟨by show _ = some (Value.bool false); go_simp, by show _ = some (Value.slice none 0 0); go_simp, by show _ = some (Value.slice none 0 0); go_simp, by show _ = some (Value.slice none 0 0); go_simp⟩
  have hat1 : NodeAt ((w.alloc (.cells #[.bool n.lf, .slice n.pa n.ps.length n.pc, .slice n.ta n.ts.length n.tc, .slice n.ka n.ks.length n.kc] 26)).alloc (.cells #[.bool false, .slice none 0 0, .slice none 0 0, .slice none 0 0] 26)) w.heap.size 0 n := ⟨by go_simp, by go_simp, by go_simp, by go_simp⟩
  have hf1 : ∀ j, ((w.alloc (.cells #[.bool n.lf, .slice n.pa n.ps.length n.pc, .slice n.ta n.ts.length n.tc, .slice n.ka n.ks.length n.kc] 26)).alloc (.cells #[.bool false, .slice none 0 0, .slice none 0 0, .slice none 0 0] 26)).frozen? ⟨w.heap.size + 1, j, none⟩ = false := fun j => by rw [World.frozen?_alloc_at _ _ _ _ (by simp)]
  have z1 : w.heap.size + 1 < ((w.alloc (.cells #[.bool n.lf, .slice n.pa n.ps.length n.pc, .slice n.ta n.ts.length n.tc, .slice n.ka n.ks.length n.kc] 26)).alloc (.cells #[.bool false, .slice none 0 0, .slice none 0 0, .slice none 0 0] 26)).heap.size := by simp
  by_cases h : (p.length : Int) < lv
  · have ht : decide ((p.length : Int) < lv) = true := by simpa using h
    have HH := Lib.hid h
    clear h
    go_enter Tryd.func18, Tryd.ntmps18
    go_upto_region 1 with fail
    generalize (w.alloc (.cells #[.bool n.lf, .slice n.pa n.ps.length n.pc, .slice n.ta n.ts.length n.tc, .slice n.ka n.ks.length n.kc] 26)).alloc (.cells #[.bool false, .slice none 0 0, .slice none 0 0, .slice none 0 0] 26) = w1 at *
    obtain ⟨r0, r1, r2, r3⟩ := hr1
    have HG := Lib.hid g1
    clear g1 CG
    go_wp2_with fail
    have hW := copy_out (x := NT.nil) (u0 := .bool false) (u1 := .slice none 0 0) (u2 := .slice none 0 0) (u3 := .slice none 0 0) HG.out r0 r1 r2 r3 nil_own rfl
    generalize ((((w1.setCell ⟨w.heap.size + 1, 0, none⟩ (.bool false)).setCell ⟨w.heap.size + 1, 1, none⟩ (.slice none 0 0)).setCell ⟨w.heap.size + 1, 2, none⟩ (.slice none 0 0)).setCell ⟨w.heap.size + 1, 3, none⟩ (.slice none 0 0)) = W' at *
    obtain ⟨hg', f0, f1, f2, f3, ho⟩ := hW
    refine bodyPost_ret (v := .tuple #[NT.nil.val, .int .i64 6]) (by simp [results, Tryd.results18, go_sem, NT.val, NT.nil, f0, f1, f2, f3]) rfl ⟨NT.nil, 6, rfl, hg', ho, Or.inl ⟨HH.out, rfl⟩⟩
  · have ht : decide ((p.length : Int) < lv) = false := by simpa using h
    have HH := Lib.hid (show lv ≤ (p.length : Int) by omega)
    clear h
    go_enter Tryd.func18, Tryd.ntmps18
    go_upto_region 1 with fail
    generalize (w.alloc (.cells #[.bool n.lf, .slice n.pa n.ps.length n.pc, .slice n.ta n.ts.length n.tc, .slice n.ka n.ks.length n.kc] 26)).alloc (.cells #[.bool false, .slice none 0 0, .slice none 0 0, .slice none 0 0] 26) = w1 at *
    obtain ⟨b0, b1, b2, b3⟩ := hat1
    have HR := Lib.hid hr1
    have HF := Lib.hid hf1
    clear hr1 hf1
    go_wp2_with fail
    refine (CG.out w1 g1).mono ?_
    rintro e w3 ⟨y, k, rfl, g3, hy, hye⟩
    obtain ⟨r0, r1, r2, r3⟩ := HR.out.grew g3 z1
    have hf3 : ∀ j, w3.frozen? ⟨w.heap.size + 1, j, none⟩ = false := fun j => (g3.frozen (p := ⟨w.heap.size + 1, j, none⟩) z1).trans (HF.out j)
    have HG := Lib.hid (⟨g1.trans g3, hy.mono (show w.heap.size + 2 ≤ w1.heap.size by omega) (Nat.le_refl _)⟩ : _ ∧ _)
    have HE : Hid (((p.length : Int) < lv ∧ k = 6) ∨ (lv ≤ p.length ∧ k = 0 ∧ n.er.at p = some y.er) ∨ (lv ≤ p.length ∧ k = 5 ∧ n.er.at p = none)) := by
      rcases hye.out with ⟨h1, h2⟩ | ⟨h1, h2, _⟩
      · exact Or.inr (Or.inl ⟨HH.out, h1, h2⟩)
      · exact Or.inr (Or.inr ⟨HH.out, h1, h2⟩)
    clear b0 b1 b2 b3 g1 g3 hy hye CG
    unfold NT.val
    go_wp2_with fail
    have hW := copy_out (u0 := .bool y.lf) (u1 := .slice y.pa y.ps.length y.pc) (u2 := .slice y.ta y.ts.length y.tc) (u3 := .slice y.ka y.ks.length y.kc) HG.out.1 r0 r1 r2 r3 HG.out.2 rfl
    generalize ((((w3.setCell ⟨w.heap.size + 1, 0, none⟩ (.bool y.lf)).setCell ⟨w.heap.size + 1, 1, none⟩ (.slice y.pa y.ps.length y.pc)).setCell ⟨w.heap.size + 1, 2, none⟩ (.slice y.ta y.ts.length y.tc)).setCell ⟨w.heap.size + 1, 3, none⟩ (.slice y.ka y.ks.length y.kc)) = W' at *
    obtain ⟨hg', f0, f1, f2, f3, ho⟩ := hW
    refine bodyPost_ret (v := .tuple #[y.val, .int .i64 k]) (by simp [results, Tryd.results18, go_sem, NT.val, f0, f1, f2, f3]) rfl ⟨y, k, rfl, hg', ho, HE⟩
end Go.Proofs.YtmekodocibnniaaDoor
