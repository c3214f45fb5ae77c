/- valid's element: looks: the contracts. -/
import Derived.Test.YtnkmcbhpmbjkpaaEmpty
import Derived.Test.YtnkmcbhpmbjkpaaMerge
import Derived.Test.YtnkmcbhpmbjkpaaPut
namespace Go.Proofs.Ytnkmcbhpmbjkpaa
open Go Go.RowKit

set_option maxHeartbeats 400000 in
theorem looks1_any (d : Int) (eb : Nat) (w : World) :
    Calls Try.prog 48 #[.int .i64 d, .pointer (some ⟨eb, 0, none⟩)] w fun e' w' => e' = .returned (.func (.func 49) #[] #[.pointer (some ⟨eb, 0, none⟩), .pointer (some ⟨w.heap.size, 0, none⟩)]) ∧ Grew w w' ∧ w'.cell? ⟨w.heap.size, 0, none⟩ = some (.int .i64 d) ∧ w.heap.size < w'.heap.size := by
  go_enter Try.func48, Try.ntmps48
  go_wp2_with fail
  go_ret
  exact ⟨rfl, Grew.alloc1 _ _, by go_simp, by simp⟩

set_option maxHeartbeats 400000 in
theorem looks11_any (e : EN) (d : Int) (eb db : Nat) (w : World) (he : e.Ok w) (hl : e.acts.length ≤ 1048576) (hb : e.Box eb w) (hd : w.cell? ⟨db, 0, none⟩ = some (.int .i64 d)) :
    Calls Try.prog 49 #[.pointer (some ⟨eb, 0, none⟩), .pointer (some ⟨db, 0, none⟩)] w fun e' w' => e' = .returned (.tuple #[.int .i64 (doingOf e.acts d).1, .int .i64 (doingOf e.acts d).2]) ∧ Grew w w' := by
  have C := Lib.hid (doing_any e d w he hl)
  obtain ⟨b0, b1, b2, b3, b4, b5, b6, b7, b8, b9, b10, b11, b12⟩ := hb
  go_enter Try.func49, Try.ntmps49
  go_wp2_with fail
  refine C.out.mono ?_
  rintro e' w' ⟨rfl, hg⟩
  go_wp2_with fail
  go_ret2
  exact ⟨rfl, hg⟩

/-- the boxes of looks -/
def LookBox (w : World) (e : EN) (w' : World) : Prop := Grew w w' ∧ w.heap.size + 2 ≤ w'.heap.size ∧ e.Box w.heap.size w' ∧ (w'.cell? ⟨w.heap.size + 1, 0, none⟩ = some .nilFunc ∧ w'.cell? ⟨w.heap.size + 1, 1, none⟩ = some .nilFunc ∧ w'.cell? ⟨w.heap.size + 1, 2, none⟩ = some .nilFunc ∧ w'.cell? ⟨w.heap.size + 1, 3, none⟩ = some .nilFunc ∧ w'.cell? ⟨w.heap.size + 1, 4, none⟩ = some .nilFunc ∧ w'.cell? ⟨w.heap.size + 1, 5, none⟩ = some .nilFunc ∧ w'.cell? ⟨w.heap.size + 1, 6, none⟩ = some .nilFunc) ∧ ∀ j, w'.frozen? ⟨w.heap.size + 1, j, none⟩ = false
theorem LookBox.next {w : World} {e : EN} {w1 w2 : World} (h : LookBox w e w1) (hg : Grew w1 w2) : LookBox w e w2 := by
  obtain ⟨h1, h2, h3, h4, h5⟩ := h
  have q : ∀ j, w2.cell? ⟨w.heap.size + 1, j, none⟩ = w1.cell? ⟨w.heap.size + 1, j, none⟩ := fun j => hg.cell (p := ⟨w.heap.size + 1, j, none⟩) (by show w.heap.size + 1 < _; omega)
  have f : ∀ j, w2.frozen? ⟨w.heap.size + 1, j, none⟩ = w1.frozen? ⟨w.heap.size + 1, j, none⟩ := fun j => hg.frozen (p := ⟨w.heap.size + 1, j, none⟩) (by show w.heap.size + 1 < _; omega)
  refine ⟨h1.trans hg, Nat.le_trans h2 hg.size, h3.grew hg (by omega), ?_, ?_⟩
  · simp only [q]; exact h4
  · simp only [f]; exact h5

/-- the seven looks -/
def looksVal (e : EN) (eb d2 d3 d4 : Nat) : Value := .agg #[.nilFunc, .func (.func 49) #[] #[.pointer (some ⟨eb, 0, none⟩), .pointer (some ⟨d2, 0, none⟩)], .func (.func 49) #[] #[.pointer (some ⟨eb, 0, none⟩), .pointer (some ⟨d3, 0, none⟩)], .func (.func 49) #[] #[.pointer (some ⟨eb, 0, none⟩), .pointer (some ⟨d4, 0, none⟩)],
  .func (.func 51) #[e.val] #[], .func (.func 52) #[e.val] #[], .func (.func 53) #[e.val] #[]]
def LooksOk (e : EN) (w : World) (d2 d3 d4 : Nat) (w' : World) : Prop := Grew w w' ∧ w.heap.size < w'.heap.size ∧ e.Box w.heap.size w' ∧ (w'.cell? ⟨d2, 0, none⟩ = some (.int .i64 2) ∧ w'.cell? ⟨d3, 0, none⟩ = some (.int .i64 3) ∧ w'.cell? ⟨d4, 0, none⟩ = some (.int .i64 4)) ∧ d2 < w'.heap.size ∧ d3 < w'.heap.size ∧ d4 < w'.heap.size
theorem LooksOk.grew {e : EN} {w : World} {d2 d3 d4 : Nat} {w1 w2 : World} (h : LooksOk e w d2 d3 d4 w1) (hg : Grew w1 w2) : LooksOk e w d2 d3 d4 w2 := by
  obtain ⟨h1, h2, h3, ⟨h4, h5, h6⟩, h7, h8, h9⟩ := h
  have s := hg.size
  refine ⟨h1.trans hg, by omega, h3.grew hg h2, ⟨?_, ?_, ?_⟩, by omega, by omega, by omega⟩
  · rw [hg.cell (by exact h7)]; exact h4
  · rw [hg.cell (by exact h8)]; exact h5
  · rw [hg.cell (by exact h9)]; exact h6
theorem looks_facts {w w1 w2 w3 w4 : World} {e : EN} (hS : LookBox w e w4) (hz : w.heap.size + 2 ≤ w1.heap.size) (d2 : w2.cell? ⟨w1.heap.size, 0, none⟩ = some (.int .i64 2)) (z2 : w1.heap.size < w2.heap.size)
    (g3 : Grew w2 w3) (d3 : w3.cell? ⟨w2.heap.size, 0, none⟩ = some (.int .i64 3)) (z3 : w2.heap.size < w3.heap.size) (g4 : Grew w3 w4) (d4 : w4.cell? ⟨w3.heap.size, 0, none⟩ = some (.int .i64 4)) (z4 : w3.heap.size < w4.heap.size)
    {W : World} (hk : Keeps (· = w.heap.size + 1) w4 W) : LooksOk e w w1.heap.size w2.heap.size w3.heap.size W := by
  obtain ⟨h1, h2, h3, h4, h5⟩ := hS
  have q : ∀ b j, b ≠ w.heap.size + 1 → b < w4.heap.size → W.cell? ⟨b, j, none⟩ = w4.cell? ⟨b, j, none⟩ := fun b j h l => hk.cell (p := ⟨b, j, none⟩) l h
  have sz := hk.size
  refine ⟨h1.keep hk (fun x hx => by omega), by omega, ?_, ⟨?_, ?_, ?_⟩, by omega, by omega, by omega⟩
  · unfold EN.Box at h3 ⊢
    have q' : ∀ j, W.cell? ⟨w.heap.size, j, none⟩ = w4.cell? ⟨w.heap.size, j, none⟩ := fun j => q _ j (by omega) (by omega)
    simp only [q']; exact h3
  · rw [q _ _ (by omega) (by omega), (g3.trans g4).cell (p := ⟨w1.heap.size, 0, none⟩) z2]; exact d2
  · rw [q _ _ (by omega) (by omega), g4.cell (p := ⟨w2.heap.size, 0, none⟩) z3]; exact d3
  · rw [q _ _ (by omega) (by omega)]; exact d4

set_option maxHeartbeats 2000000 in
theorem looks_any (e : EN) (w : World) : Calls Try.prog 26 #[e.val] w fun e' w' => ∃ d2 d3 d4 : Nat, e' = .returned (looksVal e w.heap.size d2 d3 d4) ∧ LooksOk e w d2 d3 d4 w' := by
  have CL := Lib.hid (fun d w1 => looks1_any d w.heap.size w1)
  unfold EN.val
  go_enter Try.func26, Try.ntmps26
  go_wp2_with fail
  have hB : LookBox w e ((w.alloc (.cells #[.bool e.n.lf, .slice e.n.pa e.n.ps.length e.n.pc, .slice e.n.ta e.n.ts.length e.n.tc, .slice e.n.ka e.n.ks.length e.n.kc, .string e.r.ty, .int .i64 e.r.td, .string e.r.tt, .int .i64 e.r.od, .string e.r.ot, .slice e.r.ka e.r.kids.length e.r.kc, .int .i64 e.r.fill, .string e.r.ft, .slice e.aa e.acts.length e.ac] 59)).alloc (.cells #[.nilFunc, .nilFunc, .nilFunc, .nilFunc, .nilFunc, .nilFunc, .nilFunc] 62)) := ⟨(Grew.alloc1 w _).alloc _, by simp, ⟨by go_simp, by go_simp, by go_simp, by go_simp, by go_simp, by go_simp, by go_simp, by go_simp, by go_simp, by go_simp, by go_simp, by go_simp, by go_simp⟩, ⟨by go_simp, by go_simp, by go_simp, by go_simp, by go_simp, by go_simp, by go_simp⟩, fun j => by rw [World.frozen?_alloc_at _ _ _ _ (by simp)]⟩
  generalize ((w.alloc (.cells #[.bool e.n.lf, .slice e.n.pa e.n.ps.length e.n.pc, .slice e.n.ta e.n.ts.length e.n.tc, .slice e.n.ka e.n.ks.length e.n.kc, .string e.r.ty, .int .i64 e.r.td, .string e.r.tt, .int .i64 e.r.od, .string e.r.ot, .slice e.r.ka e.r.kids.length e.r.kc, .int .i64 e.r.fill, .string e.r.ft, .slice e.aa e.acts.length e.ac] 59)).alloc (.cells #[.nilFunc, .nilFunc, .nilFunc, .nilFunc, .nilFunc, .nilFunc, .nilFunc] 62)) = w1 at *
  have hS1 : LookBox w e w1.drew := hB.next (Grew.refl _).drew
  refine wp_region_need (LookBox w e) (fun j => j.blt 13) (by kernel_rfl) ?_
  refine wpAnyN_take (i := 0) (v := .func (.func 48) #[] #[.pointer (some ⟨w.heap.size, 0, none⟩)]) rfl (by kernel_rfl) (by kernel_rfl) (by kernel_rfl) (by kernel_rfl) (fun _ _ _ h => h) (Or.inl ⟨rfl, fun w' hS => by go_simp⟩) hS1 ?_
  refine wpAnyN_take (i := 2) (v := .func (.func 48) #[] #[.pointer (some ⟨w.heap.size, 0, none⟩)]) rfl (by kernel_rfl) (by kernel_rfl) (by kernel_rfl) (by kernel_rfl) (fun _ _ _ h => h) (Or.inl ⟨rfl, fun w' hS => by go_simp⟩) hS1 ?_
  refine wpAnyN_take (i := 4) (v := .func (.func 48) #[] #[.pointer (some ⟨w.heap.size, 0, none⟩)]) rfl (by kernel_rfl) (by kernel_rfl) (by kernel_rfl) (by kernel_rfl) (fun _ _ _ h => h) (Or.inl ⟨rfl, fun w' hS => by go_simp⟩) hS1 ?_
  refine wpAnyN_take (i := 6) (v := .agg #[.bool e.n.lf, .slice e.n.pa e.n.ps.length e.n.pc, .slice e.n.ta e.n.ts.length e.n.tc, .slice e.n.ka e.n.ks.length e.n.kc, .string e.r.ty, .int .i64 e.r.td, .string e.r.tt, .int .i64 e.r.od, .string e.r.ot, .slice e.r.ka e.r.kids.length e.r.kc, .int .i64 e.r.fill, .string e.r.ft, .slice e.aa e.acts.length e.ac]) rfl (by kernel_rfl) (by kernel_rfl) (by kernel_rfl) (by kernel_rfl) (fun _ _ _ h => h) (Or.inl ⟨rfl, fun w' hS => by obtain ⟨_, _, ⟨b0, b1, b2, b3, b4, b5, b6, b7, b8, b9, b10, b11, b12⟩, _, _⟩ := hS; go_simp⟩) hS1 ?_
  refine wpAnyN_take (i := 8) (v := .agg #[.bool e.n.lf, .slice e.n.pa e.n.ps.length e.n.pc, .slice e.n.ta e.n.ts.length e.n.tc, .slice e.n.ka e.n.ks.length e.n.kc, .string e.r.ty, .int .i64 e.r.td, .string e.r.tt, .int .i64 e.r.od, .string e.r.ot, .slice e.r.ka e.r.kids.length e.r.kc, .int .i64 e.r.fill, .string e.r.ft, .slice e.aa e.acts.length e.ac]) rfl (by kernel_rfl) (by kernel_rfl) (by kernel_rfl) (by kernel_rfl) (fun _ _ _ h => h) (Or.inl ⟨rfl, fun w' hS => by obtain ⟨_, _, ⟨b0, b1, b2, b3, b4, b5, b6, b7, b8, b9, b10, b11, b12⟩, _, _⟩ := hS; go_simp⟩) hS1 ?_
  refine wpAnyN_take (i := 10) (v := .agg #[.bool e.n.lf, .slice e.n.pa e.n.ps.length e.n.pc, .slice e.n.ta e.n.ts.length e.n.tc, .slice e.n.ka e.n.ks.length e.n.kc, .string e.r.ty, .int .i64 e.r.td, .string e.r.tt, .int .i64 e.r.od, .string e.r.ot, .slice e.r.ka e.r.kids.length e.r.kc, .int .i64 e.r.fill, .string e.r.ft, .slice e.aa e.acts.length e.ac]) rfl (by kernel_rfl) (by kernel_rfl) (by kernel_rfl) (by kernel_rfl) (fun _ _ _ h => h) (Or.inl ⟨rfl, fun w' hS => by obtain ⟨_, _, ⟨b0, b1, b2, b3, b4, b5, b6, b7, b8, b9, b10, b11, b12⟩, _, _⟩ := hS; go_simp⟩) hS1 ?_
  refine wpAnyN_take (i := 7) (v := .func (.func 51) #[.agg #[.bool e.n.lf, .slice e.n.pa e.n.ps.length e.n.pc, .slice e.n.ta e.n.ts.length e.n.tc, .slice e.n.ka e.n.ks.length e.n.kc, .string e.r.ty, .int .i64 e.r.td, .string e.r.tt, .int .i64 e.r.od, .string e.r.ot, .slice e.r.ka e.r.kids.length e.r.kc, .int .i64 e.r.fill, .string e.r.ft, .slice e.aa e.acts.length e.ac]] #[]) rfl (by kernel_rfl) (by kernel_rfl) (by kernel_rfl) (by kernel_rfl) (fun _ _ _ h => h) (Or.inl ⟨rfl, fun w' hS => by go_simp⟩) hS1 ?_
  refine wpAnyN_take (i := 9) (v := .func (.func 52) #[.agg #[.bool e.n.lf, .slice e.n.pa e.n.ps.length e.n.pc, .slice e.n.ta e.n.ts.length e.n.tc, .slice e.n.ka e.n.ks.length e.n.kc, .string e.r.ty, .int .i64 e.r.td, .string e.r.tt, .int .i64 e.r.od, .string e.r.ot, .slice e.r.ka e.r.kids.length e.r.kc, .int .i64 e.r.fill, .string e.r.ft, .slice e.aa e.acts.length e.ac]] #[]) rfl (by kernel_rfl) (by kernel_rfl) (by kernel_rfl) (by kernel_rfl) (fun _ _ _ h => h) (Or.inl ⟨rfl, fun w' hS => by go_simp⟩) hS1 ?_
  refine wpAnyN_take (i := 11) (v := .func (.func 53) #[.agg #[.bool e.n.lf, .slice e.n.pa e.n.ps.length e.n.pc, .slice e.n.ta e.n.ts.length e.n.tc, .slice e.n.ka e.n.ks.length e.n.kc, .string e.r.ty, .int .i64 e.r.td, .string e.r.tt, .int .i64 e.r.od, .string e.r.ot, .slice e.r.ka e.r.kids.length e.r.kc, .int .i64 e.r.fill, .string e.r.ft, .slice e.aa e.acts.length e.ac]] #[]) rfl (by kernel_rfl) (by kernel_rfl) (by kernel_rfl) (by kernel_rfl) (fun _ _ _ h => h) (Or.inl ⟨rfl, fun w' hS => by go_simp⟩) hS1 ?_
  refine wpAnyN_one (i := 1) (by kernel_rfl) rfl rfl ?_
  intro K' hK'
  go_wp2_with fail
  refine (CL.out 2 w1.drew).mono ?_
  rintro e' w2 ⟨rfl, g2, d2, z2⟩
  have hS2 := hS1.next g2
  refine hK' _ _ ⟨fun _ => hS2, ?_⟩
  clear hK' K'
  refine wpAnyN_one (i := 3) (by kernel_rfl) rfl rfl ?_
  intro K' hK'
  go_wp2_with fail
  refine (CL.out 3 w2).mono ?_
  rintro e' w3 ⟨rfl, g3, d3, z3⟩
  have hS3 := hS2.next g3
  refine hK' _ _ ⟨fun _ => hS3, ?_⟩
  clear hK' K'
  refine wpAnyN_one (i := 5) (by kernel_rfl) rfl rfl ?_
  intro K' hK'
  go_wp2_with fail
  refine (CL.out 4 w3).mono ?_
  rintro e' w4 ⟨rfl, g4, d4, z4⟩
  have hS4 := hS3.next g4
  refine hK' _ _ ⟨fun _ => hS4, ?_⟩
  clear hK' K'
  have HO := Lib.hid (fun W hk => looks_facts (W := W) hS4 (by rw [World.size_drew]; exact hB.2.1) d2 z2 g3 d3 z3 g4 d4 z4 hk)
  obtain ⟨G4, s4, _, ⟨r0, r1, r2, r3, r4, r5, r6⟩, rf⟩ := id hS4
  have HS := Lib.hid (And.intro r0 (And.intro r1 (And.intro r2 (And.intro r3 (And.intro r4 (And.intro r5 r6))))))
  refine wpAnyN_one (i := 12) (by kernel_rfl) rfl rfl ?_
  intro K' hK'
  go_wp2_with fail
  refine ⟨fun _ => hS4, ?_⟩
  refine wpAnyN_one (i := 13) (by kernel_rfl) rfl rfl ?_
  intro K' hK'
  go_wp2_with fail
  refine ⟨fun h => (by cases h), ?_⟩
  refine wpAnyN_done (by kernel_rfl) ?_ _
  go_wp2_with fail
  generalize hF : (((((((w4.setCell ⟨w.heap.size + 1, 0, none⟩ _).setCell ⟨w.heap.size + 1, 1, none⟩ _).setCell ⟨w.heap.size + 1, 2, none⟩ _).setCell ⟨w.heap.size + 1, 3, none⟩ _).setCell ⟨w.heap.size + 1, 4, none⟩ _).setCell ⟨w.heap.size + 1, 5, none⟩ _).setCell ⟨w.heap.size + 1, 6, none⟩ _) = F
  obtain ⟨⟨f0, f1, f2, f3, f4, f5, f6⟩, hk⟩ := put7 HS.out hF
  clear hF r0 r1 r2 r3 r4 r5 r6
  refine bodyPost_ret (v := looksVal e w.heap.size w1.heap.size w2.heap.size w3.heap.size) (by simp [results, Try.results26, go_sem, looksVal, EN.val, f0, f1, f2, f3, f4, f5, f6]) rfl ⟨_, _, _, rfl, HO.out _ hk⟩
end Go.Proofs.Ytnkmcbhpmbjkpaa
