/- redlineref15.all: the contract. -/
import Derived.Test.YtnkmcbhpmbjkpaaRule
import Derived.Test.YtnkmcbhpmbjkpaaAppW
namespace Go.Proofs.Ytnkmcbhpmbjkpaa
open Go Go.RowKit

theorem infoRule : (Try.prog.info? 27).map (fun i => (i.zero, i.size, i.bytes)) = some (some (.agg #[.string .empty, .int .i64 0, .string .empty, .int .i64 0, .string .empty, .slice none 0 0, .int .i64 0, .string .empty]), 8, 112) := by kernel_rfl
theorem rnCells_len (r : RN) : r.cells.length = 8 := rfl
theorem rnCells_one (r : RN) : ∀ u ∈ r.cells, u.oneCell' = true := by
  intro u hu
  simp only [RN.cells, List.mem_cons, List.mem_nil_iff, or_false] at hu
  rcases hu with rfl | rfl | rfl | rfl | rfl | rfl | rfl | rfl <;> rfl
theorem rnCells_getD (r : RN) (j : Nat) (h : j < 8) : r.cells.getD j undef = r.cell j := by
  match j, h with
  | 0, _ => rfl
  | 1, _ => rfl
  | 2, _ => rfl
  | 3, _ => rfl
  | 4, _ => rfl
  | 5, _ => rfl
  | 6, _ => rfl
  | 7, _ => rfl
theorem rules_at (l : List RN) (i : Nat) (hi : i < l.length) (j : Nat) (hj : j < 8) : (l.flatMap RN.cells)[i * 8 + j]? = some ((l.getD i default).cell j) := by
  rw [flat_at rnCells_len l i hi j hj, rnCells_getD _ j hj]
/-- a schema's box, behind whatever has been made since -/
def SBox (w : World) (s : SN) (w' : World) : Prop := Grew w w' ∧ w.heap.size < w'.heap.size ∧ (w'.cell? ⟨w.heap.size, 0, none⟩ = some (.slice s.ra s.rules.length s.rc) ∧ w'.cell? ⟨w.heap.size, 1, none⟩ = some (.string s.els.ty) ∧ w'.cell? ⟨w.heap.size, 2, none⟩ = some (.int .i64 s.els.td) ∧ w'.cell? ⟨w.heap.size, 3, none⟩ = some (.string s.els.tt) ∧ w'.cell? ⟨w.heap.size, 4, none⟩ = some (.int .i64 s.els.od) ∧ w'.cell? ⟨w.heap.size, 5, none⟩ = some (.string s.els.ot) ∧ w'.cell? ⟨w.heap.size, 6, none⟩ = some (.slice s.els.ka s.els.kids.length s.els.kc) ∧ w'.cell? ⟨w.heap.size, 7, none⟩ = some (.int .i64 s.els.fill) ∧ w'.cell? ⟨w.heap.size, 8, none⟩ = some (.string s.els.ft))
theorem SBox.next {w : World} {s : SN} {w1 w2 : World} (h : SBox w s w1) (hg : Grew w1 w2) : SBox w s w2 := by
  obtain ⟨h1, h2, h3⟩ := h
  have q : ∀ j, w2.cell? ⟨w.heap.size, j, none⟩ = w1.cell? ⟨w.heap.size, j, none⟩ := fun j => hg.cell (p := ⟨w.heap.size, j, none⟩) h2
  refine ⟨h1.trans hg, Nat.lt_of_lt_of_le h2 hg.size, ?_⟩
  simp only [q]; exact h3

/-- one rule in a new block is a row -/
theorem rule_row {q : RN} {c w' : World} {t : TypeId} (g : Grew (c.alloc (.cells #[.string q.ty, .int .i64 q.td, .string q.tt, .int .i64 q.od, .string q.ot, .slice q.ka q.kids.length q.kc, .int .i64 q.fill, .string q.ft] t)) w') : RowIn w' 0 w'.heap.size (some ⟨c.heap.size, 0, none⟩) 1 1 8 (fun i j => ([q].getD i default).cell j) := by
  obtain ⟨⟨c0, c1, c2, c3, c4, c5, c6, c7⟩, hz⟩ := box8 g
  refine ⟨⟨(fun h => absurd h (by simp)), Nat.le_refl _, (by unfold maxLen; omega)⟩, fun _ => ⟨_, 0, rfl, Nat.zero_le _, hz, fun i hi j hj => ?_⟩⟩
  obtain rfl : i = 0 := by omega
  match j, hj with
  | 0, _ => exact c0
  | 1, _ => exact c1
  | 2, _ => exact c2
  | 3, _ => exact c3
  | 4, _ => exact c4
  | 5, _ => exact c5
  | 6, _ => exact c6
  | 7, _ => exact c7
theorem rules_out {s : SN} {w c0 c3 c4 : World} {v1 v2 : Value} (hs : s.Ok w) (h0 : Grew w c0) (h3 : Grew c0 c3) (hown1 : c3.ownsRow c0.heap.size 27 8 v1 (0 + s.rules.length) ([] ++ s.rules.flatMap RN.cells)) (hgr : c3.grownBy c4 v1.ownBlock)
    (hown : c4.ownsRow c0.heap.size 27 8 v2 (0 + s.rules.length + 1) ([] ++ s.rules.flatMap RN.cells ++ [s.els].flatMap RN.cells)) :
    Grew c0 c4 ∧ ∃ a c, v2 = .slice a (s.rules ++ [s.els]).length c ∧ Grew w c4 ∧ RulesIn c4 0 c4.heap.size a c (s.rules ++ [s.els]) := by
  have hg0 : Grew c0 c4 := h3.grown hgr (fun k hk => (hown1.lt k hk).1)
  have hg4 := h0.trans hg0
  refine ⟨hg0, ?_⟩
  obtain ⟨a, c, rfl⟩ := owned_shape hown
  have hl : (s.rules ++ [s.els]).length = 0 + s.rules.length + 1 := by simp
  rw [List.nil_append, ← List.flatMap_append, ← hl] at hown
  refine ⟨a, c, by rw [hl], hg4, ?_, fun r hr => ?_⟩
  · exact ((ownRow_owned (f := fun i j => ((s.rules ++ [s.els]).getD i default).cell j) hown (fun i hi j hj => rules_at _ i hi j hj)).1).mono (Nat.zero_le _) (Nat.le_refl _)
  · have h0 : r.In w 0 w.heap.size := by
      rcases List.mem_append.1 hr with h | h
      · exact hs.1.2 r h
      · rw [List.mem_singleton.1 h]; exact hs.2
    exact (RN.In.grew h0 hg4 (Nat.le_refl _)).mono (Nat.le_refl _) hg4.size

set_option maxHeartbeats 1000000 in
theorem all15_any (s : SN) (w : World) (hs : s.Ok w) (hsm : s.Small) :
    Calls Try.prog 44 #[s.val] w fun e w' => ∃ a c, e = .returned (.slice a (s.rules ++ [s.els]).length c) ∧ Grew w w' ∧ RulesIn w' 0 w'.heap.size a c (s.rules ++ [s.els]) := by
  have hl := hsm.1
  unfold SN.val
  go_enter Try.func44, Try.ntmps44
  go_wp2_with fail
  have hB0 : SBox w s (w.alloc (.cells #[.slice s.ra s.rules.length s.rc, .string s.els.ty, .int .i64 s.els.td, .string s.els.tt, .int .i64 s.els.od, .string s.els.ot, .slice s.els.ka s.els.kids.length s.els.kc, .int .i64 s.els.fill, .string s.els.ft, .int .i64 s.o0, .int .i64 s.o1, .int .i64 s.o2, .int .i64 s.o3, .int .i64 s.o4, .int .i64 s.o5, .int .i64 s.cap] 30)) := ⟨Grew.alloc1 w _, by simp, by go_simp, by go_simp, by go_simp, by go_simp, by go_simp, by go_simp, by go_simp, by go_simp, by go_simp⟩
  generalize w.alloc (.cells #[.slice s.ra s.rules.length s.rc, .string s.els.ty, .int .i64 s.els.td, .string s.els.tt, .int .i64 s.els.od, .string s.els.ot, .slice s.els.ka s.els.kids.length s.els.kc, .int .i64 s.els.fill, .string s.els.ft, .int .i64 s.o0, .int .i64 s.o1, .int .i64 s.o2, .int .i64 s.o3, .int .i64 s.o4, .int .i64 s.o5, .int .i64 s.cap] 30) = w1 at *
  have hS0 : SBox w s w1.drew := hB0.next (Grew.refl _).drew
  refine wp_region_need (SBox w s) (fun j => j.blt 7) (by kernel_rfl) ?_
  generalize w1.drew = c0 at *
  refine wpAnyN_take (i := 0) (v := .pointer (some ⟨w.heap.size, 0, none⟩)) rfl (by kernel_rfl) (by kernel_rfl) (by kernel_rfl) (by kernel_rfl) (fun _ _ _ h => h) (Or.inl ⟨rfl, fun w' hS => by go_simp⟩) hS0 ?_
  refine wpAnyN_take (i := 3) (v := .pointer (some ⟨w.heap.size, 1, none⟩)) rfl (by kernel_rfl) (by kernel_rfl) (by kernel_rfl) (by kernel_rfl) (fun _ _ _ h => h) (Or.inl ⟨rfl, fun w' hS => by go_simp⟩) hS0 ?_
  refine wpAnyN_take (i := 1) (v := .slice s.ra s.rules.length s.rc) rfl (by kernel_rfl) (by kernel_rfl) (by kernel_rfl) (by kernel_rfl) (fun _ _ _ h => h) (Or.inl ⟨rfl, fun w' hS => by obtain ⟨_, _, s0, s1, s2, s3, s4, s5, s6, s7, s8⟩ := hS; go_simp⟩) hS0 ?_
  refine wpAnyN_take (i := 4) (v := .agg #[.string s.els.ty, .int .i64 s.els.td, .string s.els.tt, .int .i64 s.els.od, .string s.els.ot, .slice s.els.ka s.els.kids.length s.els.kc, .int .i64 s.els.fill, .string s.els.ft]) rfl (by kernel_rfl) (by kernel_rfl) (by kernel_rfl) (by kernel_rfl) (fun _ _ _ h => h) (Or.inl ⟨rfl, fun w' hS => by obtain ⟨_, _, s0, s1, s2, s3, s4, s5, s6, s7, s8⟩ := hS; go_simp⟩) hS0 ?_
  refine wpAnyN_two (i := 2) (j := 5) (by kernel_rfl) rfl rfl rfl rfl ?_ ?_
  · intro K' hK'
    refine wp_append_row rfl (.const (.slice none 0 0)) (.tmp 4) 22 rfl c0.heap.size 27 Try.underlying22 infoRule rfl (by decide) (.slice none 0 0) 0 [] rfl (World.ownsRow_nil _ _ _ _) s.ra s.rules.length s.rc 0 w.heap.size _ rfl (hs.1.grew hS0.1 (Nat.le_refl _)).1 (s.rules.flatMap RN.cells) (flat_len rnCells_len _) (rules_at s.rules) (flat_one rnCells_one _) (by unfold maxLen; omega) (by omega) (Nat.le_refl _) ?_
    intro v1 c1 hown1 hgr1 _
    have g1 : Grew c0 c1 := (Grew.refl c0).grown hgr1 (fun k hk => by cases hk)
    have hS1 := hS0.next g1
    refine hK' _ _ ⟨fun _ => hS1, ?_⟩
    clear hK' K'
    refine wpAnyN_one (i := 5) (by kernel_rfl) rfl rfl ?_
    intro K' hK'
    go_wp2_with fail
    have g2 := Grew.alloc1 c1 (.cells #[.string s.els.ty, .int .i64 s.els.td, .string s.els.tt, .int .i64 s.els.od, .string s.els.ot, .slice s.els.ka s.els.kids.length s.els.kc, .int .i64 s.els.fill, .string s.els.ft] 27)
    have hS2 := hS1.next g2
    refine ⟨fun _ => hS2, ?_⟩
    refine wpAnyN_one (i := 6) (by kernel_rfl) rfl rfl ?_
    intro K' hK'
    refine wp_append_row rfl (.tmp 5) (.tmp 8) 22 rfl c0.heap.size 27 Try.underlying22 infoRule rfl (by decide) v1 _ _ rfl (ownsRow_grew hown1 g2) (some ⟨c1.heap.size, 0, none⟩) 1 1 0 _ _ rfl (rule_row (q := s.els) (t := 27) (Grew.refl _)) ([s.els].flatMap RN.cells) (flat_len rnCells_len _) (rules_at [s.els]) (flat_one rnCells_one _) (by unfold maxLen; omega) (by omega) (g1.trans g2).size ?_
    intro v2 c4 hown2 hgr2 _
    obtain ⟨g4, va, vc, rfl, gw, hR⟩ := rules_out hs hS0.1 (g1.trans g2) (ownsRow_grew hown1 g2) hgr2 hown2
    have hS4 := hS0.next g4
    refine hK' _ _ ⟨fun _ => hS4, ?_⟩
    clear hK' K'
    have HR := Lib.hid hR
    clear hR hown1 hown2
    refine wpAnyN_one (i := 7) (by kernel_rfl) rfl rfl ?_
    intro K' hK'
    go_wp2_with fail
    refine ⟨fun h => (by cases h), ?_⟩
    refine wpAnyN_done (by kernel_rfl) ?_ _
    go_wp2_with fail
    go_ret
    exact ⟨va, vc, ret_val (by simp), gw, HR.out⟩
  · intro K' hK'
    go_wp2_with fail
    have g1 := Grew.alloc1 c0 (.cells #[.string s.els.ty, .int .i64 s.els.td, .string s.els.tt, .int .i64 s.els.od, .string s.els.ot, .slice s.els.ka s.els.kids.length s.els.kc, .int .i64 s.els.fill, .string s.els.ft] 27)
    have hS1 := hS0.next g1
    refine ⟨fun _ => hS1, ?_⟩
    have HG := Lib.hid (fun w' (h : Grew (c0.alloc (.cells #[.string s.els.ty, .int .i64 s.els.td, .string s.els.tt, .int .i64 s.els.od, .string s.els.ot, .slice s.els.ka s.els.kids.length s.els.kc, .int .i64 s.els.fill, .string s.els.ft] 27)) w') => rule_row (q := s.els) (t := 27) h)
    generalize c0.alloc (.cells #[.string s.els.ty, .int .i64 s.els.td, .string s.els.tt, .int .i64 s.els.od, .string s.els.ot, .slice s.els.ka s.els.kids.length s.els.kc, .int .i64 s.els.fill, .string s.els.ft] 27) = c1 at *
    refine wpAnyN_one (i := 2) (by kernel_rfl) rfl rfl ?_
    intro K' hK'
    refine wp_append_row rfl (.const (.slice none 0 0)) (.tmp 4) 22 rfl c0.heap.size 27 Try.underlying22 infoRule rfl (by decide) (.slice none 0 0) 0 [] rfl (World.ownsRow_nil _ _ _ _) s.ra s.rules.length s.rc 0 w.heap.size _ rfl (hs.1.grew hS1.1 (Nat.le_refl _)).1 (s.rules.flatMap RN.cells) (flat_len rnCells_len _) (rules_at s.rules) (flat_one rnCells_one _) (by unfold maxLen; omega) (by omega) g1.size ?_
    intro v1 c2 hown1 hgr1 _
    have g2 : Grew c1 c2 := (Grew.refl c1).grown hgr1 (fun k hk => by cases hk)
    have hS2 := hS1.next g2
    refine hK' _ _ ⟨fun _ => hS2, ?_⟩
    clear hK' K'
    refine wpAnyN_one (i := 6) (by kernel_rfl) rfl rfl ?_
    intro K' hK'
    refine wp_append_row rfl (.tmp 5) (.tmp 8) 22 rfl c0.heap.size 27 Try.underlying22 infoRule rfl (by decide) v1 _ _ rfl hown1 (some ⟨c0.heap.size, 0, none⟩) 1 1 0 _ _ rfl (HG.out _ g2) ([s.els].flatMap RN.cells) (flat_len rnCells_len _) (rules_at [s.els]) (flat_one rnCells_one _) (by unfold maxLen; omega) (by omega) (g1.trans g2).size ?_
    intro v2 c4 hown2 hgr2 _
    obtain ⟨g4, va, vc, rfl, gw, hR⟩ := rules_out hs hS0.1 (g1.trans g2) hown1 hgr2 hown2
    have hS4 := hS0.next g4
    refine hK' _ _ ⟨fun _ => hS4, ?_⟩
    clear hK' K'
    have HR := Lib.hid hR
    clear hR hown1 hown2
    refine wpAnyN_one (i := 7) (by kernel_rfl) rfl rfl ?_
    intro K' hK'
    go_wp2_with fail
    refine ⟨fun h => (by cases h), ?_⟩
    refine wpAnyN_done (by kernel_rfl) ?_ _
    go_wp2_with fail
    go_ret
    exact ⟨va, vc, ret_val (by simp), gw, HR.out⟩
end Go.Proofs.Ytnkmcbhpmbjkpaa
