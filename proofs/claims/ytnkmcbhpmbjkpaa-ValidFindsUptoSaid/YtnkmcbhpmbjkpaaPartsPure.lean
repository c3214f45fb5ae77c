/- ValidParts: the plain law. -/
import Derived.Test.YtnkmcbhpmbjkpaaFindLaws
import Derived.Test.YtnkmcbhpmbjkpaaWrongAll
namespace Go.Proofs.Ytnkmcbhpmbjkpaa
open Go Go.RowKit

theorem mem_pathsAll (p : List Int) (l : List T) : ∀ (i : Nat) (q : List Int), q ∈ T.pathsAll p i l ↔ ∃ j, j < l.length ∧ q ∈ (l.getD j default).paths (p ++ [((i + j : Nat) : Int)]) := by
  induction l with
  | nil => intro i q; simp [T.pathsAll]
  | cons x r ih =>
    intro i q
    rw [T.pathsAll, List.mem_append, ih]
    constructor
    · rintro (h | ⟨j, hj, h⟩)
      · exact ⟨0, by simp, by simpa using h⟩
      · refine ⟨j + 1, by simpa using hj, ?_⟩
        rw [show i + (j + 1) = i + 1 + j by omega]
        simpa using h
    · rintro ⟨j, hj, h⟩
      cases j with
      | zero => left; simpa using h
      | succ j =>
        right
        refine ⟨j, by simpa using hj, ?_⟩
        rw [show i + (j + 1) = i + 1 + j by omega] at h
        simpa using h
theorem paths_shift (t : T) : ∀ p q0 : List Int, t.paths (p ++ q0) = (t.paths q0).map (p ++ ·) := by
  induction t using T.ind with
  | h t ih =>
    intro p q0
    have : ∀ l : List T, (∀ k ∈ l, ∀ p q0 : List Int, k.paths (p ++ q0) = (k.paths q0).map (p ++ ·)) → ∀ i, T.pathsAll (p ++ q0) i l = (T.pathsAll q0 i l).map (p ++ ·) := by
      intro l
      induction l with
      | nil => intro _ i; rfl
      | cons x r ihr =>
        intro h i
        rw [T.pathsAll, T.pathsAll, List.map_append, ihr (fun k hk => h k (by simp [hk])), List.append_assoc, h x (by simp)]
    rw [T.paths_eq, T.paths_eq, List.map_cons, this t.ks ih]
theorem struck_root (s : SchT) (t : T) : struckT s t [] = decide ((findT s t).1 = 0) := rfl
theorem struck_kid (s : SchT) (t : T) (j : Nat) (q : List Int) (h : j < t.ks.length) : struckT s t ((j : Int) :: q) = struckT s (t.ks.getD j default) q := by
  unfold struckT
  rw [T.at, if_neg (by omega), Int.toNat_natCast]
/-- a tree is valid just if nothing is wrong with any of its nodes -/
theorem valid_struck (s : SchT) (t : T) : (∀ q ∈ t.paths [], struckT s t q = true) ↔ validT s t = true := by
  induction t using T.ind with
  | h t ih =>
    rw [validT_eq, Bool.and_eq_true, List.all_eq_true, ← struck_root, T.paths_eq]
    constructor
    · intro h
      refine ⟨h [] (by simp), fun k hk => (ih k hk).1 fun q hq => ?_⟩
      obtain ⟨j, hj, rfl⟩ := List.getElem_of_mem hk
      have e : t.ks.getD j default = t.ks[j] := by simp [List.getD, hj]
      rw [← e, ← struck_kid s t j q hj]
      refine h _ (List.mem_cons_of_mem _ ((mem_pathsAll [] t.ks 0 _).2 ⟨j, hj, ?_⟩))
      rw [e]
      have := paths_shift t.ks[j] [(j : Int)] []
      rw [List.append_nil] at this
      rw [List.nil_append, Nat.zero_add, this]
      exact List.mem_map_of_mem hq
    · rintro ⟨h1, h2⟩ q hq
      rcases List.mem_cons.1 hq with rfl | hq
      · exact h1
      · obtain ⟨j, hj, hq⟩ := (mem_pathsAll [] t.ks 0 q).1 hq
        have e : t.ks.getD j default = t.ks[j] := by simp [List.getD, hj]
        have := paths_shift (t.ks.getD j default) [(j : Int)] []
        rw [List.append_nil] at this
        rw [List.nil_append, Nat.zero_add, this] at hq
        obtain ⟨q', hq', rfl⟩ := List.mem_map.1 hq
        show struckT s t ((j : Int) :: q') = true
        rw [struck_kid s t j q' hj]
        have hm : t.ks.getD j default ∈ t.ks := getD_mem t.ks j hj
        exact (ih _ hm).2 (h2 _ hm) q' hq'
theorem wrong_nil (s : SchT) (t : T) : (wrongT s t = []) ↔ validT s t = true := by
  rw [← valid_struck]
  unfold wrongT
  rw [List.filter_eq_nil_iff]
  simp
/-- where something is wrong there is a node, and it is wrong with it -/
theorem wrong_mem {s : SchT} {t : T} {q : List Int} (h : q ∈ wrongT s t) : ∃ k, t.at q = some k ∧ (findT s k).1 ≠ 0 := by
  unfold wrongT at h
  have h1 := (List.mem_filter.1 h).2
  unfold struckT at h1
  cases hk : t.at q with
  | none => rw [hk] at h1; cases h1
  | some k => rw [hk] at h1; exact ⟨k, rfl, by simpa using h1⟩
/-- whether a Find is of nothing -/
theorem find_eql (a b c : Int) (w : World) : (binOp .eql 39 (.agg #[.int .i64 a, .int .i64 b, .int .i64 c]) (.agg #[.int .i64 0, .int .i64 0, .int .i64 0])).run Try.prog w = .ok (.bool (decide ((a, b, c) = (0, 0, 0)))) w := by
  by_cases ha : a = 0
  · subst ha
    by_cases hb : b = 0
    · subst hb
      by_cases hc : c = 0
      · subst hc; go_simp
      · have h : (c == 0) = false := by simpa using hc
        have h2 : decide (((0 : Int), (0 : Int), c) = (0, 0, 0)) = false := by simpa using hc
        rw [h2]; go_simp
    · have h : (b == 0) = false := by simpa using hb
      have h2 : decide (((0 : Int), b, c) = (0, 0, 0)) = false := by simp [hb]
      rw [h2]; go_simp
  · have h : (a == 0) = false := by simpa using ha
    have h2 : decide ((a, b, c) = (0, 0, 0)) = false := by simp [ha]
    rw [h2]; go_simp
theorem find_guard (a b c : Int) (x y : Operand) (w : World) : (eqGuard .eql 39 x y (.agg #[.int .i64 a, .int .i64 b, .int .i64 c]) (.agg #[.int .i64 0, .int .i64 0, .int .i64 0])).run Try.prog w = .ok () w := by go_simp
/-- .. as a value of which nothing else is known -/
theorem find_of (s : SchT) (t : T) : ∃ (u : Value) (c : Bool), findVal (findT s t) = u ∧ (∀ w, (binOp .eql 39 u (.agg #[.int .i64 0, .int .i64 0, .int .i64 0])).run Try.prog w = .ok (.bool c) w) ∧ (∀ x y w, (eqGuard .eql 39 x y u (.agg #[.int .i64 0, .int .i64 0, .int .i64 0])).run Try.prog w = .ok () w) ∧ c = decide ((findT s t).1 = 0) := by
  refine ⟨_, _, rfl, fun w => find_eql _ _ _ w, fun x y w => find_guard _ _ _ x y w, ?_⟩
  show decide (findT s t = (0, 0, 0)) = _
  rcases findT_cases s t with h | h
  · rw [h]; rfl
  · rw [decide_eq_false h, decide_eq_false (fun h2 => h (by rw [h2]))]
end Go.Proofs.Ytnkmcbhpmbjkpaa
