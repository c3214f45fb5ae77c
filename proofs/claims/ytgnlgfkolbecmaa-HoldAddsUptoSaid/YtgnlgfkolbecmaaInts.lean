/- PATHS: rows of ints; slices.Clone of one; append onto one. -/
import Derived.Test.YtgnlgfkolbecmaaClone
import Derived.Test.YtgnlgfkolbecmaaAppW
namespace Go.Proofs.Ytgnlgfkolbecmaa
open Go Go.RowKit

/-- a path lies in a world, between two block numbers -/
def IntsIn (w : World) (lo hi : Nat) (a : Option Addr) (c : Nat) (ts : List Int) : Prop := RowIn w lo hi a ts.length c 1 (fun i _ => .int .i64 (ts.getD i 0))
theorem IntsIn.agree {w w' : World} {lo hi : Nat} {a : Option Addr} {c : Nat} {ts : List Int} (h : IntsIn w lo hi a c ts) (hag : Agree lo hi w w') : IntsIn w' lo hi a c ts := RowIn.agree h hag
theorem IntsIn.mono {w : World} {lo hi lo' hi' : Nat} {a : Option Addr} {c : Nat} {ts : List Int} (h : IntsIn w lo hi a c ts) (h1 : lo' ≤ lo) (h2 : hi ≤ hi') : IntsIn w lo' hi' a c ts := RowIn.mono h h1 h2
theorem IntsIn.grew {w w' : World} {lo hi : Nat} {a : Option Addr} {c : Nat} {ts : List Int} (h : IntsIn w lo hi a c ts) (hg : Grew w w') (hB : hi ≤ w.heap.size) : IntsIn w' lo hi a c ts := h.agree (hg.agree hB)
theorem IntsIn.at {w : World} {lo hi : Nat} {a : Option Addr} {c : Nat} {ts : List Int} (h : IntsIn w lo hi a c ts) {j : Nat} (hj : j < ts.length) :
    ∃ b o, a = some ⟨b, o, none⟩ ∧ lo ≤ b ∧ b < hi ∧ w.cell? ⟨b, o + j, none⟩ = some (.int .i64 (ts.getD j 0)) := by
  obtain ⟨b, o, ha, h1, h2, hc⟩ := h.2 (by omega)
  exact ⟨b, o, ha, h1, h2, by simpa using hc j hj 0 (by omega)⟩
theorem intsIn_nil {w : World} {lo hi : Nat} : IntsIn w lo hi none 0 [] := rowIn_nil

/-- what is owned is a row in new memory -/
theorem intsIn_owned {w : World} {base : Nat} {e : TypeId} {v : Value} {ts : List Int} (h : w.ownsRow base e 1 v ts.length (ts.map (Value.int .i64))) :
    ∃ a c, v = .slice a ts.length c ∧ IntsIn w base w.heap.size a c ts := by
  obtain ⟨hl, h⟩ := h
  rcases h with ⟨rfl, hn⟩ | ⟨g, cap, cur, rfl, hg, hh, hcap, hmax, hcur, htk⟩
  · obtain rfl : ts = [] := List.length_eq_zero_iff.1 hn
    exact ⟨none, 0, rfl, intsIn_nil⟩
  · refine ⟨some ⟨g, 0, none⟩, cap, rfl, ⟨⟨by simp, hcap, hmax⟩, fun _ => ⟨g, 0, rfl, hg, ?_, fun i hi j hj => ?_⟩⟩⟩
    · rcases Nat.lt_or_ge g w.heap.size with h1 | h1
      · exact h1
      · rw [Array.getElem?_eq_none h1] at hh; cases hh
    · obtain rfl : j = 0 := by omega
      simp only [World.cell?, hh]
      have h2 : (cur.toList.take (ts.length * 1))[i]? = some (Value.int .i64 (ts.getD i 0)) := by rw [htk]; simp [List.getD, hi]
      rw [List.getElem?_take] at h2
      simp only [Nat.mul_one, hi, if_true] at h2
      simpa using h2

theorem infoInt : (Try.prog.info? 3).map (fun i => (i.zero, i.size, i.bytes)) = some (some (.int .i64 0), 1, 8) := by kernel_rfl
theorem infoPath : (Try.prog.info? 28).map (fun i => (i.zero, i.size, i.bytes)) = some (some (.slice none 0 0), 1, 24) := by kernel_rfl
theorem ints_at (ts : List Int) : ∀ i, i < ts.length → ∀ j, j < 1 → (ts.map (Value.int .i64))[i * 1 + j]? = some (.int .i64 (ts.getD i 0)) := fun i hi j hj => by
  obtain rfl : j = 0 := by omega
  simp [List.getD, hi]

set_option maxHeartbeats 400000 in
theorem cloneInts_any (a : Option Addr) (c : Nat) (l : List Int) (w : World) (lo hi : Nat) (hr : IntsIn w lo hi a c l) (hh : hi ≤ w.heap.size) (hl : l.length ≤ 1048576) :
    Calls Try.prog 36 #[.slice a l.length c] w fun e w' => ∃ v, e = .returned v ∧ Grew w w' ∧ w'.ownsRow w.heap.size 3 1 v l.length ((List.map (Value.int .i64)) l) := by
  have qT : ∀ (w : World) (a : Option Addr) (n c n' c' : Nat), (binOp .eql 28 (.slice a n c) (.slice none n' c')).run Try.prog w = .ok (.bool a.isNone) w := fun w a n c n' c' => Lib.run_eql_slice_nil w _ _ a n c n' c' Try.underlying28
  cases a with
  | none =>
    obtain ⟨hz, rfl⟩ := hr.1.1 rfl
    obtain rfl : l = [] := List.length_eq_zero_iff.1 hz
    clear hr
    go_enter Try.func36, Try.ntmps36
    go_wp2_with fail
    go_ret
    exact ⟨_, rfl, Grew.refl _, World.ownsRow_nil _ _ _ _⟩
  | some ad =>
    have hr' := hr.grew (Grew.alloc1 w (.cells #[] 3)) hh
    go_enter Try.func36, Try.ntmps36
    go_wp2_with (at_builtin; refine wpList_append_row rfl (.tmp 5) (.tmp 6) 28 rfl w.heap.size 3 Try.underlying28 infoInt rfl (by decide) (.slice (some ⟨w.heap.size, 0, none⟩) 0 0) 0 [] rfl (ownsRow_empty w 3 1) (some ad) l.length c lo hi _ rfl hr' (l.map (Value.int .i64)) (by simp) (ints_at l) (ints_oneCell _ _) (by unfold maxLen; omega) (by omega) (by simp) ?_; intro v' w1 hown' hgrow hblk; obtain ⟨va', vc', rfl⟩ := owned_shape hown')
    go_ret
    rw [Nat.zero_add, List.nil_append] at hown'
    exact ⟨_, rfl, (Grew.alloc1 _ _).grown hgrow (fun k hk => by simp only [Value.ownBlock, Option.some.injEq] at hk; omega), hown'⟩

/-- append onto a path without room: a new row -/
theorem wp_append_full {w : World} {o : Oper} {a : Act} {K : Act → World → Prop} {Q : Exit → Act → World → Prop} (hgd : o.guard = none) (s x : Operand)
    (ho : o.op = .call { callee := .builtin .append, args := #[s, x], argTypes := #[28, 28] })
    (pa : Option Addr) (pc : Nat) (p : List Int) (lo hi : Nat) (hp : IntsIn w lo hi pa pc p) (hs : a.eval s = .slice pa p.length p.length) (hl : p.length ≤ 1048576)
    (b : Nat) (i : Int) (hx : a.eval x = .slice (some ⟨b, 0, none⟩) 1 1) (hc : w.cell? ⟨b, 0, none⟩ = some (.int .i64 i))
    (h : ∀ v' w', w'.ownsRow w.heap.size 3 1 v' (p ++ [i]).length ((p ++ [i]).map (Value.int .i64)) → Grew w w' → K (a.put o.dst v') w') : Oper.wp Try.prog o a w K Q :=
  operwp_of_list hgd fun _ hQ => by
    obtain ⟨i0, hi0, hz0, hz1, hz2⟩ := info_parts infoInt
    refine wpList_append_grows w hgd s x 28 ho 3 i0 (.int .i64 0) 1 8 Try.underlying28 hi0 hz0 hz1 hz2 rfl (by decide) pa p.length p.length (p.map (Value.int .i64)) hs (fun h => ⟨(hp.1.1 h).1, (hp.1.1 h).1⟩) (by simp) (fun ad had j u hj => ?_) ⟨b, 0, none⟩ 1 1 [.int .i64 i] hx rfl (fun j u hj => ?_) (by simp [Value.oneCell']) (by omega) (by unfold maxLen; omega) (by omega) (fun v' w' h1 h2 => wpList_nil (hQ _ _ (h v' w' ?_ ?_)))
    · have hjl : j < p.length := by
        rcases Nat.lt_or_ge j p.length with h2 | h2
        · exact h2
        · rw [List.getElem?_eq_none (by simpa using h2)] at hj; cases hj
      obtain ⟨b2, o2, hab, _, _, hc2⟩ := hp.at hjl
      obtain rfl : ad = ⟨b2, o2, none⟩ := by rw [had] at hab; exact Option.some.inj hab
      rw [Addr.add_lit, hc2, ← hj]
      simp [List.getD, hjl]
    · cases j with
      | zero => rw [Addr.add_lit]; simpa using hc.trans hj
      | succ j => simp at hj
    · simpa using h1
    · exact (Grew.refl w).grown h2 (fun k hk => by cases hk)

/-- a box of a node -/
def NT.Bx (n : NT) (b : Nat) (w : World) : Prop := w.cell? ⟨b, 0, none⟩ = some (.bool n.lf) ∧ w.cell? ⟨b, 1, none⟩ = some (.slice n.pa n.ps.length n.pc) ∧ w.cell? ⟨b, 2, none⟩ = some (.slice n.ta n.ts.length n.tc) ∧ w.cell? ⟨b, 3, none⟩ = some (.slice n.ka n.ks.length n.kc)
theorem NT.Bx.keep {n : NT} {b : Nat} {w w' : World} {S : Nat → Prop} (h : n.Bx b w) (hg : Keeps S w w') (hb : b < w.heap.size) (hS : ¬ S b) : n.Bx b w' := by
  have q : ∀ j, w'.cell? ⟨b, j, none⟩ = w.cell? ⟨b, j, none⟩ := fun j => hg.cell (p := ⟨b, j, none⟩) hb hS
  unfold NT.Bx at h ⊢
  simp only [q]; exact h
theorem NT.Bx.grew {n : NT} {b : Nat} {w w' : World} (h : n.Bx b w) (hg : Grew w w') (hb : b < w.heap.size) : n.Bx b w' := h.keep (hg.keeps Noth) hb (fun h => h)

/-- a path with its address -/
structure PN where
  a : Option Addr
  c : Nat
  l : List Int
instance : Inhabited PN := ⟨⟨none, 0, []⟩⟩
def PN.val (p : PN) : Value := .slice p.a p.l.length p.c
/-- a path that nothing turns: it lies behind block s, and not in a block of O -/
def PIn (w : World) (s : Nat) (O : Nat → Prop) (p : PN) : Prop := ∃ lo hi, IntsIn w lo hi p.a p.c p.l ∧ hi ≤ w.heap.size ∧ ∀ k, lo ≤ k → k < hi → s < k ∧ ¬ O k
theorem PIn.moves {w w' : World} {s : Nat} {O O' : Nat → Prop} {p : PN} (h : PIn w s O p) (hk : Moves O w O' w') : PIn w' s O' p := by
  obtain ⟨lo, hi, h1, h2, h3⟩ := h
  exact ⟨lo, hi, h1.agree (hk.1.agree h2 (fun k a b => (h3 k a b).2)), Nat.le_trans h2 hk.1.size, fun k a b => ⟨(h3 k a b).1, hk.notin (h3 k a b).2 (by omega)⟩⟩
theorem PIn.lies {w : World} {s : Nat} {O : Nat → Prop} {p : PN} (h : PIn w s O p) : IntsIn w 0 w.heap.size p.a p.c p.l := by
  obtain ⟨lo, hi, h1, h2, _⟩ := h
  exact h1.mono (Nat.zero_le _) h2

/-! the paths of a tree at a path -/
mutual
def T.paths (p : List Int) : T → List (List Int)
  | .mk _ _ _ ks => p :: T.pathsAll p 0 ks
def T.pathsAll (p : List Int) (i : Nat) : List T → List (List Int)
  | [] => []
  | k :: r => T.paths (p ++ [(i : Int)]) k ++ T.pathsAll p (i + 1) r
end
theorem T.paths_eq (p : List Int) (t : T) : t.paths p = p :: T.pathsAll p 0 t.ks := by cases t; simp [T.paths]
theorem T.pathsAll_append (p : List Int) (a b : List T) : ∀ i, T.pathsAll p i (a ++ b) = T.pathsAll p i a ++ T.pathsAll p (i + a.length) b := by
  induction a with
  | nil => intro i; simp [T.pathsAll]
  | cons x r ih => intro i; simp [T.pathsAll, ih, Nat.add_assoc, Nat.add_comm 1]
theorem T.paths_le (t : T) : ∀ p, (t.paths p).length ≤ t.bulk := by
  induction t using T.ind with
  | h t ih =>
    intro p
    have : ∀ l : List T, (∀ k ∈ l, ∀ p, (k.paths p).length ≤ k.bulk) → ∀ i, (T.pathsAll p i l).length ≤ T.bulkAll l := by
      intro l
      induction l with
      | nil => intro _ i; simp [T.pathsAll]
      | cons x r ihr =>
        intro h i
        have h1 := h x (by simp) (p ++ [(i : Int)])
        have h2 := ihr (fun k hk => h k (by simp [hk])) (i + 1)
        simp only [T.pathsAll, T.bulkAll, List.length_append]; omega
    have h1 := this t.ks ih 0
    rw [T.paths_eq, T.bulk_eq, List.length_cons]; omega
theorem T.pathsAll_le (p : List Int) (l : List T) : ∀ i, (T.pathsAll p i l).length ≤ T.bulkAll l := by
  induction l with
  | nil => intro i; simp [T.pathsAll]
  | cons x r ih =>
    intro i
    have h1 := x.paths_le (p ++ [(i : Int)])
    have h2 := ih (i + 1)
    simp only [T.pathsAll, T.bulkAll, List.length_append]; omega
theorem T.bulkAll_append (a b : List T) : T.bulkAll (a ++ b) = T.bulkAll a + T.bulkAll b := by
  induction a with
  | nil => simp [T.bulkAll]
  | cons x r ih => simp [T.bulkAll, ih]; omega
theorem T.bulkAll_take (l : List NT) (j : Nat) (h : j < l.length) : T.bulkAll ((l.map NT.er).take j) + (l.getD j default).er.bulk ≤ T.bulkAll (l.map NT.er) := by
  conv => rhs; rw [← List.take_append_drop j (l.map NT.er), T.bulkAll_append, kids_drop l j h, T.bulkAll]
  omega
theorem T.pathsAll_take (p : List Int) (l : List NT) (j : Nat) (h : j < l.length) : T.pathsAll p 0 ((l.map NT.er).take (j + 1)) = T.pathsAll p 0 ((l.map NT.er).take j) ++ (l.getD j default).er.paths (p ++ [(j : Int)]) := by
  rw [kids_take l j h, T.pathsAll_append]
  simp [T.pathsAll, Nat.min_eq_left (Nat.le_of_lt h)]
end Go.Proofs.Ytgnlgfkolbecmaa
