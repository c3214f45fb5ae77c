/- A REGION THAT DRAWS ITS ORDER: an operation that only reads may be taken first where what it reads is kept by every operation that may come ahead of it ('need'); of the others (a store that waits for it) nothing is asked. -/
import Derived.OrdersHeld
import Derived.RegionTactic
import Derived.Test.YtbhbekocmpmjfaaGreatDoorK02
import Derived.Deep.DeepCutAuto
import Derived.Laws.OwnMore
import Derived.Laws.EntriesVeiled
namespace Go.Proofs.YtbhbekocmpmjfaaGreatDoor
open Go

section
variable {P : Program} {ops : Array Oper} {Q : Exit → Act → World → Prop} {md : Region.Mode} {S : World → Prop} {need : Nat → Bool}

/-- whatever order is picked from here on, and behind each operation of 'need' S holds -/
def wpAnyN (P : Program) (md : Region.Mode) (ops : Array Oper) (Q : Exit → Act → World → Prop) (S : World → Prop) (need : Nat → Bool) : Nat → Array Bool → Act → World → Prop
  | 0, listed, a, w => Region.ready md ops listed = [] ∧ Q .normal a w
  | fuel + 1, listed, a, w =>
    (Region.ready md ops listed = [] → Q .normal a w) ∧
    ∀ i ∈ Region.ready md ops listed, wpOp P ops Q i (fun a' w' => (need i = true → S w') ∧ wpAnyN P md ops Q S need fuel (listed.setIfInBounds i true) a' w') a w

theorem wpAny_of_N : ∀ (fuel : Nat) (listed : Array Bool) (a : Act) (w : World), wpAnyN P md ops Q S need fuel listed a w → wpAny P md ops Q fuel listed a w
  | 0, _, _, _, h => h
  | fuel + 1, _, _, _, h => ⟨h.1, fun i hi => wpOp_mono (fun a' w' h' => wpAny_of_N fuel _ a' w' h'.2) (h.2 i hi)⟩

theorem wpAnyN_first {i : Nat} {oi : Oper} {v : Value} (hi : ops[i]? = some oi) (hsel : ∀ (j : Nat) (o : Oper) cs b, ops[j]? = some o → o.op ≠ .select cs b)
    (hQ : ∀ c a w, Q (.panic c) (a.put oi.dst v) w → Q (.panic c) a w) :
    ∀ (fuel : Nat) (listed : Array Bool) (a : Act) (w : World),
      (∀ j oj, ops[j]? = some oj → j ≠ i → listed.getD j true = false → (∀ e ∈ oj.after, Region.binds md e = true → e.on ≠ i) → oi.apart ops oj = true ∧ need j = true) →
      i ∈ Region.ready md ops listed → YieldsIf P ops S oi v a → S w →
      wpAnyN P md ops Q S need fuel (listed.setIfInBounds i true) (a.put oi.dst v) w → wpAnyN P md ops Q S need (fuel + 1) listed a w := by
  intro fuel
  induction fuel with
  | zero =>
    intro listed a w _ hr hy hS H
    refine ⟨fun h => (by rw [h] at hr; cases hr), fun j hj => ?_⟩
    by_cases hji : j = i
    · subst hji; exact hy.wpOp hi hS ⟨fun _ => hS, H⟩
    · have h1 := ready_mono hj hji
      rw [H.1] at h1
      cases h1
  | succ fuel ih =>
    intro listed a w hfree hr hy hS H
    have hun := (mem_ready.1 hr).1
    refine ⟨fun h => (by rw [h] at hr; cases hr), fun j hj => ?_⟩
    by_cases hji : j = i
    · subst hji; exact hy.wpOp hi hS ⟨fun _ => hS, H⟩
    · have h1 := H.2 j (ready_mono hj hji)
      obtain ⟨hjun, oj, hoj, hall⟩ := mem_ready.1 hj
      have hnot : ∀ e ∈ oj.after, Region.binds md e = true → e.on ≠ i := fun e he hb heq => by
        have h2 := hall e he hb
        rw [heq] at h2
        rcases Nat.lt_or_ge i listed.size with h' | h'
        · simp [h'] at hun h2; rw [hun] at h2; cases h2
        · simp [Array.getElem?_eq_none h'] at h2
      have hap := hfree j oj hoj hji hjun hnot
      have h2 := wpOp_putIf hoj hap.1 (fun cs b => hsel i oi cs b hi) (fun cs b => hsel j oj cs b hoj) hQ hy h1
      have hfree' : ∀ k ok, ops[k]? = some ok → k ≠ i → (listed.setIfInBounds j true).getD k true = false →
          (∀ e ∈ ok.after, Region.binds md e = true → e.on ≠ i) → oi.apart ops ok = true ∧ need k = true := fun k ok hk hki hku hno => by
        refine hfree k ok hk hki ?_ hno
        by_cases hjk : j = k
        · subst hjk; exact hjun
        · rw [getD_set_ne true hjk] at hku; exact hku
      refine wpOp_mono (fun a' w' h3 => ⟨fun _ => h3.2.1 hap.2, ih (listed.setIfInBounds j true) a' w' hfree' (ready_mono hr (Ne.symm hji)) h3.1 (h3.2.1 hap.2) ?_⟩) h2
      rw [Array.setIfInBounds_comm _ _ hji]
      exact h3.2.2

/-- who has not come up, and does not wait for operation i, is of 'need' -/
def needsAll (need : Nat → Bool) (md : Region.Mode) (ops : Array Oper) (listed : Array Bool) (i : Nat) : Bool :=
  (List.range ops.size).all fun j => j == i || listed.getD j true || need j || ((ops.getD j default).after.any fun e => Region.binds md e && e.on == i)
theorem needsAll_spec {listed : Array Bool} {i : Nat} (h : needsAll need md ops listed i = true) (j : Nat) (oj : Oper) (hj : ops[j]? = some oj) (hji : j ≠ i) (hun : listed.getD j true = false)
    (hno : ∀ e ∈ oj.after, Region.binds md e = true → e.on ≠ i) : need j = true := by
  have hlt : j < ops.size := by
    rcases Nat.lt_or_ge j ops.size with h1 | h1
    · exact h1
    · rw [Array.getElem?_eq_none h1] at hj; cases hj
  unfold needsAll at h
  rw [List.all_eq_true] at h
  have h1 := h j (List.mem_range.2 hlt)
  have e1 : ops.getD j default = oj := by
    rw [Array.getD_eq_getD_getElem?, hj]; rfl
  rw [e1, hun] at h1
  simp only [Bool.or_eq_true, Bool.false_eq_true, or_false, beq_iff_eq] at h1
  rcases h1 with (h1 | h1) | h1
  · exact absurd h1 hji
  · exact h1
  · rw [Array.any_eq_true'] at h1
    obtain ⟨e, he, h2⟩ := h1
    rw [Bool.and_eq_true] at h2
    exact absurd (by simpa using h2.2) (hno e he h2.1)

/-- take number i first -/
theorem wpAnyN_take {i : Nat} {oi : Oper} {v : Value} {fuel : Nat} {listed : Array Bool} {a : Act} {w : World} (hi : ops[i]? = some oi)
    (hs : Region.noSelect ops = true) (hf : Region.free md ops listed i = true) (hn : needsAll need md ops listed i = true) (hr : (Region.ready md ops listed).contains i = true)
    (hQ : ∀ c a w, Q (.panic c) (a.put oi.dst v) w → Q (.panic c) a w) (hy : YieldsIf P ops S oi v a) (hS : S w)
    (h : wpAnyN P md ops Q S need fuel (listed.setIfInBounds i true) (a.put oi.dst v) w) : wpAnyN P md ops Q S need (fuel + 1) listed a w :=
  wpAnyN_first hi (Region.noSelect_spec hs) hQ fuel listed a w (fun j oj hj hji hun hno => ⟨Region.free_spec hi hf j oj hj hji hun hno, needsAll_spec hn j oj hj hji hun hno⟩) (by simpa using hr) hy hS h
/-- the one operation that may come up -/
theorem wpAnyN_one {i : Nat} {o : Oper} {fuel : Nat} {listed : Array Bool} {a : Act} {w : World} (hr : Region.ready md ops listed = [i]) (ho : ops[i]? = some o) (hw : Region.wanted o (yielded ops a.tmps) = true)
    (h : ∀ K' : Act → World → Prop, (∀ a' w', (need i = true → S w') ∧ wpAnyN P md ops Q S need fuel (listed.setIfInBounds i true) a' w' → K' a' w') → Oper.wp P o a w K' Q) :
    wpAnyN P md ops Q S need (fuel + 1) listed a w := by
  refine ⟨(fun h0 => by rw [hr] at h0; cases h0), fun j hj => ?_⟩
  rw [hr] at hj
  obtain rfl : j = i := by simpa using hj
  exact wpOp_step ho (fun K' hK => by rw [if_pos hw]; exact h K' hK)
theorem wpAnyN_done {listed : Array Bool} {a : Act} {w : World} (hr : Region.ready md ops listed = []) (h : Q .normal a w) :
    ∀ fuel, wpAnyN P md ops Q S need fuel listed a w
  | 0 => ⟨hr, h⟩
  | _ + 1 => ⟨fun _ => h, by rw [hr]; simp⟩
/-- the beginning: from the world behind the draw -/
theorem wp_region_need (S : World → Prop) (need : Nat → Bool) {id : Nat} {a : Act} {w : World} (hm : P.follows .mixedOrders = true)
    (h : wpAnyN P .any ops Q S need ops.size (Array.replicate ops.size false) a w.drew) : (Code.region id ops true).wp P Q a w :=
  wp_region_any hm (wpAny_of_N _ _ _ _ h)
end
end Go.Proofs.YtbhbekocmpmjfaaGreatDoor
/- append inside a region that draws its order: the laws of App in the form of one operation. Rows of whatever elements, told by a list of their cells. No program is named here. -/
namespace Go.Proofs.YtbhbekocmpmjfaaGreatDoor
open Go Go.RowKit

theorem operwp_of_list {P : Program} {o : Oper} {a : Act} {w : World} {K : Act → World → Prop} {Q : Exit → Act → World → Prop} (hg : o.guard = none)
    (h : ∀ Q' : Exit → Act → World → Prop, (∀ a w, K a w → Q' .normal a w) → wpList P #[] Q' [o] a w) : Oper.wp P o a w K Q := by
  have h1 := h (fun e a w => match e with | .normal => K a w | .outgrown => False | .panic c => Q (.panic c) a w | _ => False) (fun _ _ h => h)
  unfold wpList at h1
  rw [if_pos (by simp [Region.wanted, hg])] at h1
  rcases h1 with h1 | ⟨_, a', w', h1⟩
  · unfold Oper.wp at h1 ⊢
    generalize (execOp a.eval o).run P w = r at h1 ⊢
    cases r with
    | ok n w' =>
      cases n <;> simp only [Oper.upon] at h1 ⊢
      case value u => exact h1
      case skip => exact h1
      case defer d => exact h1
      case enter f args =>
        refine Calls.mono h1 fun e w'' he => ?_
        cases e with
        | returned u => exact he
        | panicked c => exact he
        | outgrown =>
          obtain ⟨a', w', h2⟩ := he
          exact h2.elim
      case row row args => exact Rows.mono h1 fun u w'' he => he
      all_goals exact h1
    | halt x w' =>
      cases x <;> simp only [Oper.upon] at h1 ⊢
      case panic u => exact h1
      all_goals exact h1
  · exact h1.elim

/-- an own row, grown by an append from a row that lies in the world: as one operation -/
theorem wp_append_row {P : Program} {w : World} {o : Oper} {a : Act} {K : Act → World → Prop} {Q : Exit → Act → World → Prop} (hgd : o.guard = none) (s x : Operand) (t : TypeId)
    (ho : o.op = .call { callee := .builtin .append, args := #[s, x], argTypes := #[t, t] })
    (base : Nat) (e : TypeId) {z : Value} {size bytes : Nat} (ht : P.underlying t = some (.slice e)) (hinfo : (P.info? e).map (fun i => (i.zero, i.size, i.bytes)) = some (some z, size, bytes)) (hzs : z.cells.size = size) (hsz : 0 < size)
    (v : Value) (n : Nat) (xs : List Value) (hs : a.eval s = v) (hown : w.ownsRow base e size v n xs)
    (xa : Option Addr) (m c lo hi : Nat) (f : Nat → Nat → Value) (hx : a.eval x = .slice xa m c) (hrow : RowIn w lo hi xa m c size f) (news : List Value) (hl : news.length = m * size)
    (hnews : ∀ i, i < m → ∀ j, j < size → news[i * size + j]? = some (f i j)) (h1 : ∀ u ∈ news, u.oneCell' = true)
    (h63 : n + m ≤ maxLen) (hbytes : (n + m) * bytes ≤ 140737488355328) (hbase : base ≤ w.heap.size)
    (h : ∀ v' w', w'.ownsRow base e size v' (n + m) (xs ++ news) → w.grownBy w' v.ownBlock → (∀ k, v'.ownBlock = some k → v.ownBlock = some k ∨ w.heap.size ≤ k) → K (a.put o.dst v') w') : Oper.wp P o a w K Q :=
  operwp_of_list hgd fun _ hQ => wpList_append_row hgd s x t ho base e ht hinfo hzs hsz v n xs hs hown xa m c lo hi f hx hrow news hl hnews h1 h63 hbytes hbase fun v' w' a1 a2 a3 => wpList_nil (hQ _ _ (h v' w' a1 a2 a3))

/-! ### rows told by a list -/
section
variable {α : Type} [Inhabited α] {cells : α → List Value} {k : Nat}
omit [Inhabited α] in
theorem flat_len (hk : ∀ x, (cells x).length = k) (l : List α) : (l.flatMap cells).length = l.length * k := by
  induction l with
  | nil => simp
  | cons p r ih => simp only [List.flatMap_cons, List.length_append, List.length_cons, ih, hk]; rw [Nat.add_mul]; omega
theorem flat_at (hk : ∀ x, (cells x).length = k) (l : List α) : ∀ i, i < l.length → ∀ j, j < k → (l.flatMap cells)[i * k + j]? = some ((cells (l.getD i default)).getD j undef) := by
  induction l with
  | nil => intro i hi; cases hi
  | cons p r ih =>
    intro i hi j hj
    cases i with
    | zero =>
      rw [Nat.zero_mul, Nat.zero_add, List.flatMap_cons, List.getElem?_append_left (by rw [hk]; exact hj)]
      simp [List.getD, List.getElem?_eq_getElem (show j < (cells p).length by rw [hk]; exact hj)]
    | succ i =>
      have := ih i (by simpa using hi) j hj
      rw [List.flatMap_cons, List.getElem?_append_right (by rw [hk, Nat.add_mul]; omega), hk, show (i + 1) * k + j - k = i * k + j by rw [Nat.add_mul]; omega, this]
      simp
omit [Inhabited α] in
theorem flat_one (ho : ∀ x, ∀ u ∈ cells x, u.oneCell' = true) (l : List α) : ∀ u ∈ l.flatMap cells, u.oneCell' = true := by
  intro u hu
  obtain ⟨p, _, h⟩ := List.mem_flatMap.1 hu
  exact ho p u h
end
end Go.Proofs.YtbhbekocmpmjfaaGreatDoor
/- PATHS: rows of ints; slices.Clone of one; append onto one. -/
namespace Go.Proofs.YtbhbekocmpmjfaaGreatDoor
open Go Go.RowKit

/-- a path lies in a world, between two block numbers -/
def IntsIn (w : World) (lo hi : Nat) (a : Option Addr) (c : Nat) (ts : List Int) : Prop := RowIn w lo hi a ts.length c 1 (fun i _ => .int .i64 (ts.getD i 0))
theorem IntsIn.agree {w w' : World} {lo hi : Nat} {a : Option Addr} {c : Nat} {ts : List Int} (h : IntsIn w lo hi a c ts) (hag : Agree lo hi w w') : IntsIn w' lo hi a c ts := RowIn.agree h hag
theorem IntsIn.mono {w : World} {lo hi lo' hi' : Nat} {a : Option Addr} {c : Nat} {ts : List Int} (h : IntsIn w lo hi a c ts) (h1 : lo' ≤ lo) (h2 : hi ≤ hi') : IntsIn w lo' hi' a c ts := RowIn.mono h h1 h2
theorem IntsIn.grew {w w' : World} {lo hi : Nat} {a : Option Addr} {c : Nat} {ts : List Int} (h : IntsIn w lo hi a c ts) (hg : Grew w w') (hB : hi ≤ w.heap.size) : IntsIn w' lo hi a c ts := h.agree (hg.agree hB)
theorem IntsIn.at {w : World} {lo hi : Nat} {a : Option Addr} {c : Nat} {ts : List Int} (h : IntsIn w lo hi a c ts) {j : Nat} (hj : j < ts.length) :
    ∃ b o, a = some ⟨b, o, none⟩ ∧ lo ≤ b ∧ b < hi ∧ w.cell? ⟨b, o + j, none⟩ = some (.int .i64 (ts.getD j 0)) := by
  obtain ⟨b, o, ha, h1, h2, hc⟩ := h.2 (by omega)
  exact ⟨b, o, ha, h1, h2, by simpa using hc j hj 0 (by omega)⟩
theorem intsIn_nil {w : World} {lo hi : Nat} : IntsIn w lo hi none 0 [] := rowIn_nil

/-- what is owned is a row in new memory -/
theorem intsIn_owned {w : World} {base : Nat} {e : TypeId} {v : Value} {ts : List Int} (h : w.ownsRow base e 1 v ts.length (ts.map (Value.int .i64))) :
    ∃ a c, v = .slice a ts.length c ∧ IntsIn w base w.heap.size a c ts := by
  obtain ⟨hl, h⟩ := h
  rcases h with ⟨rfl, hn⟩ | ⟨g, cap, cur, rfl, hg, hh, hcap, hmax, hcur, htk⟩
  · obtain rfl : ts = [] := List.length_eq_zero_iff.1 hn
    exact ⟨none, 0, rfl, intsIn_nil⟩
  · refine ⟨some ⟨g, 0, none⟩, cap, rfl, ⟨⟨by simp, hcap, hmax⟩, fun _ => ⟨g, 0, rfl, hg, ?_, fun i hi j hj => ?_⟩⟩⟩
    · rcases Nat.lt_or_ge g w.heap.size with h1 | h1
      · exact h1
      · rw [Array.getElem?_eq_none h1] at hh; cases hh
    · obtain rfl : j = 0 := by omega
      simp only [World.cell?, hh]
      have h2 : (cur.toList.take (ts.length * 1))[i]? = some (Value.int .i64 (ts.getD i 0)) := by rw [htk]; simp [List.getD, hi]
      rw [List.getElem?_take] at h2
      simp only [Nat.mul_one, hi, if_true] at h2
      simpa using h2

theorem infoInt : (Tryz.prog.info? 3).map (fun i => (i.zero, i.size, i.bytes)) = some (some (.int .i64 0), 1, 8) := by kernel_rfl
theorem ints_at (ts : List Int) : ∀ i, i < ts.length → ∀ j, j < 1 → (ts.map (Value.int .i64))[i * 1 + j]? = some (.int .i64 (ts.getD i 0)) := fun i hi j hj => by
  obtain rfl : j = 0 := by omega
  simp [List.getD, hi]

set_option maxHeartbeats 400000 in
theorem cloneInts_any (a : Option Addr) (c : Nat) (l : List Int) (w : World) (lo hi : Nat) (hr : IntsIn w lo hi a c l) (hh : hi ≤ w.heap.size) (hl : l.length ≤ 1048576) :
    Calls Tryz.prog 89 #[.slice a l.length c] w fun e w' => ∃ v, e = .returned v ∧ Grew w w' ∧ w'.ownsRow w.heap.size 3 1 v l.length ((List.map (Value.int .i64)) l) := by
  have qT : ∀ (w : World) (a : Option Addr) (n c n' c' : Nat), (binOp .eql 27 (.slice a n c) (.slice none n' c')).run Tryz.prog w = .ok (.bool a.isNone) w := fun w a n c n' c' => Lib.run_eql_slice_nil w _ _ a n c n' c' Tryz.underlying27
  cases a with
  | none =>
    obtain ⟨hz, rfl⟩ := hr.1.1 rfl
    obtain rfl : l = [] := List.length_eq_zero_iff.1 hz
    clear hr
    go_enter Tryz.func89, Tryz.ntmps89
    go_wp2_with fail
    go_ret
    exact ⟨_, rfl, Grew.refl _, World.ownsRow_nil _ _ _ _⟩
  | some ad =>
    have hr' := hr.grew (Grew.alloc1 w (.cells #[] 3)) hh
    go_enter Tryz.func89, Tryz.ntmps89
    go_wp2_with (at_builtin; refine wpList_append_row rfl (.tmp 5) (.tmp 6) 27 rfl w.heap.size 3 Tryz.underlying27 infoInt rfl (by decide) (.slice (some ⟨w.heap.size, 0, none⟩) 0 0) 0 [] rfl (ownsRow_empty w 3 1) (some ad) l.length c lo hi _ rfl hr' (l.map (Value.int .i64)) (by simp) (ints_at l) (ints_oneCell _ _) (by unfold maxLen; omega) (by omega) (by simp) ?_; intro v' w1 hown' hgrow hblk; obtain ⟨va', vc', rfl⟩ := owned_shape hown')
    go_ret
    rw [Nat.zero_add, List.nil_append] at hown'
    exact ⟨_, rfl, (Grew.alloc1 _ _).grown hgrow (fun k hk => by simp only [Value.ownBlock, Option.some.injEq] at hk; omega), hown'⟩

/-- a box of a node -/
def NT.Bx (n : NT) (b : Nat) (w : World) : Prop := w.cell? ⟨b, 0, none⟩ = some (.bool n.lf) ∧ w.cell? ⟨b, 1, none⟩ = some (.slice n.pa n.ps.length n.pc) ∧ w.cell? ⟨b, 2, none⟩ = some (.slice n.ta n.ts.length n.tc) ∧ w.cell? ⟨b, 3, none⟩ = some (.slice n.ka n.ks.length n.kc)
theorem NT.Bx.keep {n : NT} {b : Nat} {w w' : World} {S : Nat → Prop} (h : n.Bx b w) (hg : Keeps S w w') (hb : b < w.heap.size) (hS : ¬ S b) : n.Bx b w' := by
  have q : ∀ j, w'.cell? ⟨b, j, none⟩ = w.cell? ⟨b, j, none⟩ := fun j => hg.cell (p := ⟨b, j, none⟩) hb hS
  unfold NT.Bx at h ⊢
  simp only [q]; exact h
theorem NT.Bx.grew {n : NT} {b : Nat} {w w' : World} (h : n.Bx b w) (hg : Grew w w') (hb : b < w.heap.size) : n.Bx b w' := h.keep (hg.keeps Noth) hb (fun h => h)

/-- a path with its address -/
structure PN where
  a : Option Addr
  c : Nat
  l : List Int
instance : Inhabited PN := ⟨⟨none, 0, []⟩⟩
def PN.val (p : PN) : Value := .slice p.a p.l.length p.c
/-- a path that nothing turns: it lies behind block s, and not in a block of O -/
def PIn (w : World) (s : Nat) (O : Nat → Prop) (p : PN) : Prop := ∃ lo hi, IntsIn w lo hi p.a p.c p.l ∧ hi ≤ w.heap.size ∧ ∀ k, lo ≤ k → k < hi → s < k ∧ ¬ O k
theorem PIn.moves {w w' : World} {s : Nat} {O O' : Nat → Prop} {p : PN} (h : PIn w s O p) (hk : Moves O w O' w') : PIn w' s O' p := by
  obtain ⟨lo, hi, h1, h2, h3⟩ := h
  exact ⟨lo, hi, h1.agree (hk.1.agree h2 (fun k a b => (h3 k a b).2)), Nat.le_trans h2 hk.1.size, fun k a b => ⟨(h3 k a b).1, hk.notin (h3 k a b).2 (by omega)⟩⟩
theorem PIn.lies {w : World} {s : Nat} {O : Nat → Prop} {p : PN} (h : PIn w s O p) : IntsIn w 0 w.heap.size p.a p.c p.l := by
  obtain ⟨lo, hi, h1, h2, _⟩ := h
  exact h1.mono (Nat.zero_le _) h2

/-! the paths of a tree at a path -/
mutual
def T.paths (p : List Int) : T → List (List Int)
  | .mk _ _ _ ks => p :: T.pathsAll p 0 ks
def T.pathsAll (p : List Int) (i : Nat) : List T → List (List Int)
  | [] => []
  | k :: r => T.paths (p ++ [(i : Int)]) k ++ T.pathsAll p (i + 1) r
end
theorem T.bulkAll_append (a b : List T) : T.bulkAll (a ++ b) = T.bulkAll a + T.bulkAll b := by
  induction a with
  | nil => simp [T.bulkAll]
  | cons x r ih => simp [T.bulkAll, ih]; omega
end Go.Proofs.YtbhbekocmpmjfaaGreatDoor
/- tree.Paths and what it calls: the contracts. -/
namespace Go.Proofs.YtbhbekocmpmjfaaGreatDoor
open Go Go.RowKit

/-- the out cell: a row of the call's own, of paths -/
def PathsV (s : Nat) (v : Value) (ls : List PN) (O : Nat → Prop) (w : World) : Prop :=
  w.cell? ⟨s, 0, none⟩ = some v ∧ w.frozen? ⟨s, 0, none⟩ = false ∧ s < w.heap.size ∧ w.ownsRow (s + 1) 27 1 v ls.length (ls.map PN.val) ∧ O s ∧ (∀ k, v.ownBlock = some k → O k) ∧ (∀ k, O k → k = s ∨ v.ownBlock = some k) ∧ ∀ p ∈ ls, PIn w s O p
theorem PathsV.grew {s : Nat} {v : Value} {ls : List PN} {O : Nat → Prop} {w w' : World} (h : PathsV s v ls O w) (hg : Grew w w') : PathsV s v ls O w' :=
  ⟨(hg.cell (p := ⟨s, 0, none⟩) h.2.2.1).trans h.1, (hg.frozen (p := ⟨s, 0, none⟩) h.2.2.1).trans h.2.1, Nat.lt_of_lt_of_le h.2.2.1 hg.size, ownsRow_grew h.2.2.2.1 hg, h.2.2.2.2.1, h.2.2.2.2.2.1, h.2.2.2.2.2.2.1, fun p hp => (h.2.2.2.2.2.2.2 p hp).moves (Moves.grew hg)⟩
theorem PathsV.lt {s : Nat} {v : Value} {ls : List PN} {O : Nat → Prop} {w : World} (h : PathsV s v ls O w) : ∀ k, O k → k < w.heap.size := fun k hk => by
  rcases h.2.2.2.2.2.2.1 k hk with rfl | h1
  · exact h.2.2.1
  · exact (h.2.2.2.1.lt k h1).2
/-- one more -/
theorem PathsV.push {s : Nat} {v : Value} {ls : List PN} {O : Nat → Prop} {w c F : World} {p : PN} {v' : Value} (h : PathsV s v ls O w) (hp : ∃ lo hi, IntsIn w lo hi p.a p.c p.l ∧ hi ≤ w.heap.size ∧ ∀ k, lo ≤ k → k < hi → s < k ∧ ¬ O k)
    (hown : c.ownsRow (s + 1) 27 1 v' (ls.length + 1) (ls.map PN.val ++ [p.val])) (hgr : w.grownBy c v.ownBlock) (hbl : ∀ k, v'.ownBlock = some k → v.ownBlock = some k ∨ w.heap.size ≤ k) (hF : c.setCell ⟨s, 0, none⟩ v' = F) :
    ∃ O', Moves O w O' F ∧ PathsV s v' (ls ++ [p]) O' F := by
  subst hF
  obtain ⟨h1, h2, h3, h4, h5, h6, h7, h8⟩ := h
  have hkw := grownBy_keeps hgr (O := O) h6
  have hkv := grownBy_keeps hgr (O := fun k => v.ownBlock = some k) (fun _ h => h)
  have hns : ¬ v.ownBlock = some s := fun h => by have := h4.lt s h; omega
  have hns' : v'.ownBlock ≠ some s := fun h => by have := hown.lt s h; omega
  have hz : s < c.heap.size := Nat.lt_of_lt_of_le h3 hkw.size
  have hc : c.cell? ⟨s, 0, none⟩ = some v := (hkv.cell (p := ⟨s, 0, none⟩) h3 hns).trans h1
  have hf : c.frozen? ⟨s, 0, none⟩ = false := (hkv.frozen (p := ⟨s, 0, none⟩) h3 hns).trans h2
  have hM : Moves O w (fun k => k = s ∨ v'.ownBlock = some k) (c.setCell ⟨s, 0, none⟩ v') := by
    refine ⟨hkw.setCell (Or.inr h5) _, fun k hk => ?_⟩
    rcases hk with rfl | hk
    · exact Or.inl h5
    · rcases hbl k hk with h9 | h9
      · exact Or.inl (h6 k h9)
      · exact Or.inr h9
  refine ⟨_, hM, World.cell?_setCell_same _ _ _ hc, by rw [World.frozen?_setCell]; exact hf, by simpa [World.setCell] using hz, ?_, Or.inl rfl, fun k hk => Or.inr hk, fun k hk => hk, fun q hq => ?_⟩
  · rw [List.length_append, List.map_append]; exact ownsRow_other hown hns' _
  · rcases List.mem_append.1 hq with hq | hq
    · exact (h8 q hq).moves hM
    · obtain rfl := List.mem_singleton.1 hq
      exact PIn.moves hp hM
theorem PathsV.store {s : Nat} {v : Value} {ls : List PN} {O : Nat → Prop} {w c : World} (h : PathsV s v ls O w) (hgr : w.grownBy c v.ownBlock) : c.cell? ⟨s, 0, none⟩ = some v ∧ c.frozen? ⟨s, 0, none⟩ = false := by
  obtain ⟨h1, h2, h3, h4, _⟩ := h
  have hkv := grownBy_keeps hgr (O := fun k => v.ownBlock = some k) (fun _ h => h)
  have hns : ¬ v.ownBlock = some s := fun h => by have := h4.lt s h; omega
  exact ⟨(hkv.cell (p := ⟨s, 0, none⟩) h3 hns).trans h1, (hkv.frozen (p := ⟨s, 0, none⟩) h3 hns).trans h2⟩
/-- the closures: what is wanted, and the one that calls itself -/
def EEnv (bt s be : Nat) (w : World) : Prop :=
  w.cell? ⟨bt, 0, none⟩ = some (.func (.func 86) #[] #[]) ∧ w.cell? ⟨be, 0, none⟩ = some (.func (.func 152) #[] #[.pointer (some ⟨bt, 0, none⟩), .pointer (some ⟨s, 0, none⟩), .pointer (some ⟨be, 0, none⟩)]) ∧ bt < w.heap.size ∧ be < w.heap.size
theorem EEnv.keeps {bt s be : Nat} {w w' : World} {S : Nat → Prop} (h : EEnv bt s be w) (hk : Keeps S w w') (h1 : ¬ S bt) (h2 : ¬ S be) : EEnv bt s be w' :=
  ⟨(hk.cell (p := ⟨bt, 0, none⟩) h.2.2.1 h1).trans h.1, (hk.cell (p := ⟨be, 0, none⟩) h.2.2.2 h2).trans h.2.1, Nat.lt_of_lt_of_le h.2.2.1 hk.size, Nat.lt_of_lt_of_le h.2.2.2 hk.size⟩

end Go.Proofs.YtbhbekocmpmjfaaGreatDoor
/- ROWS WHOSE SPARE CELLS ARE THERE; slices.Clone of runes, of nodes, told with its room. -/
namespace Go.Proofs.YtbhbekocmpmjfaaGreatDoor
open Go Go.RowKit

/-- a row is a block of its own, with its spare cells; a row without elements has none -/
def RoomRow (w : World) (e : TypeId) (a : Option Addr) (n c k : Nat) : Prop := (n = 0 → c = 0) ∧ (0 < n → ∀ b o, a = some ⟨b, o, none⟩ → o = 0 ∧ ∃ cur : Array Value, w.heap[b]? = some (.cells cur e (0, 0)) ∧ cur.size = c * k)
theorem RoomRow.agree {w w' : World} {e : TypeId} {lo hi : Nat} {a : Option Addr} {n c k : Nat} {f : Nat → Nat → Value} (h : RoomRow w e a n c k) (hr : RowIn w lo hi a n c k f) (hag : Agree lo hi w w') : RoomRow w' e a n c k := by
  refine ⟨h.1, fun hn b o ha => ?_⟩
  obtain ⟨b', o', ha', h1, h2, _⟩ := hr.2 hn
  obtain ⟨rfl, rfl⟩ : b = b' ∧ o = o' := by
    rw [ha] at ha'
    injection ha' with e; injection e with e1 e2; exact ⟨e1, e2⟩
  obtain ⟨h3, cur, h4, h5⟩ := h.2 hn b o ha
  exact ⟨h3, cur, (hag b h1 h2).trans h4, h5⟩
theorem RoomRow.set {w : World} {e : TypeId} {a : Option Addr} {n c k : Nat} (h : RoomRow w e a n c k) (p q : Nat) (u : Value) : RoomRow (w.setCell ⟨p, q, none⟩ u) e a n c k := by
  refine ⟨h.1, fun hn b o ha => ?_⟩
  obtain ⟨h3, cur, h4, h5⟩ := h.2 hn b o ha
  by_cases hb : b = p
  · subst hb
    exact ⟨h3, _, heap_setCell_same w b q cur e u h4, by simpa using h5⟩
  · exact ⟨h3, cur, (heap_setCell_other w ⟨p, q, none⟩ b u hb).trans h4, h5⟩
/-- what is owned has room -/
theorem roomRow_owned {w : World} {base : Nat} {e : TypeId} {size n c : Nat} {a : Option Addr} {xs : List Value} (h : w.ownsRow base e size (.slice a n c) n xs) (h0 : n = 0 → c = 0) : RoomRow w e a n c size := by
  refine ⟨h0, fun hn b o ha => ?_⟩
  obtain ⟨_, h⟩ := h
  rcases h with ⟨hv, hn0⟩ | ⟨g, cap, cur, hv, hg, hh, hcap, hmax, hcur, htk⟩
  · omega
  · injection hv with h1 h2 h3
    rw [ha] at h1
    injection h1 with h1; injection h1 with h1 h4
    subst h1 h4 h3
    exact ⟨rfl, cur, hh, hcur⟩
set_option maxRecDepth 100000 in
set_option maxHeartbeats 400000 in
theorem cloneNodes0_any (a : Option Addr) (c : Nat) (hc : a = none → c = 0) (w : World) :
    Calls Tryz.prog 127 #[.slice a 0 c] w fun e w' => ∃ va, e = .returned (.slice va 0 0) ∧ Grew w w' ∧ w'.ownsRow w.heap.size 26 4 (.slice va 0 0) 0 [] := by
  have qT : ∀ (w : World) (a : Option Addr) (n c n' c' : Nat), (binOp .eql 24 (.slice a n c) (.slice none n' c')).run Tryz.prog w = .ok (.bool a.isNone) w := fun w a n c n' c' => Lib.run_eql_slice_nil w _ _ a n c n' c' Tryz.underlying24
  cases a with
  | none =>
    obtain rfl := hc rfl
    go_enter Tryz.func127, Tryz.ntmps127
    go_wp2_with fail
    go_ret
    exact ⟨none, rfl, Grew.refl _, World.ownsRow_nil _ _ _ _⟩
  | some ad =>
    go_enter Tryz.func127, Tryz.ntmps127
    go_wp2_with fail
    go_ret
    exact ⟨_, rfl, Grew.alloc1 _ _, ownsRow_empty w 26 4⟩
theorem cloneNodesR_any (a : Option Addr) (c : Nat) (l : List NT) (w : World) (lo hi : Nat) (hr : KidsIn w lo hi a c l) (hh : hi ≤ w.heap.size) (hl : l.length ≤ 1048576) :
    Calls Tryz.prog 127 #[.slice a l.length c] w fun e w' => ∃ va vc, e = .returned (.slice va l.length vc) ∧ Grew w w' ∧ w'.ownsRow w.heap.size 26 4 (.slice va l.length vc) l.length (cellsOfNodes l) ∧ RoomRow w' 26 va l.length vc 4 := by
  by_cases h0 : l = []
  · subst h0
    refine (cloneNodes0_any a c (fun h => (hr.1.1.1 h).2) w).mono fun e w' ⟨va, he, hg, ho⟩ => ?_
    exact ⟨va, 0, he, hg, ho, fun _ => rfl, fun h => absurd h (by simp)⟩
  · refine (cloneNodes_any a c l w lo hi hr hh hl).mono fun e w' ⟨v, he, hg, ho⟩ => ?_
    obtain ⟨va, vc, rfl⟩ := owned_shape ho
    exact ⟨va, vc, he, hg, ho, roomRow_owned ho (fun h => absurd (List.length_eq_zero_iff.1 h) h0)⟩
set_option maxRecDepth 100000 in
set_option maxHeartbeats 400000 in
theorem cloneRunes0_any (a : Option Addr) (c : Nat) (hc : a = none → c = 0) (w : World) :
    Calls Tryz.prog 126 #[.slice a 0 c] w fun e w' => ∃ va, e = .returned (.slice va 0 0) ∧ Grew w w' ∧ w'.ownsRow w.heap.size 21 1 (.slice va 0 0) 0 [] := by
  have qT : ∀ (w : World) (a : Option Addr) (n c n' c' : Nat), (binOp .eql 23 (.slice a n c) (.slice none n' c')).run Tryz.prog w = .ok (.bool a.isNone) w := fun w a n c n' c' => Lib.run_eql_slice_nil w _ _ a n c n' c' Tryz.underlying23
  cases a with
  | none =>
    obtain rfl := hc rfl
    go_enter Tryz.func126, Tryz.ntmps126
    go_wp2_with fail
    go_ret
    exact ⟨none, rfl, Grew.refl _, World.ownsRow_nil _ _ _ _⟩
  | some ad =>
    go_enter Tryz.func126, Tryz.ntmps126
    go_wp2_with fail
    go_ret
    exact ⟨_, rfl, Grew.alloc1 _ _, ownsRow_empty w 21 1⟩
theorem cloneRunesR_any (a : Option Addr) (c : Nat) (l : List Int) (w : World) (lo hi : Nat) (hr : RunesIn w lo hi a c l) (hh : hi ≤ w.heap.size) (hl : l.length ≤ 1048576) :
    Calls Tryz.prog 126 #[.slice a l.length c] w fun e w' => ∃ va vc, e = .returned (.slice va l.length vc) ∧ Grew w w' ∧ w'.ownsRow w.heap.size 21 1 (.slice va l.length vc) l.length ((List.map (Value.int .i32)) l) ∧ RoomRow w' 21 va l.length vc 1 := by
  by_cases h0 : l = []
  · subst h0
    refine (cloneRunes0_any a c (fun h => (hr.1.1.1 h).2) w).mono fun e w' ⟨va, he, hg, ho⟩ => ?_
    exact ⟨va, 0, he, hg, ho, fun _ => rfl, fun h => absurd h (by simp)⟩
  · refine (cloneRunes_any a c l w lo hi hr hh hl).mono fun e w' ⟨v, he, hg, ho⟩ => ?_
    obtain ⟨va, vc, rfl⟩ := owned_shape ho
    exact ⟨va, vc, he, hg, ho, roomRow_owned ho (fun h => absurd (List.length_eq_zero_iff.1 h) h0)⟩
mutual
/-- the rows of a tree have room -/
def NT.Room (w : World) : NT → Prop
  | .mk _ _ _ _ ta tc ts ka kc ks => RoomRow w 21 ta ts.length tc 1 ∧ RoomRow w 26 ka ks.length kc 4 ∧ NT.RoomAll w ks
def NT.RoomAll (w : World) : List NT → Prop
  | [] => True
  | k :: r => NT.Room w k ∧ NT.RoomAll w r
end
theorem NT.RoomAll_iff {w : World} {ks : List NT} : NT.RoomAll w ks ↔ ∀ k ∈ ks, k.Room w := by
  induction ks with
  | nil => simp [NT.RoomAll]
  | cons x r ih => simp [NT.RoomAll, ih]
theorem NT.Room_iff {w : World} {n : NT} : n.Room w ↔ RoomRow w 21 n.ta n.ts.length n.tc 1 ∧ RoomRow w 26 n.ka n.ks.length n.kc 4 ∧ ∀ k ∈ n.ks, k.Room w := by
  cases n
  simp only [NT.Room, NT.RoomAll_iff, NT.ta_mk, NT.tc_mk, NT.ts_mk, NT.ka_mk, NT.kc_mk, NT.ks_mk]
theorem NT.Room.agree {w w' : World} {lo hi : Nat} (hag : Agree lo hi w w') {n : NT} : n.Room w → n.In w lo hi → n.Room w' := by
  induction n using NT.ind with
  | h n ih =>
    intro h hin
    have h1 := NT.Room_iff.1 h
    have h2 := NT.In_iff.1 hin
    exact NT.Room_iff.2 ⟨h1.1.agree h2.2.1.1 hag, h1.2.1.agree h2.2.2.1 hag, fun k hk => ih k hk (h1.2.2 k hk) (h2.2.2.2 k hk)⟩
end Go.Proofs.YtbhbekocmpmjfaaGreatDoor
