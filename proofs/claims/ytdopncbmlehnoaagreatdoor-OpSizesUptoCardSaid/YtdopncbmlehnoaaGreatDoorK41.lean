/- BEHIND AN OPERATION a tree's bulk; plain. -/
import Derived.Test.YtdopncbmlehnoaaGreatDoorK38
import Derived.Test.YtdopncbmlehnoaaGreatDoorK30
import Derived.Test.YtdopncbmlehnoaaGreatDoorK02
import Derived.Test.YtdopncbmlehnoaaGreatDoorK01
import Derived.Test.YtdopncbmlehnoaaGreatDoorRows
import Derived.Deep.Slices
import Derived.OpenShut
import Derived.ProofKit
import Derived.Test.YtdopncbmlehnoaaGreatDoorK04
import Derived.Test.YtdopncbmlehnoaaGreatDoorK16
import Derived.JoinedCond
import Derived.Test.YtdopncbmlehnoaaGreatDoorK40
namespace Go.Proofs.YtdopncbmlehnoaaGreatDoor
open Go Go.RowKit

theorem T.bulkAll_put (k : T) : ∀ (l : List T) (i : Nat), i < l.length → T.bulkAll (l.set i k) + (l.getD i default).bulk = T.bulkAll l + k.bulk
  | [], _, h => absurd h (Nat.not_lt_zero _)
  | x :: r, 0, _ => by simp only [List.set_cons_zero, T.bulkAll, List.getD_cons_zero]; omega
  | x :: r, i + 1, h => by
    have := T.bulkAll_put k r i (by simpa using h)
    simp only [List.set_cons_succ, T.bulkAll, List.getD_cons_succ]; omega
theorem T.bulk_atSet {y y' : T} : ∀ {p : List Int} {t : T}, t.at p = some y → (T.setAt y' t p).bulk + y.bulk = t.bulk + y'.bulk := by
  intro p
  induction p with
  | nil =>
    intro t h
    injection h with h
    subst h
    show y'.bulk + _ = _
    omega
  | cons i r ih =>
    intro t h
    rw [T.at] at h
    split at h
    · cases h
    · rename_i hn
      have h1 := ih h
      have h2 := T.bulkAll_put (T.setAt y' (t.ks.getD i.toNat default) r) t.ks i.toNat (by omega)
      rw [T.setAt, T.bulk, T.bulk_eq t]
      omega
theorem T.bulk_kids (u : T) (l : List T) : (u.kids l).bulk + T.bulkAll u.ks = u.bulk + T.bulkAll l := by
  rw [T.kids, T.bulk, T.bulk_eq u]; omega
theorem T.bulk_split (k : T) (i : Nat) (new : List PropL) : (k.first i).bulk + (k.second i new).bulk ≤ k.bulk + 1 + propsBulk new := by
  have h1 : T.bulkAll (k.ks.take i) + T.bulkAll (k.ks.drop i) = T.bulkAll k.ks := by rw [← T.bulkAll_append, List.take_append_drop]
  have h2 : (k.ts.take i).length + (k.ts.drop i).length = k.ts.length := by rw [← List.length_append, List.take_append_drop]
  unfold T.first T.second
  rw [T.bulk_eq k]
  split
  · simp only [T.bulk, T.bulkAll]; omega
  · simp only [T.bulk, List.length_nil]; omega
theorem shaped_bulk {n : T} {o : OpE} {m : Nat} (hb : n.bulk ≤ 262144) (hm1 : o.node.bulk ≤ m) (hm2 : propsBulk o.new ≤ m) (hm3 : o.text.length ≤ m) (hf : formT o = 0) (h9 : o.kind ≠ 9) (hs : (shapedT n o).2 = 0) : (shapedT n o).1.bulk ≤ 2 * n.bulk + m + 1 := by
  have hkk := form_kind hf
  rcases (show o.kind = 1 ∨ o.kind = 2 ∨ o.kind = 3 ∨ o.kind = 4 ∨ o.kind = 5 ∨ (o.kind = 6 ∨ o.kind = 7 ∨ o.kind = 8) by omega) with h1 | h1 | h1 | h1 | h1 | h1
  · obtain ⟨up, i, u, a, b, _, e2, _, e3, _, _, e8⟩ := done1 hf h1 hs
    have h2 := T.bulk_atSet (y' := u.kids (a ++ o.node :: b)) e2
    have h3 := T.bulk_kids u (a ++ o.node :: b)
    rw [e3, T.bulkAll_append, T.bulkAll_append, T.bulkAll] at h3
    rw [e8]; omega
  · obtain ⟨up, i, u, a, b, _, e2, e3, _, e8⟩ := done2 hf h1 hs
    have h2 := T.bulk_atSet (y' := u.kids (a ++ b)) e2
    have h3 := T.bulk_kids u (a ++ b)
    rw [e3, T.bulkAll_append, T.bulkAll_append, T.bulkAll] at h3
    rw [e8]; omega
  · obtain ⟨up, i, u, x, k, a, b, _, e2, e3, _, e5, _, _, e8⟩ := done3 (by omega) hf h1 hs
    have h2 := T.bulk_atSet (y' := u.kids (a ++ x.join k :: b)) e2
    have h3 := T.bulk_kids u (a ++ x.join k :: b)
    have h4 : (x.join k).bulk ≤ x.bulk + k.bulk := by
      unfold T.join
      rw [T.bulk, T.bulk_eq x, T.bulk_eq k, T.bulkAll_append, List.length_append]; omega
    rw [e3, T.bulkAll_append, T.bulkAll_append, T.bulkAll, T.bulkAll, T.bulkAll] at h3
    rw [e8]; omega
  · obtain ⟨up, i, u, k, a, b, _, e2, _, e3, _, _, _, _, e8⟩ := done4 hf h1 hs
    have h2 := T.bulk_atSet (y' := u.kids (a ++ k.first o.pos.toNat :: k.second o.pos.toNat o.new :: b)) e2
    have h3 := T.bulk_kids u (a ++ k.first o.pos.toNat :: k.second o.pos.toNat o.new :: b)
    have h4 := T.bulk_split k o.pos.toNat o.new
    rw [e3, T.bulkAll_append, T.bulkAll_append, T.bulkAll, T.bulkAll, T.bulkAll] at h3
    rw [e8]; omega
  · obtain ⟨up, vp, i, j, u, v, k, r, a, b, c, d, _, e2, e3, _, er, _, f2, _, f4, _, e8⟩ := done5 hf h1 hs
    have h2 := T.bulk_atSet (y' := u.kids (a ++ b)) e2
    have h3 := T.bulk_kids u (a ++ b)
    rw [e3, T.bulkAll_append, T.bulkAll_append, T.bulkAll] at h3
    rw [← er] at h2
    have h4 := T.bulk_atSet (y' := v.kids (c ++ k :: d)) f2
    have h5 := T.bulk_kids v (c ++ k :: d)
    rw [f4, T.bulkAll_append, T.bulkAll_append, T.bulkAll] at h5
    rw [e8]; omega
  · obtain ⟨k, k', e1, e2, e3⟩ := done6 hf h1 hs
    have h2 := T.bulk_atSet (y' := k') e1
    have hk := bulk_at e1
    rw [T.bulk_eq k] at h2
    rcases e3 with ⟨_, _, hpt, rfl⟩ | ⟨_, _, hi, rfl⟩ | ⟨_, _, hi, rfl⟩
    · have h3 : propsBulk (patchT k.ps o.old o.new).1 ≤ propsBulk k.ps + propsBulk o.new := by
        obtain ⟨_, h0, _⟩ := patchT_chk hpt
        have hR : IsSort (patchT k.ps o.old o.new).1 (minusK k.ps o.old ++ o.new) := by
          unfold patchT
          rw [if_pos h0]
          exact Classical.epsilon_spec (p := fun R => IsSort R (minusK k.ps o.old ++ o.new)) (isSort_ex _ (patch_ms_nodup h0))
        exact patch_bulk (.inr ⟨h0, hR⟩)
      rw [T.bulk] at h2
      rw [e2]; omega
    · obtain ⟨_, _, _, _, h5⟩ := insert_ok hi
      have h6 := congrArg Prod.fst h5
      simp only at h6
      rw [h6] at e2
      rw [h6, T.bulk] at h2
      simp only [List.length_append, List.length_take, List.length_drop] at h2
      rw [e2]; omega
    · obtain ⟨_, _, _, h5⟩ := remove_ok hi
      have h6 := congrArg Prod.fst h5
      simp only at h6
      rw [h6] at e2
      rw [h6, T.bulk] at h2
      simp only [List.length_append, List.length_take, List.length_drop] at h2
      rw [e2]; omega
theorem apply_bulk2 {n : T} {s : SelE} {o : OpE} {m : Nat} (hb : n.bulk ≤ 262144) (hm1 : o.node.bulk ≤ m) (hm2 : propsBulk o.new ≤ m) (hm3 : o.text.length ≤ m) : (applyT n s o).1.bulk ≤ 2 * n.bulk + m + 1 := by
  by_cases h : (applyT n s o).2.2 = 0
  · obtain ⟨hm, h⟩ := apply_ok h
    obtain ⟨_, _, _, hf⟩ := may_ok hm
    rcases h with ⟨_, _, _, he⟩ | ⟨h9, hs, _, he⟩
    · rw [he]; show n.bulk ≤ _; omega
    · rw [he]; exact shaped_bulk hb hm1 hm2 hm3 hf h9 hs
  · rw [(apply_no h).1]
    have : T.nilT.bulk = 1 := by decide
    omega
theorem apply_bulk {n : T} {s : SelE} {o : OpE} (hb : n.bulk ≤ 262144) (ht : o.Tiny) : (applyT n s o).1.bulk ≤ 1048576 := by
  obtain ⟨_, ⟨_, h2⟩, h3, h4⟩ := ht
  have := apply_bulk2 (s := s) (o := o) hb h4 h2 h3
  omega
theorem beside_len (p : List Int) (d : Int) : (besideP p d).1.length ≤ p.length := by
  unfold besideP
  split
  · exact Nat.zero_le _
  · split
    · exact Nat.zero_le _
    · show (shiftP p _ d).length ≤ _
      unfold shiftP
      rw [List.length_set]
      exact Nat.le_refl _
theorem inv_tiny {o : OpE} (ht : o.Tiny) (hp : o.path.length ≤ 262144) (hd : o.dest.length ≤ 262144) : (invT o).1.Tiny ∧ (invT o).1.path.length ≤ 262144 ∧ (invT o).1.dest.length ≤ 262144 := by
  have key : ∀ p d : List Int, p.length ≤ 262144 → d.length ≤ 262144 → ({ o.turned with path := p, dest := d } : OpE).Tiny ∧ p.length ≤ 262144 ∧ d.length ≤ 262144 := by
    intro p d h1 h2
    obtain ⟨⟨⟨_, _⟩, hn, ho, hw, hx, hs, hds⟩, ⟨hob, hwb⟩, hxb, hnb⟩ := ht
    exact ⟨⟨⟨⟨by show p.length ≤ _; omega, by show d.length ≤ _; omega⟩, hn, hw, ho, hx, hds, hs⟩, ⟨hwb, hob⟩, hxb, hnb⟩, h1, h2⟩
  have hnil : OpE.nil.Tiny ∧ OpE.nil.path.length ≤ 262144 ∧ OpE.nil.dest.length ≤ 262144 := by
    refine ⟨⟨⟨⟨by decide, by decide⟩, by decide, by decide, by decide, by decide, ⟨by decide, by decide⟩, ⟨by decide, by decide⟩⟩, ⟨by decide, by decide⟩, by decide, by decide⟩, by decide, by decide⟩
  unfold invT
  split
  · exact hnil
  · split
    · exact key o.dest o.path hd hp
    · split
      · split
        · exact hnil
        · exact key _ o.dest (Nat.le_trans (beside_len _ _) hp) hd
      · split
        · split
          · exact hnil
          · exact key _ o.dest (Nat.le_trans (beside_len _ _) hp) hd
        · exact key o.path o.dest hp hd
end Go.Proofs.YtdopncbmlehnoaaGreatDoor
/- A REGION THAT DRAWS ITS ORDER: an operation taken first, its slot told: so the act can be written out again behind each, and long rows of operations stay cheap. -/
namespace Go.Proofs.YtdopncbmlehnoaaGreatDoor
open Go

theorem wpAnyN_at {P : Program} {ops : Array Oper} {Q : Exit → Act → World → Prop} {md : Region.Mode} {S : World → Prop} {need : Nat → Bool} {i : Nat} {oi : Oper} {v : Value} {fuel : Nat} {listed : Array Bool} {a : Act} {w : World} (d : Option Tmp) (hi : ops[i]? = some oi) (hd : oi.dst = d)
    (hs : Region.noSelect ops = true) (hf : Region.free md ops listed i = true) (hn : needsAll need md ops listed i = true) (hr : (Region.ready md ops listed).contains i = true)
    (hQ : ∀ c a w, Q (.panic c) (a.put d v) w → Q (.panic c) a w) (hy : YieldsIf P ops S oi v a) (hS : S w)
    (h : wpAnyN P md ops Q S need fuel (listed.setIfInBounds i true) (a.put d v) w) : wpAnyN P md ops Q S need (fuel + 1) listed a w := by
  subst hd
  exact wpAnyN_take hi hs hf hn hr hQ hy hS h
end Go.Proofs.YtdopncbmlehnoaaGreatDoor
/- WHAT COMES IN, READ AS DATA, LIES IN MEMORY AS A LOCATED TREE, no greater than its bulk. -/
namespace Go.Proofs.YtdopncbmlehnoaaGreatDoor
open Go Go.RowKit Go.Deep

section
variable {H : Type} {enc : TypeId × Value → H} {P : Program} {w : World} {base : Nat} {spare : Nat → Bool} {held : Bool}

theorem addr_plain {w : World} {a : Addr} {v : Value} (h : w.cell? a = some v) : a.spot = none ∧ a.block < w.heap.size := by
  unfold World.cell? at h
  split at h
  · rename_i hb
    split at h
    · cases h
    · rename_i hs
      refine ⟨by simpa using hs, ?_⟩
      rcases Nat.lt_or_ge a.block w.heap.size with h1 | h1
      · exact h1
      · rw [Array.getElem?_eq_none h1] at hb; cases hb
  · cases h

theorem propsBulk_sum (l : List PropL) : propsBulk l = (l.map fun p : PropL => 1 + p.1.size + p.2.size).sum := by
  induction l with
  | nil => rfl
  | cons p r ih => simp [propsBulk, ih]
theorem bulkAll_sum (l : List NT) : T.bulkAll (l.map NT.er) = (l.map fun n : NT => n.er.bulk).sum := by
  induction l with
  | nil => rfl
  | cons p r ih => simp [T.bulkAll, ih]
theorem sum_ones (l : List Int) : (l.map fun _ : Int => 1).sum = l.length := by
  induction l with
  | nil => rfl
  | cons p r ih => rw [List.map_cons, List.sum_cons, ih, List.length_cons]; omega
theorem getD_lt {α : Type} [Inhabited α] (l : List α) (i : Nat) (h : i < l.length) : l.getD i default = l[i] := by
  rw [List.getD_eq_getElem?_getD, List.getElem?_eq_getElem h]; rfl

/-- a slice of whatever elements, opened: its list, where its cells lie, what each reads as -/
theorem open_list {α : Type} [Inhabited α] (cells : α → List Value) (Q : α → DataW H → Prop) {t e : TypeId} {k fuel : Nat} {cs : List Value} {x : DataW H × List MemPlace}
    (ht : P.underlying t = some (.slice e)) (hk : P.cellsOf e = k) (hk0 : 0 < k)
    (hel : ∀ m cs y, m < fuel → DataW.trod enc P w base spare held m e cs = some y → ∃ r, cs = cells r ∧ Q r y.1)
    (h : DataW.trod enc P w base spare held fuel t cs = some x) :
    ∃ (a : Option Addr) (c : Nat) (l : List α) (D : List (DataW H)), cs = [.slice a l.length c] ∧ ((x.1 = .nil ∧ D = []) ∨ ∃ sp, x.1 = .slice D sp) ∧ D.length = l.length ∧
      (∀ i, i < l.length → ∃ d, D[i]? = some d ∧ Q (l.getD i default) d) ∧
      RowIn w 0 w.heap.size a l.length c k (fun i j => (cells (l.getD i default)).getD j undef) := by
  rcases DataW.trod_slice ht h with ⟨rfl, rfl⟩ | ⟨a, len, cap, elems, rest, n, hf, rfl, rfl, hb, hl, hm, hlen, hel2, _, _⟩
  · refine ⟨none, 0, [], [], rfl, Or.inl ⟨rfl, rfl⟩, rfl, fun i hi => absurd hi (by simp), ⟨⟨fun _ => ⟨rfl, rfl⟩, Nat.le_refl _, Nat.zero_le _⟩, fun h => absurd h (by simp)⟩⟩
  · have hone : ∀ i, i < len → ∃ r, w.cells? base (a.add (i * k)) k = some (cells r) ∧ ∃ y, elems[i]? = some y ∧ Q r y.1 := by
      intro i hi
      have h1 := hel2 i hi
      rw [hk, List.getElem?_eq_getElem (by omega)] at h1
      obtain ⟨cs', h2, h3⟩ := Option.bind_eq_some_iff.1 h1
      obtain ⟨r, hr, hq⟩ := hel n cs' _ (by omega) h3
      exact ⟨r, by rw [h2, hr], _, List.getElem?_eq_getElem (by omega), hq⟩
    obtain ⟨f, hf2⟩ := choose_lt (α := α) hone
    have hget : ∀ i, i < len → ((List.range len).map f).getD i default = f i := by
      intro i hi; simp [List.getD, hi]
    refine ⟨some a, cap, (List.range len).map f, elems.map (·.1), by simp, Or.inr ⟨_, rfl⟩, by simp [hlen], ?_, ⟨⟨by simp, by simpa using hl, hm⟩, ?_⟩⟩
    · intro i hi
      have hi' : i < len := by simpa using hi
      obtain ⟨_, y, hy, hq⟩ := hf2 i hi'
      exact ⟨y.1, by simp [hy], by rw [hget i hi']; exact hq⟩
    · intro hpos
      have hpos' : 0 < len := by simpa using hpos
      have key : ∀ i, i < len → ∀ j, j < k → w.cell? ((a.add (i * k)).add j) = some ((cells (f i)).getD j undef) := by
        intro i hi j hj
        obtain ⟨hc, _⟩ := hf2 i hi
        obtain ⟨_, hln, hall⟩ := World.cells?_some hc
        rw [hall j hj, List.getElem?_eq_getElem (by omega)]
        simp [List.getD, List.getElem?_eq_getElem (show j < (cells (f i)).length by omega)]
      have h00 := key 0 hpos' 0 hk0
      have hz : (a.add (0 * k)).add 0 = a := by simp [Addr.add]
      rw [hz] at h00
      obtain ⟨hsp, hlt⟩ := addr_plain h00
      obtain ⟨b, o, sp⟩ := a
      simp only at hsp hlt
      subst hsp
      refine ⟨b, o, rfl, Nat.zero_le _, hlt, fun i hi j hj => ?_⟩
      have hi' : i < len := by simpa using hi
      have := key i hi' j hj
      rw [add_add] at this
      show w.cell? _ = some ((cells (((List.range len).map f).getD i default)).getD j undef)
      rw [hget i hi', ← this]
      unfold Addr.add
      split
      · rename_i h0; rw [show o + i * k + j = o by omega]
      · rw [Nat.add_assoc]

theorem bulkAll_ge {α : Type} [Inhabited α] (f : α → Nat) : ∀ (l : List α) (D : List (DataW H)), D.length = l.length → (∀ i, i < l.length → ∃ d, D[i]? = some d ∧ f (l.getD i default) ≤ Rows.uptoBulk d) → (l.map f).sum ≤ Rows.uptoBulkAll D := by
  intro l
  induction l with
  | nil => intro D _ _; simp
  | cons a r ih =>
    intro D hD h
    match D, hD with
    | d :: D', hD =>
      obtain ⟨d0, h0, h1⟩ := h 0 (by simp)
      simp at h0
      subst h0
      have h2 := ih D' (by simpa using hD) (fun i hi => by
        obtain ⟨d1, h3, h4⟩ := h (i + 1) (by simpa using hi)
        exact ⟨d1, by simpa using h3, by simpa using h4⟩)
      simp only [List.map_cons, List.sum_cons, Rows.uptoBulkAll]
      have h1' : f a ≤ Rows.uptoBulk d := by simpa using h1
      omega
end

theorem cellsProp : Tryz.prog.cellsOf 103 = 2 := by kernel_rfl
theorem cellsRune : Tryz.prog.cellsOf 21 = 1 := by kernel_rfl
theorem cellsNode : Tryz.prog.cellsOf 26 = 4 := by kernel_rfl
theorem cellsBool : Tryz.prog.cellsOf 4 = 1 := by kernel_rfl
theorem cellsString : Tryz.prog.cellsOf 9 = 1 := by kernel_rfl
theorem cellsProps : Tryz.prog.cellsOf 22 = 1 := by kernel_rfl
theorem cellsRunes : Tryz.prog.cellsOf 23 = 1 := by kernel_rfl
theorem cellsNodes : Tryz.prog.cellsOf 24 = 1 := by kernel_rfl

section
variable {H : Type} {enc : TypeId × Value → H} {w : World} {base : Nat} {spare : Nat → Bool} {held : Bool}

def propCells (p : PropL) : List Value := [.string p.1, .string p.2]

set_option maxRecDepth 100000 in
theorem open_prop {m : Nat} {cs : List Value} {y : DataW H × List MemPlace} (h : DataW.trod enc Tryz.prog w base spare held m 103 cs = some y) :
    ∃ p : PropL, cs = propCells p ∧ 1 + p.1.size + p.2.size ≤ Rows.uptoBulk y.1 := by
  obtain ⟨xs, n, _, rfl, hlen, hxs, hf⟩ := DataW.trod_struct Tryz.underlying103 h
  rw [cellsProp] at hlen
  match cs, hlen with
  | [c0, c1], _ =>
    match xs, hxs with
    | [y0, y1], _ =>
      have h0 : DataW.trod enc Tryz.prog w base spare held n 9 [c0] = some y0 := by have := hf 0 _ rfl; simpa [cellsString] using this
      have h1 : DataW.trod enc Tryz.prog w base spare held n 9 [c1] = some y1 := by have := hf 1 _ rfl; simpa [cellsString] using this
      obtain ⟨s0, e0, rfl, _⟩ := DataW.trod_string Tryz.underlying9 h0
      obtain ⟨s1, e1, rfl, _⟩ := DataW.trod_string Tryz.underlying9 h1
      simp only [List.cons.injEq, and_true] at e0 e1
      subst e0 e1
      refine ⟨(s0, s1), rfl, ?_⟩
      have l0 : s0.data.toList.length = s0.size := by rw [Array.length_toList]; rfl
      have l1 : s1.data.toList.length = s1.size := by rw [Array.length_toList]; rfl
      simp only [List.map_cons, List.map_nil, Rows.uptoBulk, Rows.uptoBulkAll]
      omega

theorem open_props {m : Nat} {cs : List Value} {x : DataW H × List MemPlace} (h : DataW.trod enc Tryz.prog w base spare held m 22 cs = some x) :
    ∃ a c ps, cs = [.slice a ps.length c] ∧ PropsIn w 0 w.heap.size a c ps ∧ propsBulk ps ≤ Rows.uptoBulk x.1 := by
  obtain ⟨a, c, l, D, rfl, hx, hD, hq, hrow⟩ := open_list propCells (fun p d => 1 + p.1.size + p.2.size ≤ Rows.uptoBulk d) Tryz.underlying22 cellsProp (by decide) (fun m cs y _ h => open_prop h) h
  refine ⟨a, c, l, rfl, ?_, ?_⟩
  · refine ⟨hrow.1, fun hn => ?_⟩
    obtain ⟨b, o, h1, h2, h3, hc⟩ := hrow.2 hn
    refine ⟨b, o, h1, h2, h3, fun i hi j hj => ?_⟩
    rw [hc i hi j hj]
    match j, hj with
    | 0, _ => rfl
    | 1, _ => rfl
  · have hs := bulkAll_ge (fun p : PropL => 1 + p.1.size + p.2.size) l D hD hq
    rw [propsBulk_sum]
    rcases hx with ⟨hx, rfl⟩ | ⟨sp, hx⟩
    · have : l = [] := List.length_eq_zero_iff.1 (by simpa using hD.symm)
      subst this; simp
    · rw [hx]; simp only [Rows.uptoBulk]; omega

theorem open_runes {m : Nat} {cs : List Value} {x : DataW H × List MemPlace} (h : DataW.trod enc Tryz.prog w base spare held m 23 cs = some x) :
    ∃ a c ts, cs = [.slice a ts.length c] ∧ RunesIn w 0 w.heap.size a c ts ∧ ts.length ≤ Rows.uptoBulk x.1 := by
  obtain ⟨a, c, l, D, rfl, hx, hD, hq, hrow⟩ := open_list (fun r : Int => [Value.int .i32 r]) (fun r d => (-2147483648 ≤ r ∧ r ≤ 2147483647) ∧ 1 ≤ Rows.uptoBulk d) Tryz.underlying23 cellsRune (by decide) (fun m cs y _ h => by
    obtain ⟨r, rfl, rfl, hw⟩ := DataW.trod_int Tryz.underlying21 h
    refine ⟨r, rfl, ?_, by simp [Rows.uptoBulk]⟩
    have hmin : IntKind.i32.min = -2147483648 := rfl
    have hmax : IntKind.i32.max = 2147483647 := rfl
    simp only [Lit.wf, Bool.and_eq_true, decide_eq_true_eq] at hw
    omega) h
  refine ⟨a, c, l, rfl, ⟨?_, ?_⟩, ?_⟩
  · refine ⟨hrow.1, fun hn => ?_⟩
    obtain ⟨b, o, h1, h2, h3, hc⟩ := hrow.2 hn
    refine ⟨b, o, h1, h2, h3, fun i hi j hj => ?_⟩
    rw [hc i hi j hj]
    obtain rfl : j = 0 := by omega
    rfl
  · intro r hr
    obtain ⟨i, hi, rfl⟩ := List.getElem_of_mem hr
    obtain ⟨d, _, hd, _⟩ := hq i hi
    simpa [List.getD, List.getElem?_eq_getElem hi] using hd
  · have hs := bulkAll_ge (fun _ : Int => 1) l D hD (fun i hi => by obtain ⟨d, h1, _, h3⟩ := hq i hi; exact ⟨d, h1, h3⟩)
    rw [sum_ones] at hs
    rcases hx with ⟨hx, rfl⟩ | ⟨sp, hx⟩
    · have : l = [] := List.length_eq_zero_iff.1 (by simpa using hD.symm)
      subst this; simp
    · rw [hx]; simp only [Rows.uptoBulk]; omega

def nodeCells (n : NT) : List Value := [.bool n.lf, .slice n.pa n.ps.length n.pc, .slice n.ta n.ts.length n.tc, .slice n.ka n.ks.length n.kc]

set_option maxRecDepth 100000 in
theorem open_node (m : Nat) : ∀ (cs : List Value) (y : DataW H × List MemPlace), DataW.trod enc Tryz.prog w base spare held m 26 cs = some y →
    ∃ n : NT, cs = nodeCells n ∧ n.Ok w ∧ n.er.bulk ≤ Rows.uptoBulk y.1 := by
  induction m using Nat.strongRecOn with
  | ind m ih =>
  intro cs y h
  obtain ⟨xs, f, hfu, rfl, hlen, hxs, hf⟩ := DataW.trod_struct Tryz.underlying26 h
  rw [cellsNode] at hlen
  match cs, hlen with
  | [c0, c1, c2, c3], _ =>
    match xs, hxs with
    | [y0, y1, y2, y3], _ =>
      have h0 : DataW.trod enc Tryz.prog w base spare held f 4 [c0] = some y0 := by have := hf 0 _ rfl; simpa [cellsBool] using this
      have h1 : DataW.trod enc Tryz.prog w base spare held f 22 [c1] = some y1 := by have := hf 1 _ rfl; simpa [cellsProps] using this
      have h2 : DataW.trod enc Tryz.prog w base spare held f 23 [c2] = some y2 := by have := hf 2 _ rfl; simpa [cellsRunes] using this
      have h3 : DataW.trod enc Tryz.prog w base spare held f 24 [c3] = some y3 := by have := hf 3 _ rfl; simpa [cellsNodes] using this
      obtain ⟨lf, e0, rfl⟩ := DataW.trod_bool Tryz.underlying4 h0
      obtain ⟨pa, pc, ps, e1, hp, hpb⟩ := open_props h1
      obtain ⟨ta, tc, ts, e2, hr, hrb⟩ := open_runes h2
      obtain ⟨ka, kc, ks, D, e3, hx, hD, hq, hrow⟩ := open_list nodeCells (fun n d => n.Ok w ∧ n.er.bulk ≤ Rows.uptoBulk d) Tryz.underlying24 cellsNode (by decide) (fun m' cs y hm' h => ih m' (by omega) cs y h) h3
      simp only [List.cons.injEq, and_true] at e0 e1 e2 e3
      subst e0 e1 e2 e3
      refine ⟨.mk lf pa pc ps ta tc ts ka kc ks, rfl, NT.Ok.of hp hr ⟨?_, ?_⟩, ?_⟩
      · refine ⟨hrow.1, fun hn => ?_⟩
        obtain ⟨b, o, h1, h2, h3, hc⟩ := hrow.2 hn
        refine ⟨b, o, h1, h2, h3, fun i hi j hj => ?_⟩
        refine (hc i hi j hj).trans ?_
        match j, hj with
        | 0, _ => rfl
        | 1, _ => rfl
        | 2, _ => rfl
        | 3, _ => rfl
      · intro k hk
        obtain ⟨i, hi, rfl⟩ := List.getElem_of_mem hk
        obtain ⟨d, _, hd, _⟩ := hq i hi
        rw [getD_lt ks i hi] at hd; exact hd
      · have hs := bulkAll_ge (fun n : NT => n.er.bulk) ks D hD (fun i hi => by obtain ⟨d, h1, _, h3⟩ := hq i hi; exact ⟨d, h1, h3⟩)
        have hkb : T.bulkAll (ks.map NT.er) ≤ Rows.uptoBulk y3.1 := by
          rw [bulkAll_sum]
          rcases hx with ⟨hx, rfl⟩ | ⟨sp, hx⟩
          · have : ks = [] := List.length_eq_zero_iff.1 (by simpa using hD.symm)
            subst this; simp
          · rw [hx]; simp only [Rows.uptoBulk]; omega
        rw [NT.er_eq]
        simp only [T.bulk_eq, T.ps_mk, T.ts_mk, T.ks_mk, NT.ps_mk, NT.ts_mk, NT.ks_mk, List.map_cons, List.map_nil, Rows.uptoBulk, Rows.uptoBulkAll]
        omega
end
end Go.Proofs.YtdopncbmlehnoaaGreatDoor
/- A DATUM READ AS A LIST OF ints (a path). -/
namespace Go.Proofs.YtdopncbmlehnoaaGreatDoor
open Go Go.RowKit Go.ChangeShapes Go.WideShapes Go.ChangeAt
theorem cellsInt : Tryz.prog.cellsOf 3 = 1 := by kernel_rfl
section
variable {H : Type} {enc : TypeId × Value → H} {w : World} {base : Nat} {spare : Nat → Bool} {held : Bool}
theorem open_ints {m : Nat} {cs : List Value} {x : DataW H × List MemPlace} (h : DataW.trod enc Tryz.prog w base spare held m 27 cs = some x) :
    ∃ a c ts, cs = [.slice a ts.length c] ∧ IntsIn w 0 w.heap.size a c ts ∧ ts.length ≤ Rows.uptoBulk x.1 ∧ ∀ r ∈ ts, -9223372036854775808 ≤ r ∧ r ≤ 9223372036854775807 := by
  obtain ⟨a, c, l, D, rfl, hx, hD, hq, hrow⟩ := open_list (fun r : Int => [Value.int .i64 r]) (fun r d => (-9223372036854775808 ≤ r ∧ r ≤ 9223372036854775807) ∧ 1 ≤ Rows.uptoBulk d) Tryz.underlying27 cellsInt (by decide) (fun m cs y _ h => by
    obtain ⟨r, rfl, rfl, hw⟩ := DataW.trod_int Tryz.underlying3 h
    refine ⟨r, rfl, ?_, by simp [Rows.uptoBulk]⟩
    have hmin : IntKind.i64.min = -9223372036854775808 := rfl
    have hmax : IntKind.i64.max = 9223372036854775807 := rfl
    simp only [Lit.wf, Bool.and_eq_true, decide_eq_true_eq] at hw
    omega) h
  refine ⟨a, c, l, rfl, ?_, ?_, ?_⟩
  · refine ⟨hrow.1, fun hn => ?_⟩
    obtain ⟨b, o, h1, h2, h3, hc⟩ := hrow.2 hn
    refine ⟨b, o, h1, h2, h3, fun i hi j hj => ?_⟩
    rw [hc i hi j hj]
    obtain rfl : j = 0 := by omega
    rfl
  · have hs := bulkAll_ge (fun _ : Int => 1) l D hD (fun i hi => by obtain ⟨d, h1, _, h3⟩ := hq i hi; exact ⟨d, h1, h3⟩)
    rw [sum_ones] at hs
    rcases hx with ⟨hx, rfl⟩ | ⟨sp, hx⟩
    · have : l = [] := List.length_eq_zero_iff.1 (by simpa using hD.symm)
      subst this; simp
    · rw [hx]; simp only [Rows.uptoBulk]; omega
  · intro r hr
    obtain ⟨i, hi, rfl⟩ := List.getElem_of_mem hr
    obtain ⟨d, _, hd, _⟩ := hq i hi
    simpa [List.getD, List.getElem?_eq_getElem hi] using hd
end
end Go.Proofs.YtdopncbmlehnoaaGreatDoor
/- A DATUM READ AS A POINT. -/
namespace Go.Proofs.YtdopncbmlehnoaaGreatDoor
open Go Go.RowKit Go.ChangeShapes Go.WideShapes Go.ChangeAt
theorem cellsPath : Tryz.prog.cellsOf 27 = 1 := by kernel_rfl
theorem cellsPoint : Tryz.prog.cellsOf 29 = 2 := by kernel_rfl
theorem cellsRange : Tryz.prog.cellsOf 31 = 4 := by kernel_rfl
section
variable {H : Type} {enc : TypeId × Value → H} {w : World} {base : Nat} {spare : Nat → Bool} {held : Bool}
set_option maxRecDepth 100000 in
theorem open_intR {m : Nat} {c : Value} {y : DataW H × List MemPlace} (h : DataW.trod enc Tryz.prog w base spare held m 3 [c] = some y) : ∃ x : Int, c = .int .i64 x := by
  obtain ⟨s4, e4, _, _⟩ := DataW.trod_int Tryz.underlying3 h
  simp only [List.cons.injEq, and_true] at e4
  exact ⟨s4, e4⟩
set_option maxRecDepth 100000 in
theorem open_point {m : Nat} {cs : List Value} {y : DataW H × List MemPlace} (h : DataW.trod enc Tryz.prog w base spare held m 29 cs = some y) :
    ∃ p : PtL, cs = [.slice p.p.a p.p.l.length p.p.c, .int .i64 p.o] ∧ p.In w 0 w.heap.size ∧ p.p.l.length ≤ Rows.uptoBulk y.1 := by
  obtain ⟨xs, n, _, rfl, hlen, hxs, hf⟩ := DataW.trod_struct Tryz.underlying29 h
  rw [cellsPoint] at hlen
  match cs, hlen with
  | [c0, c1], _ =>
    match xs, hxs with
    | [y0, y1], _ =>
      have h0 : DataW.trod enc Tryz.prog w base spare held n 27 [c0] = some y0 := by have := hf 0 _ rfl; simpa [cellsPath] using this
      have h1 : DataW.trod enc Tryz.prog w base spare held n 3 [c1] = some y1 := by have := hf 1 _ rfl; simpa [cellsInt] using this
      obtain ⟨a, c, l, e0, hl, hb, _⟩ := open_ints h0
      obtain ⟨o, e1⟩ := open_intR h1
      simp only [List.cons.injEq, and_true] at e0
      subst e0 e1
      refine ⟨⟨⟨a, c, l⟩, o⟩, rfl, hl, ?_⟩
      simp only [List.map_cons, List.map_nil, Rows.uptoBulk, Rows.uptoBulkAll]
      omega
end
end Go.Proofs.YtdopncbmlehnoaaGreatDoor
/- A DATUM READ AS A SELECTION, AND AS AN OPERATION. -/
namespace Go.Proofs.YtdopncbmlehnoaaGreatDoor
open Go Go.RowKit Go.ChangeShapes Go.WideShapes Go.ChangeAt
theorem cellsSel : Tryz.prog.cellsOf 33 = 5 := by kernel_rfl
theorem cellsOp : Tryz.prog.cellsOf 35 = 21 := by kernel_rfl
section
variable {H : Type} {enc : TypeId × Value → H} {w : World} {base : Nat} {spare : Nat → Bool} {held : Bool}
set_option maxRecDepth 100000 in
theorem open_sel {m : Nat} {cs : List Value} {y : DataW H × List MemPlace} (h : DataW.trod enc Tryz.prog w base spare held m 33 cs = some y) :
    ∃ s : SelL, cs = s.cells ∧ s.In w 0 w.heap.size ∧ 1 + s.a.p.l.length + s.f.p.l.length ≤ Rows.uptoBulk y.1 := by
  obtain ⟨xs, n, _, rfl, hlen, hxs, hf⟩ := DataW.trod_struct Tryz.underlying33 h
  rw [cellsSel] at hlen
  match cs, hlen with
  | [c0, c1, c2, c3, c4], _ =>
    match xs, hxs with
    | [y0, y1], _ =>
      have h0 : DataW.trod enc Tryz.prog w base spare held n 4 [c0] = some y0 := by have := hf 0 _ rfl; simpa [cellsBool] using this
      have h1 : DataW.trod enc Tryz.prog w base spare held n 31 [c1, c2, c3, c4] = some y1 := by have := hf 1 _ rfl; simpa [cellsRange] using this
      obtain ⟨b, e0, rfl⟩ := DataW.trod_bool Tryz.underlying4 h0
      obtain ⟨zs, k, _, rfl, _, hz, hzf⟩ := DataW.trod_struct Tryz.underlying31 h1
      match zs, hz with
      | [z0, z1], _ =>
        have k0 : DataW.trod enc Tryz.prog w base spare held k 29 [c1, c2] = some z0 := by have := hzf 0 _ rfl; simpa [cellsPoint] using this
        have k1 : DataW.trod enc Tryz.prog w base spare held k 29 [c3, c4] = some z1 := by have := hzf 1 _ rfl; simpa [cellsPoint] using this
        obtain ⟨pa, e6, ha, hab⟩ := open_point k0
        obtain ⟨pf, e7, hf', hfb⟩ := open_point k1
        simp only [List.cons.injEq, and_true] at e0 e6 e7
        obtain ⟨e6, e6'⟩ := e6
        obtain ⟨e7, e7'⟩ := e7
        subst e0 e6 e6' e7 e7'
        refine ⟨⟨b, pa, pf⟩, rfl, ⟨ha, hf'⟩, ?_⟩
        simp only [List.map_cons, List.map_nil, Rows.uptoBulk, Rows.uptoBulkAll]
        omega
set_option maxRecDepth 100000 in
theorem open_op {m : Nat} {cs : List Value} {y : DataW H × List MemPlace} (h : DataW.trod enc Tryz.prog w base spare held m 35 cs = some y) :
    ∃ o : OpL, cs = o.cells ∧ o.In w 0 w.heap.size ∧ 1 + o.path.l.length + o.dest.l.length + o.node.er.bulk + propsBulk o.old + propsBulk o.new + o.text.length ≤ Rows.uptoBulk y.1 := by
  obtain ⟨xs, n, _, rfl, hlen, hxs, hf⟩ := DataW.trod_struct Tryz.underlying35 h
  rw [cellsOp] at hlen
  match cs, hlen with
  | [c0, c1, c2, c3, c4, c5, c6, c7, c8, c9, c10, c11, c12, c13, c14, c15, c16, c17, c18, c19, c20], _ =>
    match xs, hxs with
    | [y0, y1, y2, y3, y4, y5, y6, y7, y8, y9], _ =>
      have h0 : DataW.trod enc Tryz.prog w base spare held n 3 [c0] = some y0 := by have := hf 0 _ rfl; simpa [cellsInt] using this
      have h1 : DataW.trod enc Tryz.prog w base spare held n 27 [c1] = some y1 := by have := hf 1 _ rfl; simpa [cellsInt, cellsPath] using this
      have h2 : DataW.trod enc Tryz.prog w base spare held n 27 [c2] = some y2 := by have := hf 2 _ rfl; simpa [cellsInt, cellsPath] using this
      have h3 : DataW.trod enc Tryz.prog w base spare held n 3 [c3] = some y3 := by have := hf 3 _ rfl; simpa [cellsInt, cellsPath] using this
      have h4 : DataW.trod enc Tryz.prog w base spare held n 26 [c4, c5, c6, c7] = some y4 := by have := hf 4 _ rfl; simpa [cellsInt, cellsPath, cellsNode] using this
      have h5 : DataW.trod enc Tryz.prog w base spare held n 22 [c8] = some y5 := by have := hf 5 _ rfl; simpa [cellsInt, cellsPath, cellsNode, cellsProps] using this
      have h6 : DataW.trod enc Tryz.prog w base spare held n 22 [c9] = some y6 := by have := hf 6 _ rfl; simpa [cellsInt, cellsPath, cellsNode, cellsProps] using this
      have h7 : DataW.trod enc Tryz.prog w base spare held n 23 [c10] = some y7 := by have := hf 7 _ rfl; simpa [cellsInt, cellsPath, cellsNode, cellsProps, cellsRunes] using this
      have h8 : DataW.trod enc Tryz.prog w base spare held n 33 [c11, c12, c13, c14, c15] = some y8 := by have := hf 8 _ rfl; simpa [cellsInt, cellsPath, cellsNode, cellsProps, cellsRunes, cellsSel] using this
      have h9 : DataW.trod enc Tryz.prog w base spare held n 33 [c16, c17, c18, c19, c20] = some y9 := by have := hf 9 _ rfl; simpa [cellsInt, cellsPath, cellsNode, cellsProps, cellsRunes, cellsSel] using this
      obtain ⟨i0, e0⟩ := open_intR h0
      obtain ⟨pa, pc, pl, e1, hp, hpb, _⟩ := open_ints h1
      obtain ⟨da, dc, dl, e2, hd, hdb, _⟩ := open_ints h2
      obtain ⟨i3, e3⟩ := open_intR h3
      obtain ⟨nd, e4, hn, hnb⟩ := open_node _ _ _ h4
      obtain ⟨oa, oc, ol, e5, ho, hob⟩ := open_props h5
      obtain ⟨wa, wc, wl, e6, hw, hwb⟩ := open_props h6
      obtain ⟨xa, xc, xl, e7, hx, hxb⟩ := open_runes h7
      obtain ⟨s1, e8, hs1, _⟩ := open_sel h8
      obtain ⟨s2, e9, hs2, _⟩ := open_sel h9
      unfold nodeCells at e4
      unfold SelL.cells at e8 e9
      simp only [List.cons.injEq, and_true] at e0 e1 e2 e3 e4 e5 e6 e7 e8 e9
      obtain ⟨e4, e4b, e4c, e4d⟩ := e4
      obtain ⟨e8, e8b, e8c, e8d, e8e⟩ := e8
      obtain ⟨e9, e9b, e9c, e9d, e9e⟩ := e9
      subst e0 e1 e2 e3 e4 e4b e4c e4d e5 e6 e7 e8 e8b e8c e8d e8e e9 e9b e9c e9d e9e
      refine ⟨⟨i0, ⟨pa, pc, pl⟩, ⟨da, dc, dl⟩, i3, nd, oa, oc, ol, wa, wc, wl, xa, xc, xl, s1, s2⟩, rfl, ⟨⟨hp, hd⟩, hn, ho, hw, hx, hs1, hs2⟩, ?_⟩
      simp only [List.map_cons, List.map_nil, Rows.uptoBulk, Rows.uptoBulkAll]
      omega
set_option maxRecDepth 100000 in
theorem open_selV {fuel : Nat} {cs : Array Value} {x : DataW H × List MemPlace} (h : DataW.trod enc Tryz.prog w base spare held fuel 33 (Value.agg cs).cells.toList = some x) :
    ∃ s : SelL, Value.agg cs = s.val ∧ s.In w 0 w.heap.size ∧ 1 + s.a.p.l.length + s.f.p.l.length ≤ Rows.uptoBulk x.1 := by
  obtain ⟨r, hc, hr, hb⟩ := open_sel h
  refine ⟨r, ?_, hr, hb⟩
  obtain ⟨l⟩ := cs
  simp only [Value.cells] at hc
  subst hc
  rfl
set_option maxRecDepth 100000 in
theorem open_opV {fuel : Nat} {cs : Array Value} {x : DataW H × List MemPlace} (h : DataW.trod enc Tryz.prog w base spare held fuel 35 (Value.agg cs).cells.toList = some x) :
    ∃ o : OpL, Value.agg cs = o.val ∧ o.In w 0 w.heap.size ∧ 1 + o.path.l.length + o.dest.l.length + o.node.er.bulk + propsBulk o.old + propsBulk o.new + o.text.length ≤ Rows.uptoBulk x.1 := by
  obtain ⟨r, hc, hr, hb⟩ := open_op h
  refine ⟨r, ?_, hr, hb⟩
  obtain ⟨l⟩ := cs
  simp only [Value.cells] at hc
  subst hc
  rfl
end
end Go.Proofs.YtdopncbmlehnoaaGreatDoor
/- FROM A LAW's CONTRACT (it returns true, nothing that was there has turned) TO WHAT ITS ROW ASKS. -/
namespace Go.Proofs.YtdopncbmlehnoaaGreatDoor
open Go Go.RowKit Go.ChangeShapes Go.WideShapes Go.ChangeAt

section
variable {H : Type} {enc : TypeId × Value → H} {P : Program}

theorem trodAll_grew (hl : laidOutB P = true) {W W' : World} (hb : Below W.heap.size W W') : ∀ (ts : List TypeId) (vs : List Value) (ds : List (DataW H)) (ps : List MemPlace),
    (∀ t ∈ ts, P.readableRec t = true ∧ t < P.types.size) → DataW.TrodAll enc P W 0 (fun _ => true) true ts vs ds ps → (∀ x ∈ ps, x.block < W.heap.size) →
    DataW.TrodAll enc P W' 0 (fun b => decide (b < W.heap.size)) true ts vs ds ps := by
  intro ts
  induction ts with
  | nil =>
    intro vs ds ps _ h _
    match vs, ds, h with
    | [], [], h => exact h
  | cons t ts ih =>
    intro vs ds ps ht h hlt
    match vs, ds, h with
    | v :: vs, d :: ds, ⟨p, q, h1, h2, hpq⟩ =>
      subst hpq
      have hrt := ht t (by simp)
      exact ⟨p, q, Below.trod hl hrt.1 hrt.2 h1 hb (fun x hx => hlt x (by simp [hx])), ih vs ds q (fun t h => ht t (by simp [h])) h2 (fun x hx => hlt x (by simp [hx])), rfl⟩

theorem post_law {f : Func} {s : ChangeSpec} {W W' : World} {args : Array Value} {ds gs : List (DataW H)} {before : List MemPlace} {tb : TypeId}
    (hl : laidOutB P = true) (hp : ∀ t ∈ f.params.toList, P.readableRec t = true ∧ t < P.types.size) (hW : DataW.Whole enc P f.params.toList s.vars false W args.toList ds gs before) (hv : s.vars = [])
    (hres : f.resultTypes = #[tb]) (htb : P.underlying tb = some .bool) (hs1 : (s.fn H (ds ++ gs)).results = [.lit (.bool true)]) (hs2 : (s.fn H (ds ++ gs)).args = ds) (hs3 : (s.fn H (ds ++ gs)).vars = []) (hg : Grew W W') :
    s.post enc P f false true false false W args (.bool true) W' := by
  have hlt := hW.lt
  have hW' := hW
  obtain ⟨p, q, hA, hV, rfl, _, _⟩ := hW
  refine ⟨ds, gs, _, [], p, [], hW', ?_, ?_, ?_, hg.frame _, fun h => by cases h⟩
  · rw [hs1, hres]
    exact trodAll_cons_mk (shut_bool htb _) trodAll_mk0
  · rw [hs2]
    exact trodAll_grew hl hg _ _ _ _ hp hA (fun x hx => hlt x (by simp [hx]))
  · rw [hs3, hv]
    rfl
end
end Go.Proofs.YtdopncbmlehnoaaGreatDoor
/- THE LAW redlinelaw12.op.Check: the contract. -/
namespace Go.Proofs.YtdopncbmlehnoaaGreatDoor
open Go Go.RowKit

set_option maxRecDepth 100000 in
set_option maxHeartbeats 4000000 in
theorem check12_any (n : NT) (s : SelL) (o : OpL) (w : World) (hfe : fewE n.er s.er o.er = true) (hf : Fit n s o w) : Calls Tryz.prog 24 #[n.val, s.val, o.val] w fun e w' => e = .returned (.int .i64 (applyT n.er s.er o.er).2.2) ∧ Grew w w' := by
  have AP := Lib.hid (fun w1 (g : Grew w w1) => apply12 hfe (hf.grew g))
  clear hf hfe
  generalize applyT n.er s.er o.er = res at *
  obtain ⟨ta, tb, er⟩ := res
  unfold OpL.val at AP ⊢
  unfold NT.val at AP ⊢
  unfold SelL.val at AP ⊢
  go_enter Tryz.func24, Tryz.ntmps24
  go_upto_region 1 with fail
  generalize hW : ((w.alloc _).alloc _).alloc _ = w1
  obtain ⟨g1, hB, z1⟩ := b3_new w n s o _ _ _ w1 hW
  have HB1 := Lib.hid hB
  have G1 := Lib.hid g1
  clear hW z1 hB g1
  obtain ⟨n0, n1, n2, n3⟩ := HB1.out.n
  obtain ⟨s0, s1, s2, s3, s4⟩ := HB1.out.s
  have rO := HB1.out.2.2.1
  obtain ⟨ov, hov⟩ : ∃ v, o.val = v := ⟨_, rfl⟩
  unfold OpL.val at hov
  rw [hov] at AP
  go_wp2_with (show wpList _ _ _ (Oper.mk (some 13) (Op.load 35 (.tmp 5)) _ _ _ _ :: _) _ _; refine wpList_load_mid_g rfl 35 (.tmp 5) rfl (w.heap.size + 2) 0 rfl o.cells _ rO Tryz.underlying35 rfl infoOpB ?_; have ho2 : Value.agg o.cells.toArray = ov := hov; rw [ho2]; clear ho2)
  refine (AP.out w1 G1.out).mono ?_
  rintro e w4 ⟨x, t, rfl, g4, hx, ht, hxe, hte⟩
  have G4 := Lib.hid (G1.out.trans g4)
  clear g4 n0 n1 n2 n3 s0 s1 s2 s3 s4 rO HB1 AP G1 hx ht hxe hte
  unfold NT.val SelL.val
  go_upto_region 2 with (first | (show wpList _ _ _ (Oper.mk none (Op.store 26 (.tmp 7) (.tmp 15)) _ _ _ _ :: _) _ _; generalize hW : World.alloc (World.alloc w4 _) _ = wW; obtain ⟨tX, tY⟩ := two_there hW; refine wpList_store_mid rfl 26 (.tmp 7) (.tmp 15) rfl w4.heap.size 0 x.cells4.toArray rfl rfl tX infoNode4 (NT.cells4_all _) ?_; generalize hA : World.setCells wW _ _ _ = wa; have tZ : wa.there (w4.heap.size + 1) 0 5 := (by rw [← hA]; exact World.there_setCells tY _ _ _)) | (show wpList _ _ _ (Oper.mk none (Op.store 33 (.tmp 8) (.tmp 16)) _ _ _ _ :: _) _ _; refine wpList_store_mid rfl 33 (.tmp 8) (.tmp 16) rfl (w4.heap.size + 1) 0 t.cells.toArray rfl rfl tZ infoSel (all_oneCell_toArray t.cells_one) ?_; generalize hB : World.setCells wa _ _ _ = wb))
  obtain ⟨g5, _⟩ := put2_new hW hA hB
  have G5 := Lib.hid (G4.out.trans g5)
  clear hW hA hB tX tY tZ g5 G4
  go_wp2_with fail
  go_ret
  refine ⟨?_, G5.out⟩
  rfl
end Go.Proofs.YtdopncbmlehnoaaGreatDoor
