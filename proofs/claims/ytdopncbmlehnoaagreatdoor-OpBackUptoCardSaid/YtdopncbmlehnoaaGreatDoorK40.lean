/- AN OPERATION'S INVERSE can be done, and restores tree and selection; plain. -/
import Derived.Test.YtdopncbmlehnoaaGreatDoorK39
import Derived.Test.YtdopncbmlehnoaaGreatDoorK02
import Derived.Test.YtdopncbmlehnoaaGreatDoorK37
import Derived.Test.YtdopncbmlehnoaaGreatDoorK10
import Derived.Test.YtdopncbmlehnoaaGreatDoorK01
namespace Go.Proofs.YtdopncbmlehnoaaGreatDoor
open Go Go.RowKit

def inF (k c : Int) : Prop := ∃ fs, hasL k = some fs ∧ c ∈ fs
theorem form_iff {o : OpE} : formT o = 0 ↔ (∃ fs, hasL o.kind = some fs) ∧ (o.path ≠ [] → inF o.kind 112) ∧ (o.dest ≠ [] → inF o.kind 116) ∧ (o.pos ≠ 0 → inF o.kind 97) ∧ (o.node ≠ T.zero → inF o.kind 110) ∧ (o.old ≠ [] → inF o.kind 111) ∧ (o.new ≠ [] → inF o.kind 119) ∧ (o.text ≠ [] → inF o.kind 120) ∧ (sameSelP o.src SelE.nil = false → inF o.kind 115) ∧ (sameSelP o.dst SelE.nil = false → inF o.kind 115) := by
  unfold formT inF
  cases hf : hasL o.kind with
  | none => simp
  | some fs =>
    simp only [Option.some.injEq, exists_eq_left']
    have hall : ((setE o).all (fun c => decide (c ∈ fs)) = true) ↔ ∀ c ∈ setE o, c ∈ fs := by
      rw [List.all_eq_true]; simp
    have hmem : (∀ c ∈ setE o, c ∈ fs) ↔ ∀ x ∈ fieldsE o, x.2 = true → x.1 ∈ fs := by
      unfold setE setOf
      constructor
      · intro h x hx h2
        exact h x.1 (List.mem_map.2 ⟨x, List.mem_filter.2 ⟨hx, h2⟩, rfl⟩)
      · intro h c hc
        obtain ⟨x, hx, rfl⟩ := List.mem_map.1 hc
        obtain ⟨h1, h2⟩ := List.mem_filter.1 hx
        exact h x h1 h2
    have hp : ∀ {α : Type} (l : List α), 0 < l.length ↔ l ≠ [] := fun l => by cases l <;> simp
    have key : (∀ x ∈ fieldsE o, x.2 = true → x.1 ∈ fs) ↔ ((o.path ≠ [] → 112 ∈ fs) ∧ (o.dest ≠ [] → 116 ∈ fs) ∧ (o.pos ≠ 0 → 97 ∈ fs) ∧ (o.node ≠ T.zero → 110 ∈ fs) ∧ (o.old ≠ [] → 111 ∈ fs) ∧ (o.new ≠ [] → 119 ∈ fs) ∧ (o.text ≠ [] → 120 ∈ fs) ∧ (sameSelP o.src SelE.nil = false → 115 ∈ fs) ∧ (sameSelP o.dst SelE.nil = false → 115 ∈ fs)) := by
      unfold fieldsE
      simp only [List.forall_mem_cons, decide_eq_true_eq, hp, List.not_mem_nil, false_implies, implies_true, and_true, Bool.not_eq_true']
    split
    · rename_i h
      rw [hall, hmem, key] at h
      exact ⟨fun _ => ⟨⟨fs, rfl⟩, h⟩, fun _ => rfl⟩
    · rename_i h
      rw [hall, hmem, key] at h
      exact ⟨fun h' => (by cases h'), fun h' => absurd h'.2 h⟩
theorem inF_iff {k c : Int} : inF k c ↔ ((k = 1 ∨ k = 2) ∧ (c = 112 ∨ c = 110)) ∨ (k = 3 ∧ (c = 112 ∨ c = 97 ∨ c = 111)) ∨ (k = 4 ∧ (c = 112 ∨ c = 97 ∨ c = 119)) ∨ (k = 5 ∧ (c = 112 ∨ c = 116)) ∨ (k = 6 ∧ (c = 112 ∨ c = 111 ∨ c = 119)) ∨ ((k = 7 ∨ k = 8) ∧ (c = 112 ∨ c = 97 ∨ c = 120)) ∨ (k = 9 ∧ c = 115) := by
  unfold inF hasL
  by_cases h1 : k = 1
  · subst h1; simp
  by_cases h2 : k = 2
  · subst h2; simp
  by_cases h3 : k = 3
  · subst h3; simp
  by_cases h4 : k = 4
  · subst h4; simp
  by_cases h5 : k = 5
  · subst h5; simp
  by_cases h6 : k = 6
  · subst h6; simp
  by_cases h7 : k = 7
  · subst h7; simp
  by_cases h8 : k = 8
  · subst h8; simp
  by_cases h9 : k = 9
  · subst h9; simp
  simp [h1, h2, h3, h4, h5, h6, h7, h8, h9]
theorem has_ex {k : Int} (h : k = 1 ∨ k = 2 ∨ k = 3 ∨ k = 4 ∨ k = 5 ∨ k = 6 ∨ k = 7 ∨ k = 8 ∨ k = 9) : ∃ fs, hasL k = some fs := by
  rcases h with h | h | h | h | h | h | h | h | h <;> subst h <;> exact ⟨_, rfl⟩
theorem nil_of_not {α : Type} {l : List α} {P : Prop} (h : l ≠ [] → P) (hn : ¬ P) : l = [] := Classical.byContradiction fun e => hn (h e)
theorem undo_undo {k : Int} (h : k = 1 ∨ k = 2 ∨ k = 3 ∨ k = 4 ∨ k = 5 ∨ k = 6 ∨ k = 7 ∨ k = 8 ∨ k = 9) : undoK (undoK k) = k := by
  rcases h with h | h | h | h | h | h | h | h | h <;> subst h <;> rfl
theorem turned_turned {o : OpE} (h : o.kind = 1 ∨ o.kind = 2 ∨ o.kind = 3 ∨ o.kind = 4 ∨ o.kind = 5 ∨ o.kind = 6 ∨ o.kind = 7 ∨ o.kind = 8 ∨ o.kind = 9) : o.turned.turned = o := by
  unfold OpE.turned
  simp only [undo_undo h]
/-- the turned operation's fields are those of its kind, whatever its paths -/
theorem turned_form {o : OpE} (hf : formT o = 0) (p d : List Int) (hd : o.kind ≠ 5 → d = []) (hp : o.kind = 9 → p = []) : formT { o.turned with path := p, dest := d } = 0 := by
  have hk := form_kind hf
  obtain ⟨_, f1, f2, f3, f4, f5, f6, f7, f8, f9⟩ := form_iff.1 hf
  have e1 : ({ o.turned with path := p, dest := d } : OpE) = ⟨undoK o.kind, p, d, o.pos, o.node, o.new, o.old, o.text, o.dst, o.src⟩ := rfl
  rw [e1, form_iff]
  simp only
  have hu : undoK o.kind = if o.kind = 1 then 2 else if o.kind = 2 then 1 else if o.kind = 3 then 4 else if o.kind = 4 then 3 else if o.kind = 7 then 8 else if o.kind = 8 then 7 else if o.kind = 5 then 5 else if o.kind = 6 then 6 else if o.kind = 9 then 9 else 0 := rfl
  simp only [inF_iff] at f1 f2 f3 f4 f5 f6 f7 f8 f9 ⊢
  have hdd : d ≠ [] → o.kind = 5 := fun h => Classical.byContradiction fun hn => h (hd hn)
  have hpp : p ≠ [] → o.kind ≠ 9 := fun h hn => h (hp hn)
  generalize o.kind = k at *
  rcases hk with h | h | h | h | h | h | h | h | h <;> subst h <;> (
    refine ⟨has_ex (by decide), fun h => ?_, fun h => ?_, fun h => ?_, fun h => ?_, fun h => ?_, fun h => ?_, fun h => ?_, fun h => ?_, fun h => ?_⟩
    · have := hpp h; revert this; decide
    · have := hdd h; revert this; decide
    · have := f3 h; revert this; decide
    · have := f4 h; revert this; decide
    · have := f6 h; revert this; decide
    · have := f5 h; revert this; decide
    · have := f7 h; revert this; decide
    · have := f9 h; revert this; decide
    · have := f8 h; revert this; decide)
theorem form_dest {o : OpE} (hf : formT o = 0) (h : o.kind ≠ 5) : o.dest = [] := by
  obtain ⟨_, f1, f2, _⟩ := form_iff.1 hf
  exact nil_of_not f2 (by rw [inF_iff]; omega)
theorem form_path9 {o : OpE} (hf : formT o = 0) (h : o.kind = 9) : o.path = [] := by
  obtain ⟨_, f1, f2, _⟩ := form_iff.1 hf
  exact nil_of_not f1 (by rw [inF_iff]; omega)
theorem inv5 {o : OpE} (hf : formT o = 0) (h : o.kind = 5) : invT o = ({ o.turned with path := o.dest, dest := o.path }, 0) := by
  unfold invT; rw [if_neg (by simpa using hf), if_pos h]
theorem inv3 {o : OpE} (hf : formT o = 0) (h : o.kind = 3) {q : List Int} (hq : backP o.path = (q, 0)) : invT o = ({ o.turned with path := q }, 0) := by
  unfold invT; rw [if_neg (by simpa using hf), if_neg (by omega), if_pos h, hq, if_neg (by simp)]
theorem inv4 {o : OpE} (hf : formT o = 0) (h : o.kind = 4) {q : List Int} (hq : nextP o.path = (q, 0)) : invT o = ({ o.turned with path := q }, 0) := by
  unfold invT; rw [if_neg (by simpa using hf), if_neg (by omega), if_neg (by omega), if_pos h, hq, if_neg (by simp)]
theorem inv0 {o : OpE} (hf : formT o = 0) (h3 : o.kind ≠ 3) (h4 : o.kind ≠ 4) (h5 : o.kind ≠ 5) : invT o = (o.turned, 0) := by
  unfold invT; rw [if_neg (by simpa using hf), if_neg h5, if_neg h3, if_neg h4]
/-- AN OPERATION AND ITS INVERSE -/
structure Undo (o b : OpE) : Prop where
  inv : invT o = (b, 0)
  back : invT b = (o, 0)
  form : formT b = 0
  kind : b.kind = undoK o.kind
  pos : b.pos = o.pos
  node : b.node = o.node
  old : b.old = o.new
  new : b.new = o.old
  text : b.text = o.text
  src : b.src = o.dst
  dst : b.dst = o.src
theorem undo5 {o : OpE} (hf : formT o = 0) (h : o.kind = 5) : Undo o { o.turned with path := o.dest, dest := o.path } := by
  have hb := turned_form hf o.dest o.path (fun h' => absurd h h') (fun h' => by omega)
  have hk : ({ o.turned with path := o.dest, dest := o.path } : OpE).kind = 5 := by show undoK o.kind = 5; rw [h]; rfl
  refine ⟨inv5 hf h, ?_, hb, rfl, rfl, rfl, rfl, rfl, rfl, rfl, rfl⟩
  rw [inv5 hb hk]
  have : undoK (undoK o.kind) = o.kind := undo_undo (form_kind hf)
  simp only [OpE.turned, this]
theorem undo3 {o : OpE} (hf : formT o = 0) (h : o.kind = 3) {q : List Int} (hq : backP o.path = (q, 0)) (hn : nextP q = (o.path, 0)) : Undo o { o.turned with path := q } := by
  have hb : formT { o.turned with path := q } = 0 := turned_form hf q o.dest (fun h' => form_dest hf h') (fun h' => by omega)
  have hk : ({ o.turned with path := q } : OpE).kind = 4 := by show undoK o.kind = 4; rw [h]; rfl
  refine ⟨inv3 hf h hq, ?_, hb, rfl, rfl, rfl, rfl, rfl, rfl, rfl, rfl⟩
  rw [inv4 hb hk hn]
  have : undoK (undoK o.kind) = o.kind := undo_undo (form_kind hf)
  simp only [OpE.turned, this]
theorem undo4 {o : OpE} (hf : formT o = 0) (h : o.kind = 4) {q : List Int} (hq : nextP o.path = (q, 0)) (hn : backP q = (o.path, 0)) : Undo o { o.turned with path := q } := by
  have hb : formT { o.turned with path := q } = 0 := turned_form hf q o.dest (fun h' => form_dest hf h') (fun h' => by omega)
  have hk : ({ o.turned with path := q } : OpE).kind = 3 := by show undoK o.kind = 3; rw [h]; rfl
  refine ⟨inv4 hf h hq, ?_, hb, rfl, rfl, rfl, rfl, rfl, rfl, rfl, rfl⟩
  rw [inv3 hb hk hn]
  have : undoK (undoK o.kind) = o.kind := undo_undo (form_kind hf)
  simp only [OpE.turned, this]
theorem undo0 {o : OpE} (hf : formT o = 0) (h3 : o.kind ≠ 3) (h4 : o.kind ≠ 4) (h5 : o.kind ≠ 5) : Undo o o.turned := by
  have hkk := form_kind hf
  have hb : formT o.turned = 0 := turned_form hf o.path o.dest (fun h' => form_dest hf h') (fun h' => form_path9 hf h')
  have hk : o.turned.kind ≠ 3 ∧ o.turned.kind ≠ 4 ∧ o.turned.kind ≠ 5 := by
    show undoK o.kind ≠ 3 ∧ undoK o.kind ≠ 4 ∧ undoK o.kind ≠ 5
    generalize o.kind = k at *
    rcases hkk with h | h | h | h | h | h | h | h | h <;> subst h <;> first | omega | decide
  refine ⟨inv0 hf h3 h4 h5, ?_, hb, rfl, rfl, rfl, rfl, rfl, rfl, rfl, rfl⟩
  rw [inv0 hb hk.1 hk.2.1 hk.2.2, turned_turned hkk]
/-- the change of each kind, told again -/
theorem shaped1_of {n : T} {o : OpE} {r : T} (h : o.kind = 1) (hc : o.node.chk = 0) (ha : addT n o.path o.node = (r, 0)) : shapedT n o = (r, 0) := by
  unfold shapedT; rw [if_pos h, if_neg (by simpa using hc), ha]
theorem shaped_cut {n : T} {o : OpE} {r k : T} (h : o.kind = 2 ∨ o.kind = 3 ∨ o.kind = 4 ∨ o.kind = 5) (hp : o.kind = 4 → checkPs o.new = 0) (ha : cutT n o.path = (r, k, 0)) : shapedT n o = if o.kind = 2 then (if k = o.node then (r, 0) else (T.nilT, 9)) else if o.kind = 3 then mergedT r k o else if o.kind = 4 then splitT r k o else addT r o.dest k := by
  unfold shapedT
  rw [if_neg (by omega), if_neg (by rintro ⟨h1, h2⟩; exact h2 (hp h1)), ha, if_neg (by rintro ⟨_, h2⟩; exact h2 rfl)]
  simp only
  rcases h with h | h | h | h <;> simp [h]
theorem shaped_own {n : T} {o : OpE} (h : o.kind = 6 ∨ o.kind = 7 ∨ o.kind = 8) : shapedT n o = contentT n o := by
  unfold shapedT
  rw [if_neg (by omega), if_neg (by omega), if_neg (by omega), if_neg (by omega), if_neg (by omega), if_neg (by omega), if_neg (by omega)]
theorem T.lfm (a : Bool) (b : List PropL) (c : List Int) (d : List T) : (T.mk a b c d).lf = a := rfl
theorem T.psm (a : Bool) (b : List PropL) (c : List Int) (d : List T) : (T.mk a b c d).ps = b := rfl
theorem T.tsm (a : Bool) (b : List PropL) (c : List Int) (d : List T) : (T.mk a b c d).ts = c := rfl
theorem T.ksm (a : Bool) (b : List PropL) (c : List Int) (d : List T) : (T.mk a b c d).ks = d := rfl
theorem T.mk_eta (k : T) : T.mk k.lf k.ps k.ts k.ks = k := by cases k; rfl
theorem T.first_len {k : T} {i : Nat} (h : i ≤ k.len) : (k.first i).len = i := by
  unfold T.first
  unfold T.len at h ⊢
  split
  · rename_i hl
    rw [if_pos hl] at h
    simp only [T.lfm, T.tsm, if_true, List.length_take]; omega
  · rename_i hl
    rw [if_neg hl] at h
    simp only [T.lfm, T.ksm, List.length_take, Bool.false_eq_true, if_false]; omega
theorem T.first_lf (k : T) (i : Nat) (new : List PropL) : (k.first i).lf = (k.second i new).lf := by
  unfold T.first T.second; split <;> rfl
theorem T.join_parts {k : T} (h : k.chk = 0) (i : Nat) (new : List PropL) : (k.first i).join (k.second i new) = k := by
  unfold T.join T.first T.second
  split
  · rename_i hl
    have := T.chk_leaf h hl
    simp only [T.lfm, T.psm, T.tsm, T.ksm, List.take_append_drop, this, List.append_nil]
    conv => rhs; rw [← T.mk_eta k, hl, this]
  · rename_i hl
    have hl : k.lf = false := by simpa using hl
    have := T.chk_elem h hl
    simp only [T.lfm, T.psm, T.tsm, T.ksm, List.take_append_drop, this, List.append_nil]
    conv => rhs; rw [← T.mk_eta k, hl, this]
theorem T.parts_join {x k : T} (hx : x.chk = 0) (hk : k.chk = 0) (hl : x.lf = k.lf) : (x.join k).first x.len = x ∧ (x.join k).second x.len k.ps = k ∧ x.len ≤ (x.join k).len := by
  unfold T.join T.first T.second T.len
  cases hxl : x.lf with
  | true =>
    have h1 := T.chk_leaf hx hxl
    have h2 := T.chk_leaf hk (hl ▸ hxl)
    simp only [T.lfm, T.psm, T.tsm, T.ksm, if_true, h1, h2, List.append_nil, List.take_left, List.drop_left, List.length_append]
    refine ⟨?_, ?_, by omega⟩
    · conv => rhs; rw [← T.mk_eta x, hxl, h1]
    · conv => rhs; rw [← T.mk_eta k, ← hl, hxl, h2]
  | false =>
    have h1 := T.chk_elem hx hxl
    have h2 := T.chk_elem hk (hl ▸ hxl)
    simp only [T.lfm, T.psm, T.tsm, T.ksm, h1, h2, Bool.false_eq_true, if_false, List.append_nil, List.take_left, List.drop_left, List.length_append]
    refine ⟨?_, ?_, ?_⟩
    · conv => rhs; rw [← T.mk_eta x, hxl, h1]
    · conv => rhs; rw [← T.mk_eta k, ← hl, hxl, h2]
    · simp
theorem T.kids_back {n u : T} {up : List Int} (h : n.at up = some u) : T.setAt (u.kids u.ks) n up = n := by rw [T.kids_self, T.setAt_same h]
theorem chk_small {n u : T} {up : List Int} {a b : List T} (hb : n.bulk ≤ 4611686018427387) (h : n.at up = some u) (he : u.ks = a ++ b) : a.length < 4611686018427387 := by
  have h1 := bulk_at h
  have h2 := u.ks_bulk
  rw [he, List.length_append] at h2
  omega
theorem askedR_of {ts ss : List Int} {i : Int} (h1 : checkRs ts = 0) (h2 : checkRs ss = 0) (h3 : 0 ≤ i) (h4 : i ≤ ts.length) : askedR ts i ss = 0 := by
  unfold askedR
  rw [if_neg (by rw [h1, h2]; simp), if_neg (by omega)]
/-- THE TREE IS RESTORED -/
theorem shaped_back {n : T} {o : OpE} (hb : n.bulk ≤ 4611686018427387) (hc : n.chk = 0) (hf : formT o = 0) (h9 : o.kind ≠ 9) (hs : (shapedT n o).2 = 0) : ∃ b, Undo o b ∧ shapedT (shapedT n o).1 b = (n, 0) := by
  have hkk := form_kind hf
  rcases (show o.kind = 1 ∨ o.kind = 2 ∨ o.kind = 3 ∨ o.kind = 4 ∨ o.kind = 5 ∨ (o.kind = 6 ∨ o.kind = 7 ∨ o.kind = 8) by omega) with h1 | h1 | h1 | h1 | h1 | h1
  · obtain ⟨up, i, u, a, b, e1, e2, e3, e4, e5, e6, e8⟩ := done1 hf h1 hs
    have U := undo0 hf (by omega) (by omega) (by omega)
    refine ⟨_, U, ?_⟩
    have hk2 : o.turned.kind = 2 := by rw [U.kind, h1]; rfl
    have hcut := cut_at (k := o.node) (a := a) (b := b) (i := i) (T.at_setAt (y' := u.kids (a ++ o.node :: b)) e2) rfl e5
    rw [T.kids_kids, T.setAt_setAt e2, ← e4, T.kids_back e2, ← e8, ← e1] at hcut
    rw [shaped_cut (.inl hk2) (fun h => by omega) hcut, if_pos hk2, if_pos U.node.symm]
  · obtain ⟨up, i, u, a, b, e1, e2, e3, e4, e8⟩ := done2 hf h1 hs
    have hu := T.chk_at hc e2
    have hul := getE_elem hu (x := o.node) (by rw [e3]; simp)
    have U := undo0 hf (by omega) (by omega) (by omega)
    refine ⟨_, U, ?_⟩
    have hk2 : o.turned.kind = 1 := by rw [U.kind, h1]; rfl
    refine shaped1_of hk2 (T.chk_ks hu o.node (by rw [e3]; simp)) ?_
    have hadd := add_at (m := o.node) (a := a) (b := b) (i := i) (T.at_setAt (y' := u.kids (a ++ b)) e2) hul rfl e4
    rw [T.kids_kids, T.setAt_setAt e2, ← e3, T.kids_back e2, ← e8, ← e1] at hadd
    exact hadd
  · obtain ⟨up, i, u, x, k, a, b, e1, e2, e3, e4, e5, e6, e7, e8⟩ := done3 (by omega) hf h1 hs
    have hu := T.chk_at hc e2
    have hx := T.chk_ks hu x (by rw [e3]; simp)
    have hk := T.chk_ks hu k (by rw [e3]; simp)
    have hul := getE_elem hu (x := k) (by rw [e3]; simp)
    have hi := chk_small hb e2 e3
    have U := undo3 hf h1 (q := up ++ [(i : Int)]) (by rw [e1]; exact back_at (by omega)) (by rw [e1]; exact next_at (by omega))
    refine ⟨_, U, ?_⟩
    have hk4 : ({ o.turned with path := up ++ [(i : Int)] } : OpE).kind = 4 := by rw [U.kind, h1]; rfl
    have hcut := cut_at (k := x.join k) (a := a) (b := b) (i := i) (T.at_setAt (y' := u.kids (a ++ x.join k :: b)) e2) rfl e4
    rw [T.kids_kids, T.setAt_setAt e2, ← e8] at hcut
    rw [shaped_cut (o := { o.turned with path := up ++ [(i : Int)] }) (.inr (.inr (.inl hk4))) (fun _ => by rw [U.new, ← e7]; exact T.chk_ps hk) hcut, if_neg (by omega), if_neg (by omega), if_pos hk4]
    obtain ⟨p1, p2, p3⟩ := T.parts_join hx hk e5
    have hpos : ({ o.turned with path := up ++ [(i : Int)] } : OpE).pos = (x.len : Int) := by rw [U.pos, e6]
    unfold splitT
    rw [hpos, if_neg (by omega), Int.toNat_natCast, U.new, ← e7, p1, p2]
    have q1 := add_at (m := k) (a := a) (b := b) (i := i) (T.at_setAt (y' := u.kids (a ++ b)) e2) hul rfl e4
    rw [T.kids_kids, T.setAt_setAt e2] at q1
    have q2 := add_at (m := x) (a := a) (b := k :: b) (i := i) (T.at_setAt (y' := u.kids (a ++ k :: b)) e2) hul rfl e4
    rw [T.kids_kids, T.setAt_setAt e2, ← e3, T.kids_back e2] at q2
    show (if (addT (T.setAt (u.kids (a ++ b)) n up) (up ++ [(i : Int)]) k).2 ≠ 0 then _ else addT (addT (T.setAt (u.kids (a ++ b)) n up) (up ++ [(i : Int)]) k).1 (up ++ [(i : Int)]) x) = _
    rw [q1, if_neg (by simp)]
    exact q2
  · obtain ⟨up, i, u, k, a, b, e1, e2, hul, e3, e4, g0, g1, hnew, e8⟩ := done4 hf h1 hs
    have hu := T.chk_at hc e2
    have hk := T.chk_ks hu k (by rw [e3]; simp)
    have hi := chk_small hb e2 e3
    have U := undo4 hf h1 (q := up ++ [((i + 1 : Nat) : Int)]) (by rw [e1]; exact next_at (by omega)) (by rw [e1]; exact back_at (by omega))
    refine ⟨_, U, ?_⟩
    have hk3 : ({ o.turned with path := up ++ [((i + 1 : Nat) : Int)] } : OpE).kind = 3 := by rw [U.kind, h1]; rfl
    have hat := T.at_setAt (y' := u.kids (a ++ k.first o.pos.toNat :: k.second o.pos.toNat o.new :: b)) e2
    have hcut := cut_at (k := k.second o.pos.toNat o.new) (a := a ++ [k.first o.pos.toNat]) (b := b) (i := i + 1) hat (by rw [T.kids_ks, List.append_assoc]; rfl) (by rw [List.length_append, List.length_singleton, e4])
    rw [T.kids_kids, T.setAt_setAt e2, ← e8] at hcut
    rw [shaped_cut (o := { o.turned with path := up ++ [((i + 1 : Nat) : Int)] }) (.inr (.inl hk3)) (fun h => by omega) hcut, if_neg (by omega), if_pos hk3]
    have hat2 : (T.setAt (u.kids (a ++ [k.first o.pos.toNat] ++ b)) n up).at (up ++ [(i : Int)]) = some (k.first o.pos.toNat) := by
      rw [T.at_on e2, ← e4]
      exact T.at_kid (by rw [T.kids_ks, List.append_assoc]; rfl)
    have hbk : backP ({ o.turned with path := up ++ [((i + 1 : Nat) : Int)] } : OpE).path = (up ++ [(i : Int)], 0) := back_at (by omega)
    unfold mergedT
    rw [hbk, if_neg (by simp)]
    simp only [hat2]
    rw [if_neg (by simpa using T.first_lf k o.pos.toNat o.new)]
    have hlen := T.first_len (k := k) (i := o.pos.toNat) (by omega)
    rw [if_neg (by rw [hlen, U.pos]; simp; omega), if_neg (by
      rw [U.old]
      unfold T.second
      split <;> simp)]
    rw [put_ok hat2]
    have := T.join_parts hk o.pos.toNat o.new
    unfold T.join at this
    rw [this, T.setAt_append (T.at_setAt e2), T.setAt_setAt e2]
    have hset : T.setAt k (u.kids (a ++ [k.first o.pos.toNat] ++ b)) [(i : Int)] = u := by
      rw [T.setAt, T.setAt, T.kids_ks, Int.toNat_natCast, ← e4]
      have : (a ++ [k.first o.pos.toNat] ++ b).set a.length k = u.ks := by
        rw [List.append_assoc, List.set_append_right _ _ (Nat.le_refl _), Nat.sub_self, e3]; rfl
      rw [this]
      exact T.mk_eta u
    rw [hset, T.setAt_same e2]
  · obtain ⟨up, vp, i, j, u, v, k, r, a, b, c, d, e1, e2, e3, e4, er, f1, f2, f3, f4, f5, e8⟩ := done5 hf h1 hs
    have hu := T.chk_at hc e2
    have hul := getE_elem hu (x := k) (by rw [e3]; simp)
    have U := undo5 hf h1
    refine ⟨_, U, ?_⟩
    have hk5 : ({ o.turned with path := o.dest, dest := o.path } : OpE).kind = 5 := by rw [U.kind, h1]; rfl
    have hcut := cut_at (k := k) (a := c) (b := d) (i := j) (T.at_setAt (y' := v.kids (c ++ k :: d)) f2) rfl f5
    rw [T.kids_kids, T.setAt_setAt f2, ← f4, T.kids_back f2, ← e8, ← f1] at hcut
    rw [shaped_cut (o := { o.turned with path := o.dest, dest := o.path }) (.inr (.inr (.inr hk5))) (fun h => by omega) hcut, if_neg (by omega), if_neg (by omega), if_neg (by omega)]
    have hadd := add_at (m := k) (a := a) (b := b) (i := i) (T.at_setAt (y' := u.kids (a ++ b)) e2) hul rfl e4
    rw [T.kids_kids, T.setAt_setAt e2, ← e3, T.kids_back e2, ← er, ← e1] at hadd
    exact hadd
  · obtain ⟨k, k', e1, e2, e3⟩ := done6 hf h1 hs
    have hk := T.chk_at hc e1
    have U := undo0 hf (by omega) (by omega) (by omega)
    refine ⟨_, U, ?_⟩
    have hat : (shapedT n o).1.at o.path = some k' := by rw [e2]; exact T.at_setAt e1
    have hback : T.setAt k (shapedT n o).1 o.path = n := by rw [e2, T.setAt_setAt e1, T.setAt_same e1]
    have hpath : o.turned.path = o.path := rfl
    rcases e3 with ⟨h6, hp0, hpt, hk'⟩ | ⟨h7, hkl, hi, hk'⟩ | ⟨h8, hkl, hi, hk'⟩
    · have hk6 : o.turned.kind = 6 := by rw [U.kind, h6]; rfl
      rw [shaped_own (.inl hk6)]
      unfold contentT
      rw [hpath, if_neg (fun h => hp0 h.2), hat]
      simp only
      have hps : patchT k'.ps o.turned.old o.turned.new = (k.ps, 0) := by
        rw [U.old, U.new, hk']
        exact (patchT_chk hpt).2.2
      rw [if_pos hk6, hps, if_neg (by simp), put_ok hat, hk']
      show (T.setAt (T.mk k.lf k.ps k.ts k.ks) _ _, (0 : Int)) = _
      rw [T.mk_eta, hback]
    · have hk8 : o.turned.kind = 8 := by rw [U.kind, h7]; rfl
      obtain ⟨v0, v1, v3, v4, v2⟩ := insert_ok hi
      rw [shaped_own (.inr (.inr hk8))]
      unfold contentT
      rw [hpath, if_neg (fun h => by omega), hat]
      simp only
      have hts : k'.ts = k.ts.take o.pos.toNat ++ o.text ++ k.ts.drop o.pos.toNat := by rw [hk', v2]; rfl
      have hlf : k'.lf = true := by rw [hk']; exact hkl
      have hlen : (k.ts.take o.pos.toNat).length = o.pos.toNat := by rw [List.length_take]; omega
      have hrm : removeR k'.ts o.turned.pos o.turned.text = (k.ts, 0) := by
        rw [U.pos, U.text, hts]
        unfold removeR
        have hlt : (k.ts.take o.pos.toNat ++ o.text ++ k.ts.drop o.pos.toNat).length = k.ts.length + o.text.length := by
          simp only [List.length_append, List.length_take, List.length_drop]; omega
        rw [if_pos (askedR_of (checkRs_app.2 ⟨checkRs_app.2 ⟨checkRs_take _ v3, v4⟩, checkRs_drop _ v3⟩) v4 v0 (by rw [hlt]; omega)), hlt]
        have hmin : min (o.pos.toNat + o.text.length) (k.ts.length + o.text.length) = o.pos.toNat + o.text.length := by omega
        rw [hmin, List.append_assoc, List.drop_left' hlen, show o.pos.toNat + o.text.length - o.pos.toNat = o.text.length by omega, List.take_left' rfl, if_pos rfl, List.take_left' hlen]
        rw [← List.append_assoc, List.drop_left' (by rw [List.length_append, hlen]), List.take_append_drop]
      rw [if_neg (by omega), if_neg (by rw [hlf]; simp), if_neg (by omega), hrm, if_neg (by simp), put_ok hat, hk']
      show (T.setAt (T.mk k.lf k.ps k.ts k.ks) _ _, (0 : Int)) = _
      rw [T.mk_eta, hback]
    · have hk7 : o.turned.kind = 7 := by rw [U.kind, h8]; rfl
      obtain ⟨v0, v1, v3, v2⟩ := remove_ok hi
      rw [shaped_own (.inr (.inl hk7))]
      unfold contentT
      rw [hpath, if_neg (fun h => by omega), hat]
      simp only
      have hts : k'.ts = k.ts.take o.pos.toNat ++ k.ts.drop (o.pos.toNat + o.text.length) := by rw [hk', v2]; rfl
      have hlf : k'.lf = true := by rw [hk']; exact hkl
      have hlen : (k.ts.take o.pos.toNat).length = o.pos.toNat := by rw [List.length_take]; omega
      have hck := T.chk_ts hk
      have hct : checkRs o.text = 0 := by rw [← v3]; exact checkRs_take _ (checkRs_drop _ hck)
      have hin : insertR k'.ts o.turned.pos o.turned.text = (k.ts, 0) := by
        rw [U.pos, U.text, hts]
        unfold insertR
        rw [if_pos (askedR_of (checkRs_app.2 ⟨checkRs_take _ hck, checkRs_drop _ hck⟩) hct v0 (by rw [List.length_append, hlen]; omega)), List.take_left' hlen, List.drop_left' hlen]
        have : o.text ++ k.ts.drop (o.pos.toNat + o.text.length) = k.ts.drop o.pos.toNat := by
          conv => lhs; rw [← v3]
          rw [v3, ← List.drop_drop]
          conv => rhs; rw [← List.take_append_drop o.text.length (k.ts.drop o.pos.toNat), v3]
        rw [List.append_assoc, this, List.take_append_drop]
      rw [if_neg (by omega), if_neg (by rw [hlf]; simp), if_pos hk7, hin, if_neg (by simp), put_ok hat, hk']
      show (T.setAt (T.mk k.lf k.ps k.ts k.ks) _ _, (0 : Int)) = _
      rw [T.mk_eta, hback]
theorem may_of {n : T} {s : SelE} {o : OpE} (h1 : n.chk = 0) (h2 : n.lf = false) (h3 : checkSelT n s = 0) (h4 : formT o = 0) : mayT n s o = 0 := by
  unfold mayT; rw [if_neg (fun h => h h1), if_neg (by rw [h2]; decide), if_neg (fun h => h h3), h4]
/-- TREE AND SELECTION ARE RESTORED -/
theorem apply_back {n : T} {s : SelE} {o : OpE} (hb : n.bulk ≤ 4611686018427387) (h : (applyT n s o).2.2 = 0) : (invT o).2 = 0 ∧ applyT (applyT n s o).1 (applyT n s o).2.1 (invT o).1 = (n, s, 0) := by
  have hchk := apply_chk (by omega) h
  have hsel := (apply_sel (by omega) h).1
  obtain ⟨hm, h⟩ := apply_ok h
  obtain ⟨hc, hl, hcs, hf⟩ := may_ok hm
  rcases h with ⟨h9, hss, hcd, he⟩ | ⟨h9, hs, hst, he⟩
  · have U := undo0 hf (by omega) (by omega) (by omega)
    have hso := sameSelP_iff.1 hss
    rw [U.inv, he]
    refine ⟨rfl, ?_⟩
    have hk : o.turned.kind = 9 := by rw [U.kind, h9]; rfl
    unfold applyT
    rw [if_neg (fun h => h (may_of hc hl hcd U.form)), if_pos hk, U.src, U.dst, if_neg (by rw [sameSelP_iff.2 rfl]; decide), ← hso, if_neg (by simpa using hcs)]
  · obtain ⟨b, U, hbk⟩ := shaped_back hb hc hf h9 hs
    rw [U.inv]
    refine ⟨rfl, ?_⟩
    rw [he] at hchk hsel ⊢
    simp only at hchk hsel ⊢
    have hkk := form_kind hf
    have hk : b.kind ≠ 9 := by
      rw [U.kind]
      generalize o.kind = k at *
      rcases hkk with h | h | h | h | h | h | h | h | h <;> subst h <;> first | omega | decide
    have hstb : staysT s b = true := by
      unfold staysT at hst ⊢
      rw [U.back]
      rw [U.inv] at hst
      cases hi : s.is with
      | false => rfl
      | true =>
        rw [hi] at hst
        simp only [Bool.not_true, Bool.false_or, Bool.and_eq_true, decide_true] at hst ⊢
        exact ⟨⟨⟨⟨hst.1.1.1.2, hst.1.1.1.1⟩, hst.1.2⟩, hst.1.1.2⟩, trivial⟩
    unfold applyT
    rw [if_neg (fun h => h (may_of hchk.1 hchk.2 hsel U.form)), if_neg hk, hbk, if_neg (by simp), if_neg (by rw [hstb]; decide)]
end Go.Proofs.YtdopncbmlehnoaaGreatDoor
/- redlinelaw12.live: the contract. -/
namespace Go.Proofs.YtdopncbmlehnoaaGreatDoor
open Go Go.RowKit

theorem runes_abc : runesOf { data := #[97, 98, 99] } = [97, 98, 99] := by kernel_rfl
/-- the example -/
def exN : T := .mk false [(typeKey, { data := #[112] })] [] [.mk true [] [97, 98, 99] []]
def exA : T := .mk false [(typeKey, { data := #[112] })] [] [.mk true [] [97] [], .mk true [] [98, 99] []]
def exO : OpE := OpE.of 4 [0] [] 1 T.zero []
theorem ex_form : formT exO = 0 := by
  rw [form_iff]
  refine ⟨⟨_, rfl⟩, fun _ => ⟨_, rfl, by decide⟩, fun h => absurd rfl h, fun _ => ⟨_, rfl, by decide⟩, fun h => absurd rfl h, fun h => absurd rfl h, fun h => absurd rfl h, fun h => absurd rfl h, fun h => ?_, fun h => ?_⟩
  · exact absurd (show sameSelP SelE.nil SelE.nil = true from rfl) (by rw [show sameSelP SelE.nil SelE.nil = false from h]; decide)
  · exact absurd (show sameSelP SelE.nil SelE.nil = true from rfl) (by rw [show sameSelP SelE.nil SelE.nil = false from h]; decide)
theorem ex_chk : exN.chk = 0 := by kernel_rfl
theorem ex_cut : cutT exN [0] = (T.mk false [(typeKey, { data := #[112] })] [] [], .mk true [] [97, 98, 99] [], 0) := by kernel_rfl
theorem ex_split : splitT (T.mk false [(typeKey, { data := #[112] })] [] []) (.mk true [] [97, 98, 99] []) exO = (exA, 0) := by kernel_rfl
theorem ex_apply : applyT exN SelE.nil exO = (exA, SelE.nil, 0) := by
  have hs : shapedT exN exO = (exA, 0) := by
    rw [shaped_cut (o := exO) (.inr (.inr (.inl rfl))) (fun _ => rfl) ex_cut]
    exact ex_split
  unfold applyT
  rw [if_neg (fun h => h (may_of ex_chk rfl rfl ex_form)), if_neg (show ¬ exO.kind = 9 by decide), hs, if_neg (by simp), if_neg (show ¬ (staysT SelE.nil exO = false) by rw [show staysT SelE.nil exO = true from rfl]; decide)]
/-- an operation of few fields, laid -/
theorem opL_in {w : World} {a : Option Addr} {c : Nat} {p : List Int} {k pos : Int} (h : IntsIn w 0 w.heap.size a c p) : (OpL.of k ⟨a, c, p⟩ PN.nil pos NT.zero none 0 []).In w 0 w.heap.size :=
  ⟨⟨h, intsIn_nil⟩, NT.zero_in, propsIn_nil, propsIn_nil, runesIn_nil, sel_nil_in, sel_nil_in⟩
theorem exO_er (a : Option Addr) (c : Nat) : (OpL.of 4 ⟨a, c, [0]⟩ PN.nil 1 NT.zero none 0 []).er = exO := by rw [OpL.of_er, NT.zero_er]; rfl
theorem ex_few : fewE exN SelE.nil exO = true := by kernel_rfl
/-- two boxes laid for two results -/
theorem two_there {w W : World} {tA tB : TypeId} (hW : (w.alloc (.cells NT.nil.cells4.toArray tA)).alloc (.cells SelL.nil.cells.toArray tB) = W) : W.there w.heap.size 0 4 ∧ W.there (w.heap.size + 1) 0 5 := by
  obtain ⟨_, _, t1, _, t2, _⟩ := boxes2 w NT.nil.cells4 SelL.nil.cells tA tB W hW
  exact ⟨t1, t2⟩
def XB (b : Nat) (x : NT) (t : SelL) (wz : World) : Prop := wz.rangeAt b 0 x.cells4 ∧ wz.rangeAt (b + 1) 0 t.cells ∧ b + 2 ≤ wz.heap.size
theorem XB.grew {b : Nat} {wz w' : World} {x : NT} {t : SelL} (h : XB b x t wz) (g : Grew wz w') : XB b x t w' := by
  obtain ⟨h1, h2, h3⟩ := h
  exact ⟨rangeAt_grew h1 g (by omega), rangeAt_grew h2 g (by omega), Nat.le_trans h3 g.size⟩
theorem XB.x {b : Nat} {wz : World} {n : NT} {t : SelL} (h : XB b n t wz) : wz.cell? ⟨b, 0, none⟩ = some (.bool n.lf) ∧ wz.cell? ⟨b, 1, none⟩ = some (.slice n.pa n.ps.length n.pc) ∧ wz.cell? ⟨b, 2, none⟩ = some (.slice n.ta n.ts.length n.tc) ∧ wz.cell? ⟨b, 3, none⟩ = some (.slice n.ka n.ks.length n.kc) := by
  have h := NT.cells4_at.1 h.1
  unfold NodeAt at h
  simp only [Nat.zero_add] at h
  exact h
theorem XB.t {b : Nat} {wz : World} {n : NT} {s : SelL} (h : XB b n s wz) : wz.cell? ⟨b + 1, 0, none⟩ = some (.bool s.is) ∧ wz.cell? ⟨b + 1, 1, none⟩ = some (.slice s.a.p.a s.a.p.l.length s.a.p.c) ∧ wz.cell? ⟨b + 1, 2, none⟩ = some (.int .i64 s.a.o) ∧ wz.cell? ⟨b + 1, 3, none⟩ = some (.slice s.f.p.a s.f.p.l.length s.f.p.c) ∧ wz.cell? ⟨b + 1, 4, none⟩ = some (.int .i64 s.f.o) :=
  ⟨rangeAt_at0 h.2.1 (j := 0) rfl, rangeAt_at0 h.2.1 (j := 1) rfl, rangeAt_at0 h.2.1 (j := 2) rfl, rangeAt_at0 h.2.1 (j := 3) rfl, rangeAt_at0 h.2.1 (j := 4) rfl⟩
theorem put2_new {w W wa wb : World} {x : NT} {t : SelL} {tA tB : TypeId} (hW : (w.alloc (.cells NT.nil.cells4.toArray tA)).alloc (.cells SelL.nil.cells.toArray tB) = W) (ha : W.setCells w.heap.size 0 x.cells4 = wa) (hb : wa.setCells (w.heap.size + 1) 0 t.cells = wb) : Grew w wb ∧ XB w.heap.size x t wb := by
  obtain ⟨g1, _, t1, _, t2, z1⟩ := boxes2 w NT.nil.cells4 SelL.nil.cells tA tB W hW
  have k1 : Keeps (· = w.heap.size) W wa := by rw [← ha]; exact setCells_keepsO _ x.cells4 0 W
  have k2 : Keeps (· = w.heap.size + 1) wa wb := by rw [← hb]; exact setCells_keepsO _ t.cells 0 wa
  have r1 : wa.rangeAt w.heap.size 0 x.cells4 := by rw [← ha]; exact rangeAt_put t1
  have r2 : wb.rangeAt (w.heap.size + 1) 0 t.cells := by rw [← hb]; exact rangeAt_put (by rw [← ha]; exact World.there_setCells t2 _ _ _)
  have s1 := k1.size
  have s2 := k2.size
  exact ⟨(g1.keep k1 (fun j hj => by have : j = w.heap.size := hj; omega)).keep k2 (fun j hj => by have : j = w.heap.size + 1 := hj; omega), rangeAt_keeps r1 k2 (by omega) (by show ¬ (_ = _); omega), r2, by omega⟩
/-- op.Apply where all is few -/
theorem apply12 {n : NT} {s : SelL} {o : OpL} {w : World} (h : fewE n.er s.er o.er = true) (hf : Fit n s o w) : Calls Tryz.prog 12 #[n.val, s.val, o.val] w (RetApply (applyT n.er s.er o.er) w) := by
  obtain ⟨h1, h2, h3⟩ := fewE_parts h
  obtain ⟨ht, hp, hd⟩ := fewOp_tiny h3
  obtain ⟨ha, hb⟩ := fewSel_small h2
  have := few_bulk h1
  exact apply_any n s o w hf.hn hf.hs hf.ho (by omega) ht ha hb hp hd

set_option maxRecDepth 100000 in
set_option maxHeartbeats 4000000 in
theorem live12_any (w : World) : Calls Tryz.prog 10 #[] w fun e w' => e = .returned (.bool true) ∧ Grew w w' := by
  have LA := Lib.hid (leaf_any { data := #[97] } (by decide) none 0 [])
  have LB := Lib.hid (leaf_any { data := #[98, 99] } (by decide) none 0 [])
  have LC := Lib.hid (leaf_any { data := #[97, 98, 99] } (by decide) none 0 [])
  go_enter Tryz.func10, Tryz.ntmps10
  go_wp2_with fail
  refine (LC.out _ propsIn_nil).mono ?_
  rintro e w1 ⟨x, rfl, g1, ok1, E1⟩
  unfold NT.val
  have EL := Lib.hid (elem_any { data := #[112] } (some ⟨w1.heap.size, 0, none⟩) 1 [x] _ ((kidsIn_one (t := 26) ok1).mono (Nat.le_refl _) (by simp)))
  clear ok1
  go_wp2_with fail
  refine EL.out.mono ?_
  rintro e w2 ⟨y, rfl, g2, ok2, E2⟩
  have hy : y.er = exN := by
    rw [E2.out, List.map_cons, List.map_nil, E1.out, runes_abc, p_filled]; rfl
  have G2 := Lib.hid (g1.trans ((Grew.alloc1 _ _).trans g2))
  have AP := Lib.hid (fun w3 (g : Grew w2 w3) => apply12 (n := y) (s := SelL.nil) (o := OpL.of 4 ⟨some ⟨w3.heap.size, 0, none⟩, 1, [0]⟩ PN.nil 1 NT.zero none 0 []) (w := w3.alloc (.cells #[.int .i64 0] 3)) (by rw [hy, exO_er]; exact ex_few) ⟨NT.Ok.grew ok2 (g.trans (Grew.alloc1 _ _)), sel_nil_in, opL_in ((rowIn_new (n := 1) (cp := 1) (k := 1) (f := fun i _ => .int .i64 ([0].getD i 0)) (Nat.le_refl _) (by unfold maxLen; omega) (fun i hi j hj => by
    obtain rfl : j = 0 := by omega
    obtain rfl : i = 0 := by omega
    rfl)).mono (Nat.zero_le _) (by simp)), by rw [hy]; decide, by show NT.zero.er.bulk ≤ _; rw [NT.zero_er]; decide, by show 1 + propsBulk [] ≤ _; decide, by show 1 + propsBulk [] ≤ _; decide⟩)
  rw [hy, show SelL.nil.er = SelE.nil from rfl] at AP
  simp only [exO_er, ex_apply] at AP
  have AP2 := Lib.hid (AP.out w2 (Grew.refl _))
  unfold NT.val SelL.val OpL.val at AP2
  clear AP E1 E2 g1 g2 ok2 hy EL LC
  unfold NT.val
  go_wp2_with fail
  refine AP2.out.mono ?_
  rintro e w4 ⟨x, t, rfl, g4, hx, ht, hxe, hte⟩
  have G4 := Lib.hid (G2.out.trans ((Grew.alloc1 _ _).trans g4))
  have HX4 : Hid (x.Ok w4) := hx.mono (Nat.zero_le _) (Nat.le_refl _)
  have HXE : Hid (x.er = exA) := hxe.out
  clear AP2 G2 hx ht hxe hte g4
  unfold NT.val SelL.val
  go_upto_region 2 with (first | (show wpList _ _ _ (Oper.mk none (Op.store 26 (.tmp 1) (.tmp 12)) _ _ _ _ :: _) _ _; generalize hW : World.alloc (World.alloc w4 _) _ = wW; obtain ⟨tX, tY⟩ := two_there hW; refine wpList_store_mid rfl 26 (.tmp 1) (.tmp 12) rfl w4.heap.size 0 x.cells4.toArray rfl rfl tX infoNode4 (NT.cells4_all _) ?_; generalize hA : World.setCells wW _ _ _ = wa; have tZ : wa.there (w4.heap.size + 1) 0 5 := (by rw [← hA]; exact World.there_setCells tY _ _ _)) | (show wpList _ _ _ (Oper.mk none (Op.store 33 (.tmp 2) (.tmp 13)) _ _ _ _ :: _) _ _; refine wpList_store_mid rfl 33 (.tmp 2) (.tmp 13) rfl (w4.heap.size + 1) 0 t.cells.toArray rfl rfl tZ infoSel (all_oneCell_toArray t.cells_one) ?_; generalize hB : World.setCells wa _ _ _ = wb))
  obtain ⟨g5, hXB⟩ := put2_new hW hA hB
  clear hW hA hB tX tY tZ
  have G5 := Lib.hid (G4.out.trans g5)
  have HX5 := Lib.hid (NT.Ok.grew HX4.out g5)
  clear g5 HX4 G4
  have KB := fun w' (g : Grew wb w') => (((hXB.grew g).x) : w'.cell? ⟨w4.heap.size, 0, none⟩ = some (.bool x.lf) ∧ w'.cell? ⟨w4.heap.size, 1, none⟩ = some (.slice x.pa x.ps.length x.pc) ∧ w'.cell? ⟨w4.heap.size, 2, none⟩ = some (.slice x.ta x.ts.length x.tc) ∧ w'.cell? ⟨w4.heap.size, 3, none⟩ = some (.slice x.ka x.ks.length x.kc))
  clear hXB
  generalize w4.heap.size = b7 at *
  have g50 : Grew wb wb.drew := (Grew.refl _).drew
  have RS := Lib.hid (fun (z : NT) (hz : z.er = exA) w1 (hzk : z.Ok w1) (g : Grew wb w1) => refSame04_any x z w1 (NT.Ok.grew HX5.out g) hzk (by rw [HXE.out]; decide) (by rw [hz]; decide))
  unfold NT.val at LA LB RS
  go_region_held3 (fun w' => Grew wb w') ((first | with_reducible exact g50 | with_reducible assumption | exact Grew.trans (by with_reducible assumption) (Grew.alloc1 _ _)))
    ((first | (go_at_call 35; first | (refine (LB.out wA propsIn_nil).mono ?_; rintro e wB ⟨y2, rfl, gB, okB, EB⟩; have hB : Grew wb wB := hA.trans gB) | (refine (LA.out wb.drew propsIn_nil).mono ?_; rintro e wA ⟨y1, rfl, gA, okA, EA⟩; have hA : Grew wb wA := g50.trans gA)) | (go_at_call 34; refine (elem_any { data := #[112] } (some ⟨wB.heap.size, 0, none⟩) 2 [y1, y2] _ ((kidsIn_two (t := 26) (NT.Ok.grew okA gB) okB).mono (Nat.le_refl _) (by simp))).mono ?_; rintro e wC ⟨u, rfl, gC, okC, EC⟩; have hC : Grew wb wC := hB.trans ((Grew.alloc1 _ _).trans gC)) | (go_at_call 13; refine (RS.out u (by rw [EC.out, List.map_cons, List.map_cons, EA.out, EB.out, runes_a, runes_bc, p_filled]; rfl) wC okC hC).mono ?_; rintro e wD ⟨rfl, gD⟩; have hD : Grew wb wD := hC.trans gD; have t9 : decide (x.er = u.er) = true := decide_eq_true (by rw [HXE.out, EC.out, List.map_cons, List.map_cons, EA.out, EB.out, runes_a, runes_bc, p_filled]; rfl))))
  all_goals
    go_wp2_with fail
    go_ret
    exact ⟨ret_bool rfl, G5.out.trans hD⟩
end Go.Proofs.YtdopncbmlehnoaaGreatDoor
