/- What prop.Patch and prop.Diff say, in plain Lean. -/
import Derived.Test.YtbhbekocmpmjfaaGreatDoorK23
import Derived.Test.YtbhbekocmpmjfaaGreatDoorK36
import Derived.Test.YtbhbekocmpmjfaaGreatDoorK10
import Derived.Test.YtbhbekocmpmjfaaGreatDoorK01
import Derived.Test.YtbhbekocmpmjfaaGreatDoorK29
import Derived.Test.YtbhbekocmpmjfaaGreatDoorK02
namespace Go.Proofs.YtbhbekocmpmjfaaGreatDoor
open Go Go.RowKit Go.Maps
theorem chkPs_iff : ∀ {l : List zab} {last : ByteArray}, chkPs last l = 0 ↔ (∀ p ∈ l, isKey p.1 = true ∧ isVal p.2 = true) ∧ Up l ∧ ∀ p ∈ l, ltS last p.1
 | [], _ => by simp [chkPs, Up]
 | p :: r, last => by
  constructor
  ·intro h
   refine ⟨fun q hq => ?_, up_of_chk h⟩
   simp only [chkPs] at h
   split at h
   ·rename_i h1
    split at h
    ·cases h
    ·rcases List.mem_cons.1 hq with rfl | hq
     ·exact Bool.and_eq_true_iff.1 h1
     ·exact (chkPs_iff.1 h).1 q hq
   ·cases h
  ·rintro ⟨h1, h2, h3⟩
   have h4 := h1 p List.mem_cons_self
   have h5 := (not_leS p.1 last).2 (h3 p List.mem_cons_self)
   simp only [chkPs, h4.1, h4.2, h5, Bool.and_self, ↓reduceIte, Bool.false_eq_true]
   have h6 := List.pairwise_cons.1 h2
   exact chkPs_iff.2 ⟨fun q hq => h1 q (List.mem_cons_of_mem _ hq), h6.2, fun q hq => h6.1 q hq⟩
theorem ltS_empty {s : ByteArray} (h : isKey s = true) : ltS .empty s := (not_leS s .empty).1 (leS_empty s h)
theorem checkPs_iff {l : List zab} : zaN l = 0 ↔ l.length ≤ 16 ∧ (∀ p ∈ l, isKey p.1 = true ∧ isVal p.2 = true) ∧ Up l := by
 unfold zaN
 by_cases h : 16 < l.length
 ·rw [if_pos h]
  constructor
  ·intro e; cases e
  ·rintro ⟨e, _⟩; omega
 ·rw [if_neg h, chkPs_iff]
  constructor
  ·rintro ⟨h1, h2, _⟩; exact ⟨by omega, h1, h2⟩
  ·rintro ⟨_, h1, h2⟩; exact ⟨h1, h2, fun p hp => ltS_empty (h1 p hp).1⟩
theorem firstBad_three {a b c : List zab} : za2 [a, b, c] = 0 ↔ zaN a = 0 ∧ zaN b = 0 ∧ zaN c = 0 := by
 simp only [za2]
 by_cases h1 : zaN a = 0 <;> by_cases h2 : zaN b = 0 <;> by_cases h3 : zaN c = 0 <;> simp [h1, h2, h3]
theorem mem_dropK {k : ByteArray} {l : List zab} {p : zab} : p ∈ dropK k l ↔ p ∈ l ∧ p.1 ≠ k := by
 unfold dropK
 rw [List.mem_filter]
 simp
theorem mem_minus {p : zab} : ∀ {o l : List zab}, p ∈ zbz l o ↔ p ∈ l ∧ p.1 ∉ o.map (·.1)
 | [], l => by simp [zbz]
 | q :: r, l => by
  rw [zbA, mem_minus, mem_dropK, List.map_cons, List.mem_cons, not_or]
  exact ⟨fun ⟨⟨a, b⟩, c⟩ => ⟨a, b, c⟩, fun ⟨a, b, c⟩ => ⟨⟨a, b⟩, c⟩⟩
theorem minus_sub : ∀ (o l : List zab), (zbz l o).Sublist l
 | [], l => List.Sublist.refl _
 | q :: r, l => by
  rw [zbA]
  exact (minus_sub r _).trans List.filter_sublist
theorem nodup_sub {l m : List zab} (h : (l.map (·.1)).Nodup) (hs : m.Sublist l) : (m.map (·.1)).Nodup := h.sublist (hs.map _)
theorem key_one {l : List zab} (h : (l.map (·.1)).Nodup) {p q : zab} (hp : p ∈ l) (hq : q ∈ l) (e : p.1 = q.1) : p = q := by
 have h1 := (zbc h).2 (show (p.1, p.2) ∈ l from hp)
 have h2 := (zbc h).2 (show (q.1, q.2) ∈ l from hq)
 rw [e, h2] at h1
 exact Prod.ext e (Option.some.inj h1).symm
theorem perm_of_mem {a b : List zab} (ha : (a.map (·.1)).Nodup) (hb : (b.map (·.1)).Nodup) (h : ∀ p, p ∈ a ↔ p ∈ b) : a.Perm b := (List.perm_ext_iff_of_nodup (zbF _ ha) (zbF _ hb)).2 h
theorem nodup_append {a b : List zab} (ha : (a.map (·.1)).Nodup) (hb : (b.map (·.1)).Nodup) (h : ∀ p ∈ a, ∀ q ∈ b, p.1 ≠ q.1) : ((a ++ b).map (·.1)).Nodup := by
 rw [List.map_append, List.nodup_append]
 refine ⟨ha, hb, fun x hx y hy => ?_⟩
 obtain ⟨p, hp, rfl⟩ := List.mem_map.1 hx
 obtain ⟨q, hq, rfl⟩ := List.mem_map.1 hy
 exact h p hp q hq
theorem patchE_zero {l old new : List zab} : zbS l old new = 0 ↔ (zaN l = 0 ∧ zaN old = 0 ∧ zaN new = 0) ∧ (∀ p ∈ old, p ∈ l) ∧ (∀ p ∈ new, ∀ q ∈ l, q.1 = p.1 → q.1 ∈ old.map (·.1)) ∧ (zbz l old ++ new).length ≤ 16 := by
 unfold zbS
 by_cases h0 : za2 [l, old, new] = 0
 ·have h0' := firstBad_three.1 h0
  have nl : (l.map (·.1)).Nodup := (checkPs_iff.1 h0'.1).2.2.nodup
  rw [if_neg (by simp [h0])]
  have e1 : (old.all fun p => decide (getP p.1 l = some p.2)) = false ↔ ¬ ∀ p ∈ old, p ∈ l := by
   rw [← Bool.not_eq_true, List.all_eq_true]
   simp only [decide_eq_true_eq]
   refine not_congr ⟨fun h p hp => (zbc nl).1 (h p hp), fun h p hp => (zbc nl).2 (h p hp)⟩
  have e2 : (new.any fun p => (getP p.1 (zbz l old)).isSome) = true ↔ ¬ ∀ p ∈ new, ∀ q ∈ l, q.1 = p.1 → q.1 ∈ old.map (·.1) := by
   rw [List.any_eq_true]
   constructor
   ·rintro ⟨p, hp, hs⟩ h
    obtain ⟨v, hv⟩ := Option.isSome_iff_exists.1 hs
    have hm := (zbc (nodup_sub nl (minus_sub old l))).1 hv
    obtain ⟨h1, h2⟩ := mem_minus.1 hm
    exact h2 (h p hp _ h1 rfl)
   ·intro h
    apply Classical.byContradiction
    intro hc
    apply h
    intro p hp q hq e
    apply Classical.byContradiction
    intro hn
    refine hc ⟨p, hp, ?_⟩
    have hm : (q.1, q.2) ∈ zbz l old := mem_minus.2 ⟨hq, hn⟩
    rw [← e, (zbc (nodup_sub nl (minus_sub old l))).2 hm]
    rfl
  by_cases h1 : ∀ p ∈ old, p ∈ l
  ·rw [if_neg (fun h => (e1.1 h) h1)]
   by_cases h2 : ∀ p ∈ new, ∀ q ∈ l, q.1 = p.1 → q.1 ∈ old.map (·.1)
   ·rw [if_neg (fun h => (e2.1 h) h2)]
    by_cases h3 : 16 < (zbz l old ++ new).length
    ·rw [if_pos h3]
     constructor
     ·intro e; cases e
     ·rintro ⟨_, _, _, h⟩; omega
    ·rw [if_neg h3]
     exact ⟨fun _ => ⟨h0', h1, h2, by omega⟩, fun _ => rfl⟩
   ·rw [if_pos (e2.2 h2)]
    constructor
    ·intro e; cases e
    ·rintro ⟨_, _, h, _⟩; exact absurd h h2
  ·rw [if_pos (e1.2 h1)]
   constructor
   ·intro e; cases e
   ·rintro ⟨_, h, _⟩; exact absurd h h1
 ·rw [if_pos h0]
  constructor
  ·intro e; exact absurd e h0
  ·rintro ⟨h, _⟩; exact absurd (firstBad_three.2 h) h0
theorem zbU {l old new : List zab} (h : zbS l old new = 0) : ((zbz l old ++ new).map (·.1)).Nodup := by
 obtain ⟨⟨h1, _, h3⟩, _, h5, _⟩ := patchE_zero.1 h
 refine nodup_append (nodup_sub (checkPs_iff.1 h1).2.2.nodup (minus_sub _ _)) (checkPs_iff.1 h3).2.2.nodup (fun p hp q hq e => ?_)
 obtain ⟨h6, h7⟩ := mem_minus.1 hp
 exact h7 (h5 q hq p h6 e)
theorem patch_back {l old new R : List zab} (h : zbS l old new = 0) (hR : IsSort R (zbz l old ++ new)) : zaN R = 0 ∧ zbS R new old = 0 ∧ ∀ R', IsSort R' (zbz R new ++ old) → R' = l := by
 have hnd := zbU h
 obtain ⟨⟨h1, h2, h3⟩, h4, h5, h6⟩ := patchE_zero.1 h
 obtain ⟨a1, a2, a3⟩ := checkPs_iff.1 h1
 obtain ⟨b1, b2, b3⟩ := checkPs_iff.1 h2
 obtain ⟨c1, c2, c3⟩ := checkPs_iff.1 h3
 have hmem : ∀ p, p ∈ R ↔ (p ∈ l ∧ p.1 ∉ old.map (·.1)) ∨ p ∈ new := fun p => by rw [hR.1.mem_iff, List.mem_append, mem_minus]
 have hRc : zaN R = 0 := checkPs_iff.2 ⟨by rw [hR.1.length_eq]; exact h6, fun p hp => by
  rcases (hmem p).1 hp with ⟨hp, _⟩ | hp
  ·exact a2 p hp
  ·exact c2 p hp, hR.2⟩
 have hkey : ∀ p ∈ old, ∀ q ∈ R, q.1 = p.1 → q.1 ∈ new.map (·.1) := by
  intro p hp q hq e
  rcases (hmem q).1 hq with ⟨_, hq⟩ | hq
  ·exact absurd (List.mem_map.2 ⟨p, hp, e.symm⟩) hq
  ·exact List.mem_map.2 ⟨q, hq, rfl⟩
 have hm2 : ∀ p, p ∈ zbz R new ++ old ↔ p ∈ l := by
  intro p
  rw [List.mem_append, mem_minus, hmem]
  constructor
  ·rintro (⟨⟨hp, _⟩ | hp, hn⟩ | hp)
   ·exact hp
   ·exact absurd (List.mem_map.2 ⟨p, hp, rfl⟩) hn
   ·exact h4 p hp
  ·intro hp
   by_cases ho : p.1 ∈ old.map (·.1)
   ·obtain ⟨q, hq, e⟩ := List.mem_map.1 ho
    have := key_one a3.nodup (h4 q hq) hp e
    exact Or.inr (this ▸ hq)
   ·refine Or.inl ⟨Or.inl ⟨hp, ho⟩, fun hn => ?_⟩
    obtain ⟨q, hq, e⟩ := List.mem_map.1 hn
    exact ho (h5 q hq p hp e.symm)
 have hnd2 : ((zbz R new ++ old).map (·.1)).Nodup := by
  refine nodup_append (nodup_sub hR.2.nodup (minus_sub _ _)) b3.nodup (fun p hp q hq e => ?_)
  obtain ⟨h7, h8⟩ := mem_minus.1 hp
  exact h8 (hkey q hq p h7 e)
 have hperm := perm_of_mem hnd2 a3.nodup hm2
 refine ⟨hRc, patchE_zero.2 ⟨⟨hRc, h3, h2⟩, fun p hp => (hmem p).2 (Or.inr hp), hkey, ?_⟩, fun R' hR' => up_unique (hR'.1.trans hperm) hR'.2 a3⟩
 rw [hperm.length_eq]
 exact a1
end Go.Proofs.YtbhbekocmpmjfaaGreatDoor
/- BEHIND AN OPERATION all leaves say what they said, where no text and no node was put in, taken out, or moved; and a tree may be; plain. -/
namespace Go.Proofs.YtbhbekocmpmjfaaGreatDoor
open Go Go.RowKit
theorem T.setAt_cons (y t : T) (i : Int) (r : List Int) : T.setAt y t (i :: r) = t.kids (t.ks.set i.toNat (T.setAt y (t.ks.getD i.toNat default) r)) := rfl
theorem isSort_ex : ∀ (ms : List zab), (ms.map (·.1)).Nodup → ∃ R, IsSort R ms
 | [], _ => ⟨[], List.Perm.refl _, List.Pairwise.nil⟩
 | p :: ms, h => by
  rw [List.map_cons, List.nodup_cons] at h
  obtain ⟨R, hp, hu⟩ := isSort_ex ms h.2
  have hne : ∀ q ∈ R, q.1 ≠ p.1 := fun q hq e => h.1 (e ▸ List.mem_map_of_mem (f := fun x : zab => x.1) (hp.subset hq))
  have hdec : ∀ q : zab, Decidable (ltS q.1 p.1) := fun q => Classical.propDecidable _
  refine ⟨R.filter (fun q => @decide (ltS q.1 p.1) (hdec q)) ++ p :: R.filter (fun q => !(@decide (ltS q.1 p.1) (hdec q))), ?_, ?_⟩
  ·refine List.perm_middle.trans (List.Perm.cons p ?_)
   exact (List.filter_append_perm _ R).trans hp
  ·refine List.pairwise_append.2 ⟨hu.filter _, List.pairwise_cons.2 ⟨fun q hq => ?_, hu.filter _⟩, fun q hq r hr => ?_⟩
   ·rw [List.mem_filter] at hq
    rcases ltS_tri p.1 q.1 with h1 | h1 | h1
    ·exact h1
    ·exact absurd h1.symm (hne q hq.1)
    ·simp [h1] at hq
   ·rw [List.mem_filter] at hq
    have h1 : ltS q.1 p.1 := by simpa using hq.2
    rcases List.mem_cons.1 hr with rfl | hr
    ·exact h1
    ·rw [List.mem_filter] at hr
     rcases ltS_tri p.1 r.1 with h2 | h2 | h2
     ·exact zbv h1 h2
     ·exact h2 ▸ h1
     ·simp [h2] at hr
theorem patchT_chk {l old new : List zab} (h : (zbT l old new).2 = 0) : zaN (zbT l old new).1 = 0 ∧ zbS l old new = 0 ∧ (zbT (zbT l old new).1 new old) = (l, 0) := by
 have h0 : zbS l old new = 0 := h
 have hR : IsSort (zbT l old new).1 (zbz l old ++ new) := by
  have : ∃ R, IsSort R (zbz l old ++ new) := isSort_ex _ (zbU h0)
  unfold zbT
  rw [if_pos h0]
  exact Classical.epsilon_spec (p := fun R => IsSort R (zbz l old ++ new)) this
 obtain ⟨h1, h2, h3⟩ := patch_back h0 hR
 refine ⟨h1, h0, ?_⟩
 have hR' : IsSort (zbT (zbT l old new).1 new old).1 (zbz (zbT l old new).1 new ++ old) := by
  have : ∃ R, IsSort R (zbz (zbT l old new).1 new ++ old) := isSort_ex _ (zbU h2)
  show IsSort (if zbS (zbT l old new).1 new old = 0 then _ else []) _
  rw [if_pos h2]
  exact Classical.epsilon_spec (p := fun R => IsSort R (zbz (zbT l old new).1 new ++ old)) this
 exact Prod.ext (h3 _ hR') h2
end Go.Proofs.YtbhbekocmpmjfaaGreatDoor
/- WHERE A NODE STANDS behind a tree was changed at a path; plain. -/
namespace Go.Proofs.YtbhbekocmpmjfaaGreatDoor
open Go Go.RowKit
def T.data (t : T) : T := t.kids []
theorem T.at_go {t : T} {i : Int} {r : List Int} (h0 : 0 ≤ i) (h1 : i < t.ks.length) : t.at (i :: r) = (t.ks.getD i.toNat default).at r := by rw [T.at, if_neg (by omega)]
theorem T.at_of {t y : T} {i : Int} {r : List Int} (h : t.at (i :: r) = some y) : 0 ≤ i ∧ i < t.ks.length ∧ (t.ks.getD i.toNat default).at r = some y := by
 rw [T.at] at h
 split at h
 ·cases h
 ·exact ⟨by omega, by omega, h⟩
theorem T.at_on {z x u : T} {up : List Int} (h : x.at up = some u) (r : List Int) : (T.setAt z x up).at (up ++ r) = z.at r := by
 rw [T.at_both, T.at_setAt h]; rfl
theorem T.at_up {x u : T} {up : List Int} (h : x.at up = some u) (r : List Int) : x.at (up ++ r) = u.at r := by
 rw [T.at_both, h]; rfl
theorem wrap64_near {j : Int} (h0 : -4611686018427387904 ≤ j) (h1 : j ≤ 4611686018427387904) : wrap64 j = j := by
 unfold wrap64
 omega
end Go.Proofs.YtbhbekocmpmjfaaGreatDoor
/- A POINT THAT STAYS, by an operation that was done, is in the tree behind it; plain. -/
namespace Go.Proofs.YtbhbekocmpmjfaaGreatDoor
open Go Go.RowKit
end Go.Proofs.YtbhbekocmpmjfaaGreatDoor
/- AN OPERATION'S INVERSE can be done, and restores tree and selection; plain. -/
namespace Go.Proofs.YtbhbekocmpmjfaaGreatDoor
open Go Go.RowKit
def inF (k c : Int) : Prop := ∃ fs, hasL k = some fs ∧ c ∈ fs
theorem form_iff {o : OpE} : za6 o = 0 ↔ (∃ fs, hasL o.kind = some fs) ∧ (o.path ≠ [] → inF o.kind 112) ∧ (o.dest ≠ [] → inF o.kind 116) ∧ (o.pos ≠ 0 → inF o.kind 97) ∧ (o.node ≠ T.zero → inF o.kind 110) ∧ (o.old ≠ [] → inF o.kind 111) ∧ (o.new ≠ [] → inF o.kind 119) ∧ (o.text ≠ [] → inF o.kind 120) ∧ (zcr o.src SelE.nil = false → inF o.kind 115) ∧ (zcr o.dst SelE.nil = false → inF o.kind 115) := by
 unfold za6 inF
 cases hf : hasL o.kind with
 | none => simp
 | some fs =>
  simp only [Option.some.injEq, exists_eq_left']
  have hall : ((setE o).all (fun c => decide (c ∈ fs)) = true) ↔ ∀ c ∈ setE o, c ∈ fs := by
   rw [List.all_eq_true]; simp
  have hmem : (∀ c ∈ setE o, c ∈ fs) ↔ ∀ x ∈ za0 o, x.2 = true → x.1 ∈ fs := by
   unfold setE setOf
   constructor
   ·intro h x hx h2
    exact h x.1 (List.mem_map.2 ⟨x, List.mem_filter.2 ⟨hx, h2⟩, rfl⟩)
   ·intro h c hc
    obtain ⟨x, hx, rfl⟩ := List.mem_map.1 hc
    obtain ⟨h1, h2⟩ := List.mem_filter.1 hx
    exact h x h1 h2
  have hp : ∀ {α : Type} (l : List α), 0 < l.length ↔ l ≠ [] := fun l => by cases l <;> simp
  have key : (∀ x ∈ za0 o, x.2 = true → x.1 ∈ fs) ↔ ((o.path ≠ [] → 112 ∈ fs) ∧ (o.dest ≠ [] → 116 ∈ fs) ∧ (o.pos ≠ 0 → 97 ∈ fs) ∧ (o.node ≠ T.zero → 110 ∈ fs) ∧ (o.old ≠ [] → 111 ∈ fs) ∧ (o.new ≠ [] → 119 ∈ fs) ∧ (o.text ≠ [] → 120 ∈ fs) ∧ (zcr o.src SelE.nil = false → 115 ∈ fs) ∧ (zcr o.dst SelE.nil = false → 115 ∈ fs)) := by
   unfold za0
   simp only [List.forall_mem_cons, decide_eq_true_eq, hp, List.not_mem_nil, false_implies, implies_true, and_true, Bool.not_eq_true']
  split
  ·rename_i h
   rw [hall, hmem, key] at h
   exact ⟨fun _ => ⟨⟨fs, rfl⟩, h⟩, fun _ => rfl⟩
  ·rename_i h
   rw [hall, hmem, key] at h
   exact ⟨fun h' => (by cases h'), fun h' => absurd h'.2 h⟩
structure Undo (o b : OpE) : Prop where
 inv : invT o = (b, 0)
 back : invT b = (o, 0)
 form : za6 b = 0
 kind : b.kind = zcJ o.kind
 pos : b.pos = o.pos
 node : b.node = o.node
 old : b.old = o.new
 new : b.new = o.old
 text : b.text = o.text
 src : b.src = o.dst
 dst : b.dst = o.src
theorem shaped_cut {n : T} {o : OpE} {r k : T} (h : o.kind = 2 ∨ o.kind = 3 ∨ o.kind = 4 ∨ o.kind = 5) (hp : o.kind = 4 → zaN o.new = 0) (ha : cutT n o.path = (r, k, 0)) : zcv n o = if o.kind = 2 then (if k = o.node then (r, 0) else (T.nilT, 9)) else if o.kind = 3 then zbx r k o else if o.kind = 4 then zcz r k o else addT r o.dest k := by
 unfold zcv
 rw [if_neg (by omega), if_neg (by rintro ⟨h1, h2⟩; exact h2 (hp h1)), ha, if_neg (by rintro ⟨_, h2⟩; exact h2 rfl)]
 simp only
 rcases h with h | h | h | h <;> simp [h]
theorem T.tsm (a : Bool) (b : List zab) (c : List Int) (d : List T) : (T.mk a b c d).ts = c := rfl
theorem may_of {n : T} {s : SelE} {o : OpE} (h1 : n.chk = 0) (h2 : n.lf = false) (h3 : zaQ n s = 0) (h4 : za6 o = 0) : mayT n s o = 0 := by
 unfold mayT; rw [if_neg (fun h => h h1), if_neg (by rw [h2]; decide), if_neg (fun h => h h3), h4]
end Go.Proofs.YtbhbekocmpmjfaaGreatDoor
/- redlinelaw12.live: the contract. -/
namespace Go.Proofs.YtbhbekocmpmjfaaGreatDoor
open Go Go.RowKit
theorem runes_abc : zcp { data := #[97, 98, 99] } = [97, 98, 99] := by kernel_rfl
def exN : T := .mk false [(typeKey, { data := #[112] })] [] [.mk true [] [97, 98, 99] []]
def exA : T := .mk false [(typeKey, { data := #[112] })] [] [.mk true [] [97] [], .mk true [] [98, 99] []]
def exO : OpE := OpE.of 4 [0] [] 1 T.zero []
theorem ex_form : za6 exO = 0 := by
 rw [form_iff]
 refine ⟨⟨_, rfl⟩, fun _ => ⟨_, rfl, by decide⟩, fun h => absurd rfl h, fun _ => ⟨_, rfl, by decide⟩, fun h => absurd rfl h, fun h => absurd rfl h, fun h => absurd rfl h, fun h => absurd rfl h, fun h => ?_, fun h => ?_⟩
 ·exact absurd (show zcr SelE.nil SelE.nil = true from rfl) (by rw [show zcr SelE.nil SelE.nil = false from h]; decide)
 ·exact absurd (show zcr SelE.nil SelE.nil = true from rfl) (by rw [show zcr SelE.nil SelE.nil = false from h]; decide)
theorem ex_chk : exN.chk = 0 := by kernel_rfl
theorem ex_cut : cutT exN [0] = (T.mk false [(typeKey, { data := #[112] })] [] [], .mk true [] [97, 98, 99] [], 0) := by kernel_rfl
theorem ex_split : zcz (T.mk false [(typeKey, { data := #[112] })] [] []) (.mk true [] [97, 98, 99] []) exO = (exA, 0) := by kernel_rfl
theorem ex_apply : zai exN SelE.nil exO = (exA, SelE.nil, 0) := by
 have hs : zcv exN exO = (exA, 0) := by
  rw [shaped_cut (o := exO) (.inr (.inr (.inl rfl))) (fun _ => rfl) ex_cut]
  exact ex_split
 unfold zai
 rw [if_neg (fun h => h (may_of ex_chk rfl rfl ex_form)), if_neg (show ¬ exO.kind = 9 by decide), hs, if_neg (by simp), if_neg (show ¬ (staysT SelE.nil exO = false) by rw [show staysT SelE.nil exO = true from rfl]; decide)]
theorem opL_in {w : World} {a : Option Addr} {c : Nat} {p : List Int} {k pos : Int} (h : IntsIn w 0 w.heap.size a c p) : (OpL.of k ⟨a, c, p⟩ PN.nil pos NT.zero none 0 []).In w 0 w.heap.size :=
 ⟨⟨h, zbl⟩, NT.zero_in, zb0, zb0, zco, zcs, zcs⟩
theorem exO_er (a : Option Addr) (c : Nat) : (OpL.of 4 ⟨a, c, [0]⟩ PN.nil 1 NT.zero none 0 []).er = exO := by rw [OpL.of_er, NT.zero_er]; rfl
theorem ex_few : fewE exN SelE.nil exO = true := by kernel_rfl
theorem two_there {w W : World} {tA tB : TypeId} (hW : (w.alloc (.cells NT.nil.cells4.toArray tA)).alloc (.cells SelL.nil.cells.toArray tB) = W) : W.there w.heap.size 0 4 ∧ W.there (w.heap.size + 1) 0 5 := by
 obtain ⟨_, _, t1, _, t2, _⟩ := zaq w NT.nil.cells4 SelL.nil.cells tA tB W hW
 exact ⟨t1, t2⟩
def XB (b : Nat) (x : NT) (t : SelL) (wz : World) : Prop := wz.rangeAt b 0 x.cells4 ∧ wz.rangeAt (b + 1) 0 t.cells ∧ b + 2 ≤ wz.heap.size
theorem XB.grew {b : Nat} {wz w' : World} {x : NT} {t : SelL} (h : XB b x t wz) (g : Grew wz w') : XB b x t w' := by
 obtain ⟨h1, h2, h3⟩ := h
 exact ⟨zb5 h1 g (by omega), zb5 h2 g (by omega), Nat.le_trans h3 g.size⟩
theorem XB.x {b : Nat} {wz : World} {n : NT} {t : SelL} (h : XB b n t wz) : wz.cell? ⟨b, 0, none⟩ = some (.bool n.lf) ∧ wz.cell? ⟨b, 1, none⟩ = some (.slice n.pa n.ps.length n.pc) ∧ wz.cell? ⟨b, 2, none⟩ = some (.slice n.ta n.ts.length n.tc) ∧ wz.cell? ⟨b, 3, none⟩ = some (.slice n.ka n.ks.length n.kc) := by
 have h := NT.cells4_at.1 h.1
 unfold NodeAt at h
 simp only [Nat.zero_add] at h
 exact h
theorem XB.t {b : Nat} {wz : World} {n : NT} {s : SelL} (h : XB b n s wz) : wz.cell? ⟨b + 1, 0, none⟩ = some (.bool s.is) ∧ wz.cell? ⟨b + 1, 1, none⟩ = some (.slice s.a.p.a s.a.p.l.length s.a.p.c) ∧ wz.cell? ⟨b + 1, 2, none⟩ = some (.int .i64 s.a.o) ∧ wz.cell? ⟨b + 1, 3, none⟩ = some (.slice s.f.p.a s.f.p.l.length s.f.p.c) ∧ wz.cell? ⟨b + 1, 4, none⟩ = some (.int .i64 s.f.o) :=
 ⟨zb4 h.2.1 (j := 0) rfl, zb4 h.2.1 (j := 1) rfl, zb4 h.2.1 (j := 2) rfl, zb4 h.2.1 (j := 3) rfl, zb4 h.2.1 (j := 4) rfl⟩
theorem put2_new {w W wa wb : World} {x : NT} {t : SelL} {tA tB : TypeId} (hW : (w.alloc (.cells NT.nil.cells4.toArray tA)).alloc (.cells SelL.nil.cells.toArray tB) = W) (ha : W.setCells w.heap.size 0 x.cells4 = wa) (hb : wa.setCells (w.heap.size + 1) 0 t.cells = wb) : Grew w wb ∧ XB w.heap.size x t wb := by
 obtain ⟨g1, _, t1, _, t2, z1⟩ := zaq w NT.nil.cells4 SelL.nil.cells tA tB W hW
 have k1 : Keeps (· = w.heap.size) W wa := by rw [← ha]; exact zct _ x.cells4 0 W
 have k2 : Keeps (· = w.heap.size + 1) wa wb := by rw [← hb]; exact zct _ t.cells 0 wa
 have r1 : wa.rangeAt w.heap.size 0 x.cells4 := by rw [← ha]; exact zb7 t1
 have r2 : wb.rangeAt (w.heap.size + 1) 0 t.cells := by rw [← hb]; exact zb7 (by rw [← ha]; exact World.there_setCells t2 _ _ _)
 have s1 := k1.size
 have s2 := k2.size
 exact ⟨(g1.keep k1 (fun j hj => by have : j = w.heap.size := hj; omega)).keep k2 (fun j hj => by have : j = w.heap.size + 1 := hj; omega), zb6 r1 k2 (by omega) (by show ¬ (_ = _); omega), r2, by omega⟩
theorem apply12 {n : NT} {s : SelL} {o : OpL} {w : World} (h : fewE n.er s.er o.er = true) (hf : Fit n s o w) : Calls Tryz.prog 15 #[n.val, s.val, o.val] w (RetApply (zai n.er s.er o.er) w) := by
 obtain ⟨h1, h2, h3⟩ := fewE_parts h
 obtain ⟨ht, hp, hd⟩ := fewOp_tiny h3
 obtain ⟨ha, hb⟩ := fewSel_small h2
 have := few_bulk h1
 exact apply_any n s o w hf.hn hf.hs hf.ho (by omega) ht ha hb hp hd
set_option maxRecDepth 100000 in
set_option maxHeartbeats 4000000 in
theorem live12_any (w : World) : Calls Tryz.prog 13 #[] w fun e w' => e = .returned (.bool true) ∧ Grew w w' := by
 have LA := Lib.hid (leaf_any { data := #[97] } (by decide) none 0 [])
 have LB := Lib.hid (leaf_any { data := #[98, 99] } (by decide) none 0 [])
 have LC := Lib.hid (leaf_any { data := #[97, 98, 99] } (by decide) none 0 [])
 go_enter Tryz.func13, Tryz.ntmps13
 go_wp2_with fail
 refine (LC.out _ zb0).mono ?_
 rintro e w1 ⟨x, rfl, g1, ok1, E1⟩
 unfold NT.val
 have EL := Lib.hid (elem_any { data := #[112] } (some ⟨w1.heap.size, 0, none⟩) 1 [x] _ ((kidsIn_one (t := 26) ok1).mono (Nat.le_refl _) (by simp)))
 clear ok1
 go_wp2_with fail
 refine EL.out.mono ?_
 rintro e w2 ⟨y, rfl, g2, ok2, E2⟩
 have hy : y.er = exN := by
  rw [E2.out, List.map_cons, List.map_nil, E1.out, runes_abc, p_filled]; rfl
 have G2 := Lib.hid (g1.trans ((Grew.alloc1 _ _).trans g2))
 have AP := Lib.hid (fun w3 (g : Grew w2 w3) => apply12 (n := y) (s := SelL.nil) (o := OpL.of 4 ⟨some ⟨w3.heap.size, 0, none⟩, 1, [0]⟩ PN.nil 1 NT.zero none 0 []) (w := w3.alloc (.cells #[.int .i64 0] 3)) (by rw [hy, exO_er]; exact ex_few) ⟨NT.Ok.grew ok2 (g.trans (Grew.alloc1 _ _)), zcs, opL_in ((zcj (n := 1) (cp := 1) (k := 1) (f := fun i _ => .int .i64 ([0].getD i 0)) (Nat.le_refl _) (by unfold maxLen; omega) (fun i hi j hj => by
  obtain rfl : j = 0 := by omega
  obtain rfl : i = 0 := by omega
  rfl)).mono (Nat.zero_le _) (by simp)), by rw [hy]; decide, by show NT.zero.er.bulk ≤ _; rw [NT.zero_er]; decide, by show 1 + zbY [] ≤ _; decide, by show 1 + zbY [] ≤ _; decide⟩)
 rw [hy, show SelL.nil.er = SelE.nil from rfl] at AP
 simp only [exO_er, ex_apply] at AP
 have AP2 := Lib.hid (AP.out w2 (Grew.refl _))
 unfold NT.val SelL.val OpL.val at AP2
 clear AP E1 E2 g1 g2 ok2 hy EL LC
 unfold NT.val
 go_wp2_with fail
 refine AP2.out.mono ?_
 rintro e w4 ⟨x, t, rfl, g4, hx, ht, hxe, hte⟩
 have G4 := Lib.hid (G2.out.trans ((Grew.alloc1 _ _).trans g4))
 have HX4 : Hid (x.Ok w4) := hx.mono (Nat.zero_le _) (Nat.le_refl _)
 have HXE : Hid (x.er = exA) := hxe.out
 clear AP2 G2 hx ht hxe hte g4
 unfold NT.val SelL.val
 go_upto_region 2 with (first | (show wpList _ _ _ (Oper.mk none (Op.store 26 (.tmp 1) (.tmp 12)) _ _ _ _ :: _) _ _; generalize hW : World.alloc (World.alloc w4 _) _ = wW; obtain ⟨tX, tY⟩ := two_there hW; refine wpList_store_mid rfl 26 (.tmp 1) (.tmp 12) rfl w4.heap.size 0 x.cells4.toArray rfl rfl tX zbf (NT.cells4_all _) ?_; generalize hA : World.setCells wW _ _ _ = wa; have tZ : wa.there (w4.heap.size + 1) 0 5 := (by rw [← hA]; exact World.there_setCells tY _ _ _)) | (show wpList _ _ _ (Oper.mk none (Op.store 33 (.tmp 2) (.tmp 13)) _ _ _ _ :: _) _ _; refine wpList_store_mid rfl 33 (.tmp 2) (.tmp 13) rfl (w4.heap.size + 1) 0 t.cells.toArray rfl rfl tZ zbi (all_oneCell_toArray t.cells_one) ?_; generalize hB : World.setCells wa _ _ _ = wb))
 obtain ⟨g5, hXB⟩ := put2_new hW hA hB
 clear hW hA hB tX tY tZ
 have G5 := Lib.hid (G4.out.trans g5)
 have HX5 := Lib.hid (NT.Ok.grew HX4.out g5)
 clear g5 HX4 G4
 have KB := fun w' (g : Grew wb w') => (((hXB.grew g).x) : w'.cell? ⟨w4.heap.size, 0, none⟩ = some (.bool x.lf) ∧ w'.cell? ⟨w4.heap.size, 1, none⟩ = some (.slice x.pa x.ps.length x.pc) ∧ w'.cell? ⟨w4.heap.size, 2, none⟩ = some (.slice x.ta x.ts.length x.tc) ∧ w'.cell? ⟨w4.heap.size, 3, none⟩ = some (.slice x.ka x.ks.length x.kc))
 clear hXB
 generalize w4.heap.size = b7 at *
 have g50 : Grew wb wb.drew := (Grew.refl _).drew
 have RS := Lib.hid (fun (z : NT) (hz : z.er = exA) w1 (hzk : z.Ok w1) (g : Grew wb w1) => refSame04_any x z w1 (NT.Ok.grew HX5.out g) hzk (by rw [HXE.out]; decide) (by rw [hz]; decide))
 unfold NT.val at LA LB RS
 go_region_held3 (fun w' => Grew wb w') ((first | with_reducible exact g50 | with_reducible assumption | exact Grew.trans (by with_reducible assumption) (Grew.alloc1 _ _)))
  ((first | (go_at_call 62; first | (refine (LB.out wA zb0).mono ?_; rintro e wB ⟨y2, rfl, gB, okB, EB⟩; have hB : Grew wb wB := hA.trans gB) | (refine (LA.out wb.drew zb0).mono ?_; rintro e wA ⟨y1, rfl, gA, okA, EA⟩; have hA : Grew wb wA := g50.trans gA)) | (go_at_call 61; refine (elem_any { data := #[112] } (some ⟨wB.heap.size, 0, none⟩) 2 [y1, y2] _ ((kidsIn_two (t := 26) (NT.Ok.grew okA gB) okB).mono (Nat.le_refl _) (by simp))).mono ?_; rintro e wC ⟨u, rfl, gC, okC, EC⟩; have hC : Grew wb wC := hB.trans ((Grew.alloc1 _ _).trans gC)) | (go_at_call 16; refine (RS.out u (by rw [EC.out, List.map_cons, List.map_cons, EA.out, EB.out, runes_a, runes_bc, p_filled]; rfl) wC okC hC).mono ?_; rintro e wD ⟨rfl, gD⟩; have hD : Grew wb wD := hC.trans gD; have t9 : decide (x.er = u.er) = true := decide_eq_true (by rw [HXE.out, EC.out, List.map_cons, List.map_cons, EA.out, EB.out, runes_a, runes_bc, p_filled]; rfl))))
 all_goals
  go_wp2_with fail
  go_ret
  exact ⟨zch rfl, G5.out.trans hD⟩
end Go.Proofs.YtbhbekocmpmjfaaGreatDoor
/- BEHIND AN OPERATION a tree's bulk; plain. -/
namespace Go.Proofs.YtbhbekocmpmjfaaGreatDoor
open Go Go.RowKit
theorem T.bulkAll_put (k : T) : ∀ (l : List T) (i : Nat), i < l.length → T.bulkAll (l.set i k) + (l.getD i default).bulk = T.bulkAll l + k.bulk
 | [], _, h => absurd h (Nat.not_lt_zero _)
 | x :: r, 0, _ => by simp only [List.set_cons_zero, T.bulkAll, List.getD_cons_zero]; omega
 | x :: r, i + 1, h => by
  have := T.bulkAll_put k r i (by simpa using h)
  simp only [List.set_cons_succ, T.bulkAll, List.getD_cons_succ]; omega
theorem T.bulk_atSet {y y' : T} : ∀ {p : List Int} {t : T}, t.at p = some y → (T.setAt y' t p).bulk + y.bulk = t.bulk + y'.bulk := by
 intro p
 induction p with
 | nil =>
  intro t h
  injection h with h
  subst h
  show y'.bulk + _ = _
  omega
 | cons i r ih =>
  intro t h
  rw [T.at] at h
  split at h
  ·cases h
  ·rename_i hn
   have h1 := ih h
   have h2 := T.bulkAll_put (T.setAt y' (t.ks.getD i.toNat default) r) t.ks i.toNat (by omega)
   rw [T.setAt, T.bulk, T.bulk_eq t]
   omega
theorem T.bulk_kids (u : T) (l : List T) : (u.kids l).bulk + T.bulkAll u.ks = u.bulk + T.bulkAll l := by
 rw [T.kids, T.bulk, T.bulk_eq u]; omega
theorem T.bulk_split (k : T) (i : Nat) (new : List zab) : (k.first i).bulk + (k.second i new).bulk ≤ k.bulk + 1 + zbY new := by
 have h1 : T.bulkAll (k.ks.take i) + T.bulkAll (k.ks.drop i) = T.bulkAll k.ks := by rw [← T.bulkAll_append, List.take_append_drop]
 have h2 : (k.ts.take i).length + (k.ts.drop i).length = k.ts.length := by rw [← List.length_append, List.take_append_drop]
 unfold T.first T.second
 rw [T.bulk_eq k]
 split
 ·simp only [T.bulk, T.bulkAll]; omega
 ·simp only [T.bulk, List.length_nil]; omega
theorem shaped_bulk {n : T} {o : OpE} {m : Nat} (hb : n.bulk ≤ 262144) (hm1 : o.node.bulk ≤ m) (hm2 : zbY o.new ≤ m) (hm3 : o.text.length ≤ m) (hf : za6 o = 0) (h9 : o.kind ≠ 9) (hs : (zcv n o).2 = 0) : (zcv n o).1.bulk ≤ 2 * n.bulk + m + 1 := by
 have hkk := form_kind hf
 rcases (show o.kind = 1 ∨ o.kind = 2 ∨ o.kind = 3 ∨ o.kind = 4 ∨ o.kind = 5 ∨ (o.kind = 6 ∨ o.kind = 7 ∨ o.kind = 8) by omega) with h1 | h1 | h1 | h1 | h1 | h1
 ·obtain ⟨up, i, u, a, b, _, e2, _, e3, _, _, e8⟩ := done1 hf h1 hs
  have h2 := T.bulk_atSet (y' := u.kids (a ++ o.node :: b)) e2
  have h3 := T.bulk_kids u (a ++ o.node :: b)
  rw [e3, T.bulkAll_append, T.bulkAll_append, T.bulkAll] at h3
  rw [e8]; omega
 ·obtain ⟨up, i, u, a, b, _, e2, e3, _, e8⟩ := done2 hf h1 hs
  have h2 := T.bulk_atSet (y' := u.kids (a ++ b)) e2
  have h3 := T.bulk_kids u (a ++ b)
  rw [e3, T.bulkAll_append, T.bulkAll_append, T.bulkAll] at h3
  rw [e8]; omega
 ·obtain ⟨up, i, u, x, k, a, b, _, e2, e3, _, e5, _, _, e8⟩ := done3 (by omega) hf h1 hs
  have h2 := T.bulk_atSet (y' := u.kids (a ++ x.join k :: b)) e2
  have h3 := T.bulk_kids u (a ++ x.join k :: b)
  have h4 : (x.join k).bulk ≤ x.bulk + k.bulk := by
   unfold T.join
   rw [T.bulk, T.bulk_eq x, T.bulk_eq k, T.bulkAll_append, List.length_append]; omega
  rw [e3, T.bulkAll_append, T.bulkAll_append, T.bulkAll, T.bulkAll, T.bulkAll] at h3
  rw [e8]; omega
 ·obtain ⟨up, i, u, k, a, b, _, e2, _, e3, _, _, _, _, e8⟩ := done4 hf h1 hs
  have h2 := T.bulk_atSet (y' := u.kids (a ++ k.first o.pos.toNat :: k.second o.pos.toNat o.new :: b)) e2
  have h3 := T.bulk_kids u (a ++ k.first o.pos.toNat :: k.second o.pos.toNat o.new :: b)
  have h4 := T.bulk_split k o.pos.toNat o.new
  rw [e3, T.bulkAll_append, T.bulkAll_append, T.bulkAll, T.bulkAll, T.bulkAll] at h3
  rw [e8]; omega
 ·obtain ⟨up, vp, i, j, u, v, k, r, a, b, c, d, _, e2, e3, _, er, _, f2, _, f4, _, e8⟩ := done5 hf h1 hs
  have h2 := T.bulk_atSet (y' := u.kids (a ++ b)) e2
  have h3 := T.bulk_kids u (a ++ b)
  rw [e3, T.bulkAll_append, T.bulkAll_append, T.bulkAll] at h3
  rw [← er] at h2
  have h4 := T.bulk_atSet (y' := v.kids (c ++ k :: d)) f2
  have h5 := T.bulk_kids v (c ++ k :: d)
  rw [f4, T.bulkAll_append, T.bulkAll_append, T.bulkAll] at h5
  rw [e8]; omega
 ·obtain ⟨k, k', e1, e2, e3⟩ := done6 hf h1 hs
  have h2 := T.bulk_atSet (y' := k') e1
  have hk := zas e1
  rw [T.bulk_eq k] at h2
  rcases e3 with ⟨_, _, hpt, rfl⟩ | ⟨_, _, hi, rfl⟩ | ⟨_, _, hi, rfl⟩
  ·have h3 : zbY (zbT k.ps o.old o.new).1 ≤ zbY k.ps + zbY o.new := by
    obtain ⟨_, h0, _⟩ := patchT_chk hpt
    have hR : IsSort (zbT k.ps o.old o.new).1 (zbz k.ps o.old ++ o.new) := by
     unfold zbT
     rw [if_pos h0]
     exact Classical.epsilon_spec (p := fun R => IsSort R (zbz k.ps o.old ++ o.new)) (isSort_ex _ (zbU h0))
    exact patch_bulk (.inr ⟨h0, hR⟩)
   rw [T.bulk] at h2
   rw [e2]; omega
  ·obtain ⟨_, _, _, _, h5⟩ := insert_ok hi
   have h6 := congrArg Prod.fst h5
   simp only at h6
   rw [h6] at e2
   rw [h6, T.bulk] at h2
   simp only [List.length_append, List.length_take, List.length_drop] at h2
   rw [e2]; omega
  ·obtain ⟨_, _, _, h5⟩ := remove_ok hi
   have h6 := congrArg Prod.fst h5
   simp only at h6
   rw [h6] at e2
   rw [h6, T.bulk] at h2
   simp only [List.length_append, List.length_take, List.length_drop] at h2
   rw [e2]; omega
theorem apply_bulk2 {n : T} {s : SelE} {o : OpE} {m : Nat} (hb : n.bulk ≤ 262144) (hm1 : o.node.bulk ≤ m) (hm2 : zbY o.new ≤ m) (hm3 : o.text.length ≤ m) : (zai n s o).1.bulk ≤ 2 * n.bulk + m + 1 := by
 by_cases h : (zai n s o).2.2 = 0
 ·obtain ⟨hm, h⟩ := apply_ok h
  obtain ⟨_, _, _, hf⟩ := may_ok hm
  rcases h with ⟨_, _, _, he⟩ | ⟨h9, hs, _, he⟩
  ·rw [he]; show n.bulk ≤ _; omega
  ·rw [he]; exact shaped_bulk hb hm1 hm2 hm3 hf h9 hs
 ·rw [(apply_no h).1]
  have : T.nilT.bulk = 1 := by decide
  omega
theorem apply_bulk {n : T} {s : SelE} {o : OpE} (hb : n.bulk ≤ 262144) (ht : o.Tiny) : (zai n s o).1.bulk ≤ 1048576 := by
 obtain ⟨_, ⟨_, h2⟩, h3, h4⟩ := ht
 have := apply_bulk2 (s := s) (o := o) hb h4 h2 h3
 omega
end Go.Proofs.YtbhbekocmpmjfaaGreatDoor
/- A REGION THAT DRAWS ITS ORDER: an operation taken first, its slot told: so the act can be written out again behind each, and long rows of operations stay cheap. -/
namespace Go.Proofs.YtbhbekocmpmjfaaGreatDoor
open Go
theorem zcM {P : Program} {ops : Array Oper} {Q : Exit → Act → World → Prop} {md : Region.Mode} {S : World → Prop} {need : Nat → Bool} {i : Nat} {oi : Oper} {v : Value} {fuel : Nat} {listed : Array Bool} {a : Act} {w : World} (d : Option Tmp) (hi : ops[i]? = some oi) (hd : oi.dst = d)
  (hs : Region.noSelect ops = true) (hf : Region.free md ops listed i = true) (hn : needsAll need md ops listed i = true) (hr : (Region.ready md ops listed).contains i = true)
  (hQ : ∀ c a w, Q (.panic c) (a.put d v) w → Q (.panic c) a w) (hy : YieldsIf P ops S oi v a) (hS : S w)
  (h : zcL P md ops Q S need fuel (listed.setIfInBounds i true) (a.put d v) w) : zcL P md ops Q S need (fuel + 1) listed a w := by
 subst hd
 exact zcQ hi hs hf hn hr hQ hy hS h
end Go.Proofs.YtbhbekocmpmjfaaGreatDoor
/- ONE KID OF A ROW: plain. -/
namespace Go.Proofs.YtbhbekocmpmjfaaGreatDoor
open Go Go.RowKit
theorem T.set_kid {v u z : T} {x y : List T} (hk : v.ks = x ++ u :: y) : T.setAt z v [(x.length : Int)] = v.kids (x ++ z :: y) := by
 rw [T.setAt, T.setAt, Int.toNat_natCast, hk, List.set_append_right _ _ (Nat.le_refl _), Nat.sub_self]; rfl
theorem T.setAt_kid {n v u z : T} {vp : List Int} {x y : List T} {i : Nat} (hv : n.at vp = some v) (hk : v.ks = x ++ u :: y) (hi : x.length = i) : T.setAt z n (vp ++ [(i : Int)]) = T.setAt (v.kids (x ++ z :: y)) n vp := by
 subst hi
 rw [T.setAt_append hv, T.set_kid hk]
theorem T.at_the_kid {n v u : T} {vp : List Int} {x y : List T} {i : Nat} (hv : n.at vp = some v) (hk : v.ks = x ++ u :: y) (hi : x.length = i) : n.at (vp ++ [(i : Int)]) = some u := by
 subst hi
 rw [T.at_up hv]
 exact T.at_kid hk
end Go.Proofs.YtbhbekocmpmjfaaGreatDoor
