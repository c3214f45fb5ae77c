/- cmp.Compare on strings, prop.Patch's order of properties: the contracts; sorted lists. -/
import Derived.Test.YtjbfimeckplcmaaDoorCheck01
import Derived.Test.YtjbfimeckplcmaaDoorProps
import Derived.Sort.Walk0
namespace Go.Proofs.YtjbfimeckplcmaaDoor
open Go Go.RowKit

/-- cmp.Compare of two strings -/
def cmpS (a b : ByteArray) : Int := if Op.bytesLess a.toList b.toList then -1 else if leS a b then 0 else 1

set_option maxHeartbeats 400000 in
theorem nanS_any (x : ByteArray) (w : World) : Calls Tryd.prog 38 #[.string x] w fun e w' => e = .returned (.bool false) ∧ w' = w := by
  go_enter Tryd.func38, Tryd.ntmps38
  go_wp2
  go_ret
  exact ⟨by simp, rfl⟩

set_option maxHeartbeats 1000000 in
theorem cmpS_any (x y : ByteArray) (w : World) : Calls Tryd.prog 31 #[.string x, .string y] w fun e w' => e = .returned (.int .i64 (cmpS x y)) ∧ w' = w := by
  have NA := Lib.hid (fun x w => nanS_any x w)
  cases h1 : Op.bytesLess x.toList y.toList with
  | true =>
    have HE : Hid (cmpS x y = -1) := by show _ = _; simp [cmpS, h1]
    go_enter Tryd.func31, Tryd.ntmps31
    go_wp2_with fail
    refine (NA.out _ _).mono ?_
    rintro e w1 ⟨rfl, hw⟩
    subst hw
    go_wp2_with fail
    refine (NA.out _ _).mono ?_
    rintro e w2 ⟨rfl, hw⟩
    subst hw
    go_wp2_with fail
    go_ret
    exact ⟨ret_int HE.out.symm, rfl⟩
  | false =>
    cases h2 : leS x y with
    | true =>
      have HE : Hid (cmpS x y = 0) := by show _ = _; simp [cmpS, h1, h2]
      have hx : (x.toList == y.toList) = true := by
        have := h2
        unfold leS at this
        rwa [h1, Bool.false_or] at this
      go_enter Tryd.func31, Tryd.ntmps31
      go_wp2_with fail
      refine (NA.out _ _).mono ?_
      rintro e w1 ⟨rfl, hw⟩
      subst hw
      go_wp2_with fail
      refine (NA.out _ _).mono ?_
      rintro e w2 ⟨rfl, hw⟩
      subst hw
      go_wp2_with fail
      go_ret
      exact ⟨ret_int HE.out.symm, rfl⟩
    | false =>
      have HE : Hid (cmpS x y = 1) := by show _ = _; simp [cmpS, h1, h2]
      have hx : (x.toList == y.toList) = false := by
        have := h2
        unfold leS at this
        rwa [h1, Bool.false_or] at this
      go_enter Tryd.func31, Tryd.ntmps31
      go_wp2_with fail
      refine (NA.out _ _).mono ?_
      rintro e w1 ⟨rfl, hw⟩
      subst hw
      go_wp2_with fail
      refine (NA.out _ _).mono ?_
      rintro e w2 ⟨rfl, hw⟩
      subst hw
      go_wp2_with fail
      go_ret
      exact ⟨ret_int HE.out.symm, rfl⟩

/-- the order of keys -/
def ltS (a b : ByteArray) : Prop := a.data.toList < b.data.toList
theorem bytesLess_ltS (a b : ByteArray) : Op.bytesLess a.toList b.toList = true ↔ ltS a b := by
  rw [bytesLess_eq, ByteArray.toList_eq, ByteArray.toList_eq, decide_eq_true_iff]; rfl
theorem ltS_irrefl (a : ByteArray) : ¬ ltS a a := List.lt_irrefl _
theorem ltS_trans {a b c : ByteArray} (h : ltS a b) (k : ltS b c) : ltS a c := List.lt_trans h k
theorem leS_iff (a b : ByteArray) : leS a b = true ↔ ltS a b ∨ a = b := by
  unfold leS
  rw [Bool.or_eq_true, bytesLess_ltS, toList_beq]
  simp
theorem ltS_tri (a b : ByteArray) : ltS a b ∨ a = b ∨ ltS b a := by
  rcases Classical.em (ltS a b) with h | h
  · exact Or.inl h
  · rcases Classical.em (ltS b a) with k | k
    · exact Or.inr (Or.inr k)
    · refine Or.inr (Or.inl ?_)
      have e := List.le_antisymm (List.not_lt.1 k) (List.not_lt.1 h)
      obtain ⟨⟨x⟩⟩ := a
      obtain ⟨⟨y⟩⟩ := b
      have e : x = y := e
      rw [e]
theorem not_leS (a b : ByteArray) : leS a b = false ↔ ltS b a := by
  rw [← Bool.not_eq_true, leS_iff]
  constructor
  · intro h
    rcases ltS_tri a b with h1 | h1 | h1
    · exact absurd (Or.inl h1) h
    · exact absurd (Or.inr h1) h
    · exact h1
  · rintro h (h1 | h1)
    · exact ltS_irrefl _ (ltS_trans h h1)
    · subst h1; exact ltS_irrefl _ h
/-- keys rise -/
def Up (l : List PropL) : Prop := l.Pairwise fun p q => ltS p.1 q.1
theorem Up.nodup {l : List PropL} (h : Up l) : (l.map (·.1)).Nodup := by
  unfold List.Nodup
  rw [List.pairwise_map]
  exact List.Pairwise.imp (fun {a b : PropL} (hab : ltS a.1 b.1) (e : a.1 = b.1) => ltS_irrefl b.1 (by rw [e] at hab; exact hab)) h
theorem up_of_chk : ∀ {l : List PropL} {last : ByteArray}, chkPs last l = 0 → Up l ∧ ∀ p ∈ l, ltS last p.1
  | [], _, _ => ⟨List.Pairwise.nil, fun p hp => by cases hp⟩
  | p :: r, last, h => by
    simp only [chkPs] at h
    split at h
    · split at h
      · cases h
      · rename_i h2
        obtain ⟨h3, h4⟩ := up_of_chk h
        have h5 : ltS last p.1 := (not_leS _ _).1 (by simpa using h2)
        refine ⟨List.Pairwise.cons (fun q hq => h4 q hq) h3, fun q hq => ?_⟩
        rcases List.mem_cons.1 hq with rfl | hq
        · exact h5
        · exact ltS_trans h5 (h4 q hq)
    · cases h
theorem up_of_check {l : List PropL} (h : checkPs l = 0) : Up l := by
  unfold checkPs at h
  split at h
  · cases h
  · exact (up_of_chk h).1
/-- one list is another one's, in order -/
def IsSort (R ms : List PropL) : Prop := R.Perm ms ∧ Up R
theorem up_unique : ∀ {a b : List PropL}, a.Perm b → Up a → Up b → a = b
  | [], b, h, _, _ => by rw [List.nil_perm.1 h]
  | p :: r, [], h, _, _ => absurd h.length_eq (by simp)
  | p :: r, q :: s, h, ha, hb => by
    have hp : p = q := by
      have h1 : p ∈ q :: s := h.subset List.mem_cons_self
      have h2 : q ∈ p :: r := h.symm.subset List.mem_cons_self
      rcases List.mem_cons.1 h1 with e | e
      · exact e
      · rcases List.mem_cons.1 h2 with e2 | e2
        · exact e2.symm
        · exact absurd (ltS_trans ((List.pairwise_cons.1 ha).1 q e2) ((List.pairwise_cons.1 hb).1 p e)) (ltS_irrefl _)
    subst hp
    rw [up_unique ((List.perm_cons p).1 h) (List.pairwise_cons.1 ha).2 (List.pairwise_cons.1 hb).2]
theorem IsSort.unique {R R' ms : List PropL} (h : IsSort R ms) (h' : IsSort R' ms) : R = R' := up_unique (h.1.trans h'.1.symm) h.2 h'.2
end Go.Proofs.YtjbfimeckplcmaaDoor
