/- redlineref01.put: the contract. -/
import Derived.Test.YtjbfimeckplcmaaDoorCmpS
import Derived.Test.YtjbfimeckplcmaaDoorClone
import Derived.Test.YtjbfimeckplcmaaDoorOwn
import Derived.Test.YtjbfimeckplcmaaDoorHas
import Derived.Laws.Cover1
namespace Go.Proofs.YtjbfimeckplcmaaDoor
open Go Go.RowKit

/-- one more property, behind what is owned -/
theorem wp_app1 {w : World} {ops : Array Oper} {rest : List Oper} {o : Oper} {a : Act} {Q : Exit → Act → World → Prop} (hgd : o.guard = none) (s x : Operand)
    (ho : o.op = .call { callee := .builtin .append, args := #[s, x], argTypes := #[22, 22] }) (base : Nat) (v : Value) (os : List PropL) (hs : a.eval s = v) (hown : w.ownsRow base 36 2 v os.length (cellsOfProps os))
    (p : PropL) (xa : Option Addr) (xc lo hi : Nat) (hx : a.eval x = .slice xa 1 xc) (hrow : RowIn w lo hi xa 1 xc 2 (fun i j => propCell ([p].getD i default) j)) (hl : os.length ≤ 4194304) (hbase : base ≤ w.heap.size)
    (h : ∀ a' c' w', w'.ownsRow base 36 2 (.slice a' (os.length + 1) c') (os ++ [p]).length (cellsOfProps (os ++ [p])) → Grew w w' ∨ w.grownBy w' v.ownBlock → w.grownBy w' v.ownBlock → wpList Tryd.prog ops Q rest (a.put o.dst (.slice a' (os.length + 1) c')) w') : wpList Tryd.prog ops Q (o :: rest) a w :=
  wpList_append_row hgd s x 22 ho base 36 Tryd.underlying22 infoPropC rfl (by decide) v os.length (cellsOfProps os) hs hown xa 1 xc lo hi _ hx hrow (cellsOfProps [p]) (cellsOfProps_len [p]) (cellsOfProps_at [p]) (cellsOfProps_one [p]) (by unfold maxLen; omega) (by omega) hbase
    (fun v' w' h1 h2 _ => by
      obtain ⟨a', c', rfl⟩ := owned_shape h1
      refine h a' c' w' ?_ (Or.inr h2) h2
      have e1 : (os ++ [p]).length = os.length + 1 := by simp
      have e2 : cellsOfProps (os ++ [p]) = cellsOfProps os ++ cellsOfProps [p] := by simp [cellsOfProps]
      rw [e1, e2]
      exact h1)
theorem props_cell1 (w : World) (p : PropL) (t : TypeId) : RowIn (w.alloc (.cells #[.string p.1, .string p.2] t)) w.heap.size (w.heap.size + 1) (some ⟨w.heap.size, 0, none⟩) 1 1 2 (fun i j => propCell ([p].getD i default) j) := by
  refine ⟨⟨by simp, by omega, by unfold maxLen; omega⟩, fun _ => ⟨w.heap.size, 0, rfl, Nat.le_refl _, by omega, fun i hi j hj => ?_⟩⟩
  obtain rfl : i = 0 := by omega
  match j, hj with
  | 0, _ => exact World.cell?_alloc_new _ _ _ _
  | 1, _ => exact World.cell?_alloc_new _ _ _ _

theorem put_tests (x p : ByteArray) : (Op.bytesLess x.toList p.toList = true ∧ Op.bytesLess p.toList x.toList = false) ∨ (Op.bytesLess x.toList p.toList = false ∧ (x.toList == p.toList) = true ∧ Op.bytesLess p.toList x.toList = false) ∨ (Op.bytesLess x.toList p.toList = false ∧ (x.toList == p.toList) = false ∧ Op.bytesLess p.toList x.toList = true) := by
  have n1 : ∀ a b : ByteArray, ¬ ltS a b → Op.bytesLess a.toList b.toList = false := fun a b h => by
    rw [← Bool.not_eq_true, bytesLess_ltS]; exact h
  rcases ltS_tri x p with h | h | h
  · exact Or.inl ⟨(bytesLess_ltS _ _).2 h, n1 _ _ (fun k => ltS_irrefl _ (ltS_trans h k))⟩
  · subst h
    exact Or.inr (Or.inl ⟨n1 _ _ (ltS_irrefl _), by simp, n1 _ _ (ltS_irrefl _)⟩)
  · refine Or.inr (Or.inr ⟨n1 _ _ (fun k => ltS_irrefl _ (ltS_trans h k)), ?_, (bytesLess_ltS _ _).2 h⟩)
    rw [toList_beq, decide_eq_false_iff_not]
    intro e
    subst e
    exact ltS_irrefl _ h

/-- put to its place -/
def putT (p : PropL) : List PropL → List PropL
  | [] => [p]
  | x :: r => if Op.bytesLess p.1.toList x.1.toList = true then p :: x :: r else x :: putT p r
theorem putT_len (p : PropL) : ∀ l : List PropL, (putT p l).length = l.length + 1
  | [] => rfl
  | x :: r => by
    simp only [putT]
    split
    · simp
    · simp [putT_len p r]
/-- how far it is gone through -/
def PutAt (p : PropL) (l : List PropL) (k : Nat) (d : Bool) (o : List PropL) : Prop := if d = true then o ++ l.drop k = putT p l ∧ o.length = k + 1 else o = l.take k ∧ o ++ putT p (l.drop k) = putT p l
theorem PutAt.start (p : PropL) (l : List PropL) : PutAt p l 0 false [] := by simp [PutAt]
theorem PutAt.done {p : PropL} {l : List PropL} {k : Nat} {o : List PropL} (h : PutAt p l k true o) (hk : k < l.length) : PutAt p l (k + 1) true (o ++ [l.getD k default]) := by
  simp only [PutAt, if_true] at h ⊢
  obtain ⟨h1, h2⟩ := h
  rw [drop_cons l k hk] at h1
  exact ⟨by rw [List.append_assoc]; exact h1, by simp [h2]⟩
theorem PutAt.here {p : PropL} {l : List PropL} {k : Nat} {o : List PropL} (h : PutAt p l k false o) (hk : k < l.length) (hx : Op.bytesLess p.1.toList (l.getD k default).1.toList = true) : PutAt p l (k + 1) true (o ++ [p] ++ [l.getD k default]) := by
  simp only [PutAt, Bool.false_eq_true, if_false] at h
  obtain ⟨h1, h2⟩ := h
  rw [drop_cons l k hk] at h2
  simp only [putT, hx, if_true] at h2
  simp only [PutAt, if_true]
  refine ⟨by rw [List.append_assoc, List.append_assoc]; exact h2, ?_⟩
  rw [h1]
  simp only [List.length_append, List.length_take, List.length_cons, List.length_nil]
  omega
theorem PutAt.past {p : PropL} {l : List PropL} {k : Nat} {o : List PropL} (h : PutAt p l k false o) (hk : k < l.length) (hx : Op.bytesLess p.1.toList (l.getD k default).1.toList = false) : PutAt p l (k + 1) false (o ++ [l.getD k default]) := by
  simp only [PutAt, Bool.false_eq_true, if_false] at h ⊢
  obtain ⟨h1, h2⟩ := h
  rw [drop_cons l k hk] at h2
  simp only [putT, hx, Bool.false_eq_true, if_false] at h2
  exact ⟨by rw [h1, take_next l k hk], by rw [List.append_assoc]; exact h2⟩
theorem PutAt.len {p : PropL} {l : List PropL} {k : Nat} {d : Bool} {o : List PropL} (h : PutAt p l k d o) : o.length ≤ k + 1 := by
  cases d with
  | true => exact Nat.le_of_eq h.2
  | false =>
    have := h.1
    rw [this, List.length_take]; omega
theorem PutAt.end_done {p : PropL} {l o : List PropL} (h : PutAt p l l.length true o) : o = putT p l := by
  have := h.1
  simpa using this
theorem PutAt.end_not {p : PropL} {l o : List PropL} (h : PutAt p l l.length false o) : o ++ [p] = putT p l := by
  have := h.2
  simpa [putT] using this

set_option maxHeartbeats 2000000 in
theorem refPut_any (l : List PropL) (la : Option Addr) (lc : Nat) (p : PropL) (w : World) (hl : PropsIn w 0 w.heap.size la lc l) (hlen : l.length ≤ 2097152) :
    Calls Tryd.prog 33 #[.slice la l.length lc, .agg #[.string p.1, .string p.2]] w fun e w' => ∃ a c, e = .returned (.slice a (putT p l).length c) ∧ Grew w w' ∧ PropsIn w' 0 w'.heap.size a c (putT p l) := by
  have hpl := putT_len p l
  go_enter Tryd.func33, Tryd.ntmps33
  go_wp2_with fail
  have hg1 := Grew.alloc1 w (Obj.cells #[.string p.1, .string p.2] 36)
  have HB := Lib.hid (fun w' (hg : Grew (w.alloc (Obj.cells #[.string p.1, .string p.2] 36)) w') => pbox hg)
  have hz1 : (w.alloc (Obj.cells #[.string p.1, .string p.2] 36)).heap.size = w.heap.size + 1 := by simp
  generalize w.alloc (Obj.cells #[.string p.1, .string p.2] 36) = w1 at *
  go_loopw [5, 6, 11] (fun v d i wr => ∃ (k : Nat) (dn : Bool) (o : List PropL), k ≤ l.length ∧ i = .int .i64 k ∧ d = .bool dn ∧ wr.ownsRow w1.heap.size 36 2 v o.length (cellsOfProps o) ∧ Grew w1 wr ∧ Hid (PutAt p l k dn o)) (fun _ _ i _ => l.length - (intOf i).toNat)
  case atStart => exact ⟨0, false, [], by omega, rfl, rfl, World.ownsRow_nil _ _ _ _, Grew.refl _, PutAt.start p l⟩
  case round =>
    obtain ⟨k, dn, o, hk, rfl, rfl, hown, hg, hA⟩ := hrel
    have hol := hA.out.len
    have hlo := hown.lt
    have hzr := hg.size
    by_cases hlt : k < l.length
    · obtain ⟨b, of, rfl, _, hbh, c0, c1⟩ := (hl.grew (hg1.trans hg) (Nat.le_refl _)).at hlt
      obtain ⟨d0, d1, hz⟩ := HB.out wr hg
      have HD := Lib.hid (fun (e : dn = true) => (e ▸ hA.out : PutAt p l k true o).done hlt)
      have HH := Lib.hid (fun (e : dn = false) => (e ▸ hA.out : PutAt p l k false o).here hlt)
      have HP := Lib.hid (fun (e : dn = false) => (e ▸ hA.out : PutAt p l k false o).past hlt)
      obtain ⟨va, vc, rfl⟩ := owned_shape hown
      clear hA
      generalize l.getD k default = x at *
      have HB2 := Lib.hid (HB.out (wr.alloc (Obj.cells #[.string x.1, .string x.2] 36)) (hg.trans (Grew.alloc1 _ _)))
      cases dn with
      | true =>
        have HC := Lib.hid (HD.out rfl)
        clear HD HH HP
        have hrow := props_cell1 (wr.alloc (Obj.cells #[.string x.1, .string x.2] 36)) x 36
        simp only [World.size_alloc] at hrow
        go_wp2_with (at_builtin; refine wp_app1 rfl (.tmp 28) (.tmp 30) rfl w1.heap.size (.slice va o.length vc) o rfl (ownsRow_grew hown ((Grew.alloc1 _ _).trans (Grew.alloc1 _ _))) x _ _ _ _ rfl hrow (by omega) (by simp; omega) ?_; intro a' c' w9 hown9 _ hg9)
        go_roundw
        case rel => exact ⟨k + 1, true, o ++ [x], by omega, by go_num, rfl, by simpa using hown9, (hg.trans ((Grew.alloc1 _ _).trans (Grew.alloc1 _ _))).grown hg9 (fun j hj => (hlo j hj).1), HC⟩
        case measure => simp [intOf]; omega
      | false =>
        clear HD
        rcases put_tests x.1 p.1 with ⟨b1, hx⟩ | ⟨b1, b2, hx⟩ | ⟨b1, b2, hx⟩
        · have HC := Lib.hid (HP.out rfl hx)
          clear HH HP
          have hrow := props_cell1 (wr.alloc (Obj.cells #[.string x.1, .string x.2] 36)) x 36
          simp only [World.size_alloc] at hrow
          go_wp2_with (at_builtin; refine wp_app1 rfl (.tmp 28) (.tmp 30) rfl w1.heap.size (.slice va o.length vc) o rfl (ownsRow_grew hown ((Grew.alloc1 _ _).trans (Grew.alloc1 _ _))) x _ _ _ _ rfl hrow (by omega) (by simp; omega) ?_; intro a' c' w9 hown9 _ hg9)
          go_roundw
          case rel => exact ⟨k + 1, false, o ++ [x], by omega, by go_num, rfl, by simpa using hown9, (hg.trans ((Grew.alloc1 _ _).trans (Grew.alloc1 _ _))).grown hg9 (fun j hj => (hlo j hj).1), HC⟩
          case measure => simp [intOf]; omega
        · have HC := Lib.hid (HP.out rfl hx)
          clear HH HP
          have hrow := props_cell1 (wr.alloc (Obj.cells #[.string x.1, .string x.2] 36)) x 36
          simp only [World.size_alloc] at hrow
          go_wp2_with (at_builtin; refine wp_app1 rfl (.tmp 28) (.tmp 30) rfl w1.heap.size (.slice va o.length vc) o rfl (ownsRow_grew hown ((Grew.alloc1 _ _).trans (Grew.alloc1 _ _))) x _ _ _ _ rfl hrow (by omega) (by simp; omega) ?_; intro a' c' w9 hown9 _ hg9)
          go_roundw
          case rel => exact ⟨k + 1, false, o ++ [x], by omega, by go_num, rfl, by simpa using hown9, (hg.trans ((Grew.alloc1 _ _).trans (Grew.alloc1 _ _))).grown hg9 (fun j hj => (hlo j hj).1), HC⟩
          case measure => simp [intOf]; omega
        · have HC := Lib.hid (HH.out rfl hx)
          clear HH HP
          have hrow := props_cell1 (wr.alloc (Obj.cells #[.string x.1, .string x.2] 36)) p 36
          simp only [World.size_alloc] at hrow
          have e0 : ((wr.alloc (Obj.cells #[.string x.1, .string x.2] 36)).alloc (Obj.cells #[.string p.1, .string p.2] 36)).cell? ⟨wr.heap.size, 0, none⟩ = some (.string x.1) ∧ ((wr.alloc (Obj.cells #[.string x.1, .string x.2] 36)).alloc (Obj.cells #[.string p.1, .string p.2] 36)).cell? ⟨wr.heap.size, 1, none⟩ = some (.string x.2) ∧ _ := pbox (Grew.alloc1 _ _)
          have hown8 := ownsRow_grew hown ((Grew.alloc1 wr (Obj.cells #[.string x.1, .string x.2] 36)).trans (Grew.alloc1 _ (Obj.cells #[.string p.1, .string p.2] 36)))
          have hg8 := hg.trans ((Grew.alloc1 wr (Obj.cells #[.string x.1, .string x.2] 36)).trans (Grew.alloc1 _ (Obj.cells #[.string p.1, .string p.2] 36)))
          go_wp2_with (first | (at_builtin; refine wp_app1 rfl (.tmp 24) (.tmp 26) rfl w1.heap.size (.slice va o.length vc) o rfl hown8 p _ _ _ _ rfl hrow (by omega) (by simp; omega) ?_; intro a' c' w9 hown9 _ hg9; have hkp := grownBy_keeps hg9 (O := fun j => w1.heap.size ≤ j ∧ j < wr.heap.size) (fun j hj => hlo j hj); obtain ⟨d20, d21, hz9⟩ : w9.cell? ⟨wr.heap.size, 0, none⟩ = some (.string x.1) ∧ w9.cell? ⟨wr.heap.size, 1, none⟩ = some (.string x.2) ∧ wr.heap.size + 2 ≤ w9.heap.size := ⟨(hkp.cell (p := ⟨wr.heap.size, 0, none⟩) (by simp; omega) (by simp)).trans e0.1, (hkp.cell (p := ⟨wr.heap.size, 1, none⟩) (by simp; omega) (by simp)).trans e0.2.1, by have := hkp.size; simp at this; omega⟩; have hgg9 := hg8.grown hg9 (fun j hj => (hlo j hj).1); have hrow9 := props_cell1 w9 x 36; clear e0 hkp hg9) | (at_builtin; refine wp_app1 rfl (.tmp 28) (.tmp 30) rfl w1.heap.size (.slice a' (o.length + 1) c') (o ++ [p]) rfl (by simpa using ownsRow_grew hown9 (Grew.alloc1 _ _)) x _ _ _ _ rfl hrow9 (by simp; omega) (by simp; omega) ?_; intro a5 c5 w10 hown10 _ hg10))
          go_roundw
          case rel => exact ⟨k + 1, true, o ++ [p] ++ [x], by omega, by go_num, rfl, by simpa using hown10, (hgg9.trans (Grew.alloc1 _ _)).grown hg10 (fun j hj => (hown9.lt j hj).1), HC⟩
          case measure => simp [intOf]; omega
    · obtain rfl : k = l.length := by omega
      obtain ⟨va, vc, rfl⟩ := owned_shape hown
      cases dn with
      | true =>
        have HE := Lib.hid hA.out.end_done
        go_wp2_with fail
        go_ret
        have hrow := ownRow_owned (f := fun i j => propCell (o.getD i default) j) hown (cellsOfProps_at o)
        rw [← HE.out]
        exact ⟨va, vc, rfl, hg1.trans hg, hrow.1.mono (Nat.zero_le _) (Nat.le_refl _)⟩
      | false =>
        have HE := Lib.hid hA.out.end_not
        obtain ⟨d0, d1, hz⟩ := HB.out wr hg
        have hrow := props_cell1 wr p 36
        go_wp2_with (at_builtin; refine wp_app1 rfl (.tmp 35) (.tmp 37) rfl w1.heap.size (.slice va o.length vc) o rfl (ownsRow_grew hown (Grew.alloc1 _ _)) p _ _ _ _ rfl hrow (by omega) (by simp; omega) ?_; intro a' c' w9 hown9 _ hg9)
        go_ret
        have hown9' : w9.ownsRow w1.heap.size 36 2 (.slice a' (o ++ [p]).length c') (o ++ [p]).length (cellsOfProps (o ++ [p])) := by simpa using hown9
        have hrow9 := ownRow_owned (f := fun i j => propCell ((o ++ [p]).getD i default) j) hown9' (cellsOfProps_at (o ++ [p]))
        rw [← HE.out]
        exact ⟨a', c', by simp, (hg1.trans (hg.trans (Grew.alloc1 _ _))).grown hg9 (fun j hj => by have := (hlo j hj).1; omega), hrow9.1.mono (Nat.zero_le _) (Nat.le_refl _)⟩
end Go.Proofs.YtjbfimeckplcmaaDoor
