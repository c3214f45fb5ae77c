/- The law redlinelaw16.ValidLeaf: the plain law, the boxes. -/
import Derived.Test.YtnkmcbhpmbjkpaaSees
import Derived.Test.YtnkmcbhpmbjkpaaFindLaws
namespace Go.Proofs.Ytnkmcbhpmbjkpaa
open Go Go.RowKit

theorem look_bare (r : RuleT) (n : T) (hk : n.ks = []) (hf : r.fill = 0) (c : Int) : ¬ 0 ≤ (lookT r n c).1 := by
  unfold lookT
  rw [hk, hf]
  repeat' split
  all_goals first | decide | simp [doingOf]
theorem findAll_bare (r : RuleT) (n : T) (hk : n.ks = []) (hf : r.fill = 0) (l : List Int) : findAll r n l = (0, 0, 0) := by
  induction l with
  | nil => rfl
  | cons c l ih => rw [findAll, if_neg (look_bare r n hk hf c), ih, ite_self]
theorem findT_bare (s : SchT) (n : T) (hk : n.ks = []) (hf : (s.ruleOf n.type).fill = 0) : findT s n = (0, 0, 0) := by
  unfold findT
  rw [findAll_bare _ _ hk hf, ite_self]
theorem validT_bare (s : SchT) (n : T) (hk : n.ks = []) : validT s n = decide ((findT s n).1 = 0) := by rw [validT_eq, hk, List.all_nil, Bool.and_true]
/-- the type of an element of a kind -/
theorem elem_type (k : ByteArray) (ks : List T) : (T.mk false (if k.toList.isEmpty then [] else [(typeKey, k)]) [] ks).type = k := by
  unfold T.type
  simp only [T.lf_mk, T.ps_mk, Bool.false_eq_true, if_false]
  cases h : k.toList.isEmpty with
  | true =>
    have : k.toList = [] := by simpa using h
    have h2 : k = .empty := by
      rw [ByteArray.toList_eq] at this
      obtain ⟨⟨x⟩⟩ := k
      simp only at this
      subst this
      rfl
    subst h2
    rfl
  | false => simp [getP]

/-- an element of a kind, without Kids -/
def elemT (k : ByteArray) : T := .mk false (if k.toList.isEmpty then [] else [(typeKey, k)]) [] []
/-- the boxes of ValidLeaf -/
def LeafBox (w : World) (s : SN) (x : NT) (b : Nat) (w' : World) : Prop := Grew w w' ∧ s.Box w.heap.size w' ∧ w.heap.size < w'.heap.size ∧ b < w'.heap.size ∧ x.Box b w'
theorem LeafBox.next {w : World} {s : SN} {x : NT} {b : Nat} {w1 w2 : World} (h : LeafBox w s x b w1) (hg : Grew w1 w2) : LeafBox w s x b w2 :=
  ⟨h.1.trans hg, h.2.1.keep (hg.keeps Noth) h.2.2.1 (fun h => h), Nat.lt_of_lt_of_le h.2.2.1 hg.size, Nat.lt_of_lt_of_le h.2.2.2.1 hg.size, h.2.2.2.2.keep (hg.keeps Noth) h.2.2.2.1 (fun h => h)⟩
theorem rule_fill (a b c d : ByteArray) (i j k : Int) (v : Value) (w : World) : (Instr.field 27 (.agg #[.string a, .int .i64 i, .string b, .int .i64 j, .string c, v, .int .i64 k, .string d]) 4).run Try.prog w = .ok (.int .i64 k) w := by kernel_rfl
end Go.Proofs.Ytnkmcbhpmbjkpaa
