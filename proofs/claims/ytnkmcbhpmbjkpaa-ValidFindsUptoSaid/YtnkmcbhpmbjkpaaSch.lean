/- SCHEMAS AS THEY LIE IN MEMORY: located rules, located schemas, their values. No program is named here. -/
import Derived.Test.YtnkmcbhpmbjkpaaRep
namespace Go.Proofs.Ytnkmcbhpmbjkpaa
open Go Go.RowKit

abbrev ActL := Int × ByteArray
abbrev PairL := ByteArray × ActL
/-- a rule as it reads -/
structure RuleT where
  ty : ByteArray
  text : ActL
  other : ActL
  kids : List PairL
  fill : Int
  ft : ByteArray
instance : Inhabited RuleT := ⟨⟨.empty, (0, .empty), (0, .empty), [], 0, .empty⟩⟩
noncomputable instance : DecidableEq RuleT := fun a b => Classical.propDecidable (a = b)
/-- a schema as it reads -/
structure SchT where
  rules : List RuleT
  els : RuleT
  order : List Int
  cap : Int

/-- a rule with the address of its Kids -/
structure RN where
  ty : ByteArray
  td : Int
  tt : ByteArray
  od : Int
  ot : ByteArray
  ka : Option Addr
  kc : Nat
  kids : List PairL
  fill : Int
  ft : ByteArray
instance : Inhabited RN := ⟨⟨.empty, 0, .empty, 0, .empty, none, 0, [], 0, .empty⟩⟩
def RN.er (r : RN) : RuleT := ⟨r.ty, (r.td, r.tt), (r.od, r.ot), r.kids, r.fill, r.ft⟩
@[simp] theorem RN.er_ty (r : RN) : r.er.ty = r.ty := rfl
@[simp] theorem RN.er_text (r : RN) : r.er.text = (r.td, r.tt) := rfl
@[simp] theorem RN.er_other (r : RN) : r.er.other = (r.od, r.ot) := rfl
@[simp] theorem RN.er_kids (r : RN) : r.er.kids = r.kids := rfl
@[simp] theorem RN.er_fill (r : RN) : r.er.fill = r.fill := rfl
@[simp] theorem RN.er_ft (r : RN) : r.er.ft = r.ft := rfl
def RN.val (r : RN) : Value := .agg #[.string r.ty, .int .i64 r.td, .string r.tt, .int .i64 r.od, .string r.ot, .slice r.ka r.kids.length r.kc, .int .i64 r.fill, .string r.ft]
def RN.cells (r : RN) : List Value := [.string r.ty, .int .i64 r.td, .string r.tt, .int .i64 r.od, .string r.ot, .slice r.ka r.kids.length r.kc, .int .i64 r.fill, .string r.ft]
def RN.cell (r : RN) (j : Nat) : Value := match j with
  | 0 => .string r.ty
  | 1 => .int .i64 r.td
  | 2 => .string r.tt
  | 3 => .int .i64 r.od
  | 4 => .string r.ot
  | 5 => .slice r.ka r.kids.length r.kc
  | 6 => .int .i64 r.fill
  | _ => .string r.ft
def pairCell (p : PairL) (j : Nat) : Value := match j with
  | 0 => .string p.1
  | 1 => .int .i64 p.2.1
  | _ => .string p.2.2
def PairsIn (w : World) (lo hi : Nat) (a : Option Addr) (c : Nat) (l : List PairL) : Prop := RowIn w lo hi a l.length c 3 (fun i j => pairCell (l.getD i default) j)
def RN.In (w : World) (lo hi : Nat) (r : RN) : Prop := PairsIn w lo hi r.ka r.kc r.kids
def RulesIn (w : World) (lo hi : Nat) (a : Option Addr) (c : Nat) (l : List RN) : Prop := RowIn w lo hi a l.length c 8 (fun i j => (l.getD i default).cell j) ∧ ∀ r ∈ l, r.In w lo hi

/-- a schema with the addresses of its slices -/
structure SN where
  ra : Option Addr
  rc : Nat
  rules : List RN
  els : RN
  o0 : Int
  o1 : Int
  o2 : Int
  o3 : Int
  o4 : Int
  o5 : Int
  cap : Int
def SN.er (s : SN) : SchT := ⟨s.rules.map RN.er, s.els.er, [s.o0, s.o1, s.o2, s.o3, s.o4, s.o5], s.cap⟩
def SN.val (s : SN) : Value := .agg #[.slice s.ra s.rules.length s.rc, .string s.els.ty, .int .i64 s.els.td, .string s.els.tt, .int .i64 s.els.od, .string s.els.ot, .slice s.els.ka s.els.kids.length s.els.kc, .int .i64 s.els.fill, .string s.els.ft, .int .i64 s.o0, .int .i64 s.o1, .int .i64 s.o2, .int .i64 s.o3, .int .i64 s.o4, .int .i64 s.o5, .int .i64 s.cap]
def SN.In (w : World) (lo hi : Nat) (s : SN) : Prop := RulesIn w lo hi s.ra s.rc s.rules ∧ s.els.In w lo hi
def SN.Ok (w : World) (s : SN) : Prop := s.In w 0 w.heap.size
/-- no slice is too long -/
def SN.Small (s : SN) : Prop := s.rules.length ≤ 1048576 ∧ (∀ r ∈ s.rules, r.kids.length ≤ 1048576) ∧ s.els.kids.length ≤ 1048576

theorem PairsIn.agree {w w' : World} {lo hi : Nat} {a : Option Addr} {c : Nat} {l : List PairL} (h : PairsIn w lo hi a c l) (hag : Agree lo hi w w') : PairsIn w' lo hi a c l := RowIn.agree h hag
theorem PairsIn.mono {w : World} {lo hi lo' hi' : Nat} {a : Option Addr} {c : Nat} {l : List PairL} (h : PairsIn w lo hi a c l) (h1 : lo' ≤ lo) (h2 : hi ≤ hi') : PairsIn w lo' hi' a c l := RowIn.mono h h1 h2
theorem PairsIn.grew {w w' : World} {lo hi : Nat} {a : Option Addr} {c : Nat} {l : List PairL} (h : PairsIn w lo hi a c l) (hg : Grew w w') (hB : hi ≤ w.heap.size) : PairsIn w' lo hi a c l := h.agree (hg.agree hB)
theorem RN.In.agree {w w' : World} {lo hi : Nat} {r : RN} (h : r.In w lo hi) (hag : Agree lo hi w w') : r.In w' lo hi := PairsIn.agree h hag
theorem RN.In.mono {w : World} {lo hi lo' hi' : Nat} {r : RN} (h : r.In w lo hi) (h1 : lo' ≤ lo) (h2 : hi ≤ hi') : r.In w lo' hi' := PairsIn.mono h h1 h2
theorem RN.In.grew {w w' : World} {lo hi : Nat} {r : RN} (h : r.In w lo hi) (hg : Grew w w') (hB : hi ≤ w.heap.size) : r.In w' lo hi := h.agree (hg.agree hB)
theorem RulesIn.agree {w w' : World} {lo hi : Nat} {a : Option Addr} {c : Nat} {l : List RN} (h : RulesIn w lo hi a c l) (hag : Agree lo hi w w') : RulesIn w' lo hi a c l := ⟨h.1.agree hag, fun r hr => (h.2 r hr).agree hag⟩
theorem RulesIn.mono {w : World} {lo hi lo' hi' : Nat} {a : Option Addr} {c : Nat} {l : List RN} (h : RulesIn w lo hi a c l) (h1 : lo' ≤ lo) (h2 : hi ≤ hi') : RulesIn w lo' hi' a c l := ⟨h.1.mono h1 h2, fun r hr => (h.2 r hr).mono h1 h2⟩
theorem RulesIn.grew {w w' : World} {lo hi : Nat} {a : Option Addr} {c : Nat} {l : List RN} (h : RulesIn w lo hi a c l) (hg : Grew w w') (hB : hi ≤ w.heap.size) : RulesIn w' lo hi a c l := h.agree (hg.agree hB)
theorem SN.Ok.grew {w w' : World} {s : SN} (h : s.Ok w) (hg : Grew w w') : s.Ok w' := ⟨(h.1.grew hg (Nat.le_refl _)).mono (Nat.le_refl _) hg.size, (h.2.grew hg (Nat.le_refl _)).mono (Nat.le_refl _) hg.size⟩

theorem PairsIn.at {w : World} {lo hi : Nat} {a : Option Addr} {c : Nat} {l : List PairL} (h : PairsIn w lo hi a c l) {j : Nat} (hj : j < l.length) :
    ∃ b o, a = some ⟨b, o, none⟩ ∧ lo ≤ b ∧ b < hi ∧ w.cell? ⟨b, o + j * 3, none⟩ = some (.string (l.getD j default).1) ∧ w.cell? ⟨b, o + j * 3 + 1, none⟩ = some (.int .i64 (l.getD j default).2.1) ∧ w.cell? ⟨b, o + j * 3 + 2, none⟩ = some (.string (l.getD j default).2.2) := by
  obtain ⟨b, o, ha, h1, h2, hc⟩ := h.2 (by omega)
  exact ⟨b, o, ha, h1, h2, hc j hj 0 (by omega), hc j hj 1 (by omega), hc j hj 2 (by omega)⟩
theorem RulesIn.at {w : World} {lo hi : Nat} {a : Option Addr} {c : Nat} {l : List RN} (h : RulesIn w lo hi a c l) {j : Nat} (hj : j < l.length) :
    ∃ b o, a = some ⟨b, o, none⟩ ∧ lo ≤ b ∧ b < hi ∧ w.cell? ⟨b, o + j * 8, none⟩ = some (.string (l.getD j default).ty) ∧ w.cell? ⟨b, o + j * 8 + 1, none⟩ = some (.int .i64 (l.getD j default).td) ∧ w.cell? ⟨b, o + j * 8 + 2, none⟩ = some (.string (l.getD j default).tt) ∧ w.cell? ⟨b, o + j * 8 + 3, none⟩ = some (.int .i64 (l.getD j default).od) ∧ w.cell? ⟨b, o + j * 8 + 4, none⟩ = some (.string (l.getD j default).ot) ∧ w.cell? ⟨b, o + j * 8 + 5, none⟩ = some (.slice (l.getD j default).ka (l.getD j default).kids.length (l.getD j default).kc) ∧ w.cell? ⟨b, o + j * 8 + 6, none⟩ = some (.int .i64 (l.getD j default).fill) ∧ w.cell? ⟨b, o + j * 8 + 7, none⟩ = some (.string (l.getD j default).ft) := by
  obtain ⟨b, o, ha, h1, h2, hc⟩ := h.1.2 (by omega)
  exact ⟨b, o, ha, h1, h2, hc j hj 0 (by omega), hc j hj 1 (by omega), hc j hj 2 (by omega), hc j hj 3 (by omega), hc j hj 4 (by omega), hc j hj 5 (by omega), hc j hj 6 (by omega), hc j hj 7 (by omega)⟩
/-- a box of 8 cells, behind whatever has been made since -/
theorem box8 {w w1 : World} {c0 c1 c2 c3 c4 c5 c6 c7 : Value} {t : TypeId} (g : Grew (w.alloc (.cells #[c0, c1, c2, c3, c4, c5, c6, c7] t)) w1) : (w1.cell? ⟨w.heap.size, 0, none⟩ = some c0 ∧ w1.cell? ⟨w.heap.size, 1, none⟩ = some c1 ∧ w1.cell? ⟨w.heap.size, 2, none⟩ = some c2 ∧ w1.cell? ⟨w.heap.size, 3, none⟩ = some c3 ∧ w1.cell? ⟨w.heap.size, 4, none⟩ = some c4 ∧ w1.cell? ⟨w.heap.size, 5, none⟩ = some c5 ∧ w1.cell? ⟨w.heap.size, 6, none⟩ = some c6 ∧ w1.cell? ⟨w.heap.size, 7, none⟩ = some c7) ∧ w.heap.size < w1.heap.size := by
  have hz : w.heap.size < (w.alloc (.cells #[c0, c1, c2, c3, c4, c5, c6, c7] t)).heap.size := by simp
  refine ⟨⟨?_, ?_, ?_, ?_, ?_, ?_, ?_, ?_⟩, Nat.lt_of_lt_of_le hz g.size⟩
  all_goals
    rw [g.cell (by exact hz), World.cell?_alloc_new]
    rfl
/-- a box of 16 cells, behind whatever has been made since -/
theorem box16 {w w1 : World} {c0 c1 c2 c3 c4 c5 c6 c7 c8 c9 c10 c11 c12 c13 c14 c15 : Value} {t : TypeId} (g : Grew (w.alloc (.cells #[c0, c1, c2, c3, c4, c5, c6, c7, c8, c9, c10, c11, c12, c13, c14, c15] t)) w1) : (w1.cell? ⟨w.heap.size, 0, none⟩ = some c0 ∧ w1.cell? ⟨w.heap.size, 1, none⟩ = some c1 ∧ w1.cell? ⟨w.heap.size, 2, none⟩ = some c2 ∧ w1.cell? ⟨w.heap.size, 3, none⟩ = some c3 ∧ w1.cell? ⟨w.heap.size, 4, none⟩ = some c4 ∧ w1.cell? ⟨w.heap.size, 5, none⟩ = some c5 ∧ w1.cell? ⟨w.heap.size, 6, none⟩ = some c6 ∧ w1.cell? ⟨w.heap.size, 7, none⟩ = some c7 ∧ w1.cell? ⟨w.heap.size, 8, none⟩ = some c8 ∧ w1.cell? ⟨w.heap.size, 9, none⟩ = some c9 ∧ w1.cell? ⟨w.heap.size, 10, none⟩ = some c10 ∧ w1.cell? ⟨w.heap.size, 11, none⟩ = some c11 ∧ w1.cell? ⟨w.heap.size, 12, none⟩ = some c12 ∧ w1.cell? ⟨w.heap.size, 13, none⟩ = some c13 ∧ w1.cell? ⟨w.heap.size, 14, none⟩ = some c14 ∧ w1.cell? ⟨w.heap.size, 15, none⟩ = some c15) ∧ w.heap.size < w1.heap.size := by
  have hz : w.heap.size < (w.alloc (.cells #[c0, c1, c2, c3, c4, c5, c6, c7, c8, c9, c10, c11, c12, c13, c14, c15] t)).heap.size := by simp
  refine ⟨⟨?_, ?_, ?_, ?_, ?_, ?_, ?_, ?_, ?_, ?_, ?_, ?_, ?_, ?_, ?_, ?_⟩, Nat.lt_of_lt_of_le hz g.size⟩
  all_goals
    rw [g.cell (by exact hz), World.cell?_alloc_new]
    rfl
/-- a box of 3 cells, behind whatever has been made since -/
theorem box3 {w w1 : World} {c0 c1 c2 : Value} {t : TypeId} (g : Grew (w.alloc (.cells #[c0, c1, c2] t)) w1) : (w1.cell? ⟨w.heap.size, 0, none⟩ = some c0 ∧ w1.cell? ⟨w.heap.size, 1, none⟩ = some c1 ∧ w1.cell? ⟨w.heap.size, 2, none⟩ = some c2) ∧ w.heap.size < w1.heap.size := by
  have hz : w.heap.size < (w.alloc (.cells #[c0, c1, c2] t)).heap.size := by simp
  refine ⟨⟨?_, ?_, ?_⟩, Nat.lt_of_lt_of_le hz g.size⟩
  all_goals
    rw [g.cell (by exact hz), World.cell?_alloc_new]
    rfl
/-- a box of 2 cells, behind whatever has been made since -/
theorem box2c {w w1 : World} {c0 c1 : Value} {t : TypeId} (g : Grew (w.alloc (.cells #[c0, c1] t)) w1) : (w1.cell? ⟨w.heap.size, 0, none⟩ = some c0 ∧ w1.cell? ⟨w.heap.size, 1, none⟩ = some c1) ∧ w.heap.size < w1.heap.size := by
  have hz : w.heap.size < (w.alloc (.cells #[c0, c1] t)).heap.size := by simp
  refine ⟨⟨?_, ?_⟩, Nat.lt_of_lt_of_le hz g.size⟩
  all_goals
    rw [g.cell (by exact hz), World.cell?_alloc_new]
    rfl
/-- a box of 1 cells, behind whatever has been made since -/
theorem box1 {w w1 : World} {c0 : Value} {t : TypeId} (g : Grew (w.alloc (.cells #[c0] t)) w1) : (w1.cell? ⟨w.heap.size, 0, none⟩ = some c0) ∧ w.heap.size < w1.heap.size := by
  have hz : w.heap.size < (w.alloc (.cells #[c0] t)).heap.size := by simp
  refine ⟨?_, Nat.lt_of_lt_of_le hz g.size⟩
  all_goals
    rw [g.cell (by exact hz), World.cell?_alloc_new]
    rfl
/-- a box of 13 cells, behind whatever has been made since -/
theorem box13 {w w1 : World} {c0 c1 c2 c3 c4 c5 c6 c7 c8 c9 c10 c11 c12 : Value} {t : TypeId} (g : Grew (w.alloc (.cells #[c0, c1, c2, c3, c4, c5, c6, c7, c8, c9, c10, c11, c12] t)) w1) : (w1.cell? ⟨w.heap.size, 0, none⟩ = some c0 ∧ w1.cell? ⟨w.heap.size, 1, none⟩ = some c1 ∧ w1.cell? ⟨w.heap.size, 2, none⟩ = some c2 ∧ w1.cell? ⟨w.heap.size, 3, none⟩ = some c3 ∧ w1.cell? ⟨w.heap.size, 4, none⟩ = some c4 ∧ w1.cell? ⟨w.heap.size, 5, none⟩ = some c5 ∧ w1.cell? ⟨w.heap.size, 6, none⟩ = some c6 ∧ w1.cell? ⟨w.heap.size, 7, none⟩ = some c7 ∧ w1.cell? ⟨w.heap.size, 8, none⟩ = some c8 ∧ w1.cell? ⟨w.heap.size, 9, none⟩ = some c9 ∧ w1.cell? ⟨w.heap.size, 10, none⟩ = some c10 ∧ w1.cell? ⟨w.heap.size, 11, none⟩ = some c11 ∧ w1.cell? ⟨w.heap.size, 12, none⟩ = some c12) ∧ w.heap.size < w1.heap.size := by
  have hz : w.heap.size < (w.alloc (.cells #[c0, c1, c2, c3, c4, c5, c6, c7, c8, c9, c10, c11, c12] t)).heap.size := by simp
  refine ⟨⟨?_, ?_, ?_, ?_, ?_, ?_, ?_, ?_, ?_, ?_, ?_, ?_, ?_⟩, Nat.lt_of_lt_of_le hz g.size⟩
  all_goals
    rw [g.cell (by exact hz), World.cell?_alloc_new]
    rfl

/-! ### what the document reads in a schema -/
/-- the rule of a type -/
def SchT.ruleOf (s : SchT) (k : ByteArray) : RuleT := (s.rules.find? (fun r => decide (r.ty = k))).getD s.els
/-- what a rule does with elements of a type -/
def RuleT.typed (r : RuleT) (k : ByteArray) : ActL := ((r.kids.find? (fun p => decide (p.1 = k))).map (·.2)).getD r.other
end Go.Proofs.Ytnkmcbhpmbjkpaa
