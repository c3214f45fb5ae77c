/- Keys, values, properties, runes, trees that may be: in plain Lean. -/
import Derived.Test.YtmekodocibnniaaDoorRep
import Derived.Lib.SlTrimSet
namespace Go.Proofs.YtmekodocibnniaaDoor
open Go Go.RowKit

theorem bytes_beq (a b : ByteArray) : (a.toList == b.toList) = decide (a = b) := by
  rw [ByteArray.toList_eq, ByteArray.toList_eq]
  obtain ⟨⟨x⟩⟩ := a
  obtain ⟨⟨y⟩⟩ := b
  rw [Bool.eq_iff_iff]
  simp

def lowB (b : UInt8) : Bool := decide (97 ≤ b.toNat) && decide (b.toNat ≤ 122)
def valB (b : UInt8) : Bool := lowB b || (decide (48 ≤ b.toNat) && decide (b.toNat ≤ 57)) || decide (b.toNat = 45)
/-- a key -/
def isKey (s : ByteArray) : Bool := decide (1 ≤ s.size) && (decide (s.size ≤ 16) && s.data.toList.all lowB)
/-- a value -/
def isVal (s : ByteArray) : Bool := decide (s.size ≤ 32) && s.data.toList.all valB
/-- the order of strings -/
def leS (a b : ByteArray) : Bool := Op.bytesLess a.toList b.toList || a.toList == b.toList
/-- what is wrong with properties that stand behind a key -/
def chkPs (last : ByteArray) : List PropL → Int
  | [] => 0
  | p :: r => if isKey p.1 && isVal p.2 then (if leS p.1 last then 1 else chkPs p.1 r) else 3
/-- what is wrong with properties -/
def checkPs (ps : List PropL) : Int := if 16 < ps.length then 2 else chkPs .empty ps
/-- a rune -/
def isRune (c : Int) : Bool := (decide (0 ≤ c) && decide (c ≤ 55295)) || (decide (57344 ≤ c) && decide (c ≤ 1114111))
/-- what is wrong with runes -/
def checkRs (ts : List Int) : Int := if ts.all isRune then 0 else 4
/-- what is wrong with a node by itself -/
def T.own (t : T) : Int := if checkPs t.ps ≠ 0 then checkPs t.ps else if (t.lf && decide (0 < t.ks.length)) || (!t.lf && decide (0 < t.ts.length)) then 7 else checkRs t.ts
mutual
/-- what is wrong with a tree, in order -/
def T.chk : T → Int
  | .mk lf ps ts ks => if (T.mk lf ps ts ks).own ≠ 0 then (T.mk lf ps ts ks).own else T.chks ks
def T.chks : List T → Int
  | [] => 0
  | k :: r => if T.chk k ≠ 0 then T.chk k else T.chks r
end
theorem T.chk_eq (t : T) : t.chk = if t.own ≠ 0 then t.own else T.chks t.ks := by cases t; simp [T.chk]

theorem trimL_all (l cs : List UInt8) : (Lib.trimLeftS l cs = []) ↔ l.all (cs.contains ·) = true := by
  unfold Lib.trimLeftS
  induction l with
  | nil => simp
  | cons x r ih =>
    rw [List.dropWhile_cons, List.all_cons]
    cases h : cs.contains x with
    | true => simpa using ih
    | false => simp
theorem trim_all (l cs : List UInt8) : (Lib.trimS l cs = []) ↔ l.all (cs.contains ·) = true := by
  unfold Lib.trimS
  rw [trimL_all]
  unfold Lib.trimRightS
  rw [List.all_reverse]
  have key : ∀ m : List UInt8, (m.dropWhile (cs.contains ·)).all (cs.contains ·) = m.all (cs.contains ·) := by
    intro m
    induction m with
    | nil => rfl
    | cons x r ih =>
      rw [List.dropWhile_cons]
      cases h : cs.contains x with
      | true => simp only [↓reduceIte, List.all_cons, h, Bool.true_and]; exact ih
      | false => simp
  rw [key, List.all_reverse]

def lows : ByteArray := ⟨#[97, 98, 99, 100, 101, 102, 103, 104, 105, 106, 107, 108, 109, 110, 111, 112, 113, 114, 115, 116, 117, 118, 119, 120, 121, 122]⟩
def valCs : ByteArray := ⟨#[97, 98, 99, 100, 101, 102, 103, 104, 105, 106, 107, 108, 109, 110, 111, 112, 113, 114, 115, 116, 117, 118, 119, 120, 121, 122, 48, 49, 50, 51, 52, 53, 54, 55, 56, 57, 45]⟩
theorem all_bytes (P : UInt8 → Bool) (h : ∀ n : Fin 256, P (UInt8.ofNat n.val) = true) (b : UInt8) : P b = true := by
  have := h ⟨b.toNat, by exact b.toNat_lt⟩
  simpa using this
theorem lows_has (b : UInt8) : lows.data.toList.contains b = lowB b := by
  have := all_bytes (fun b => lows.data.toList.contains b == lowB b) (of_decide_eq_true (by kernel_rfl)) b
  simpa using this
theorem valCs_has (b : UInt8) : valCs.data.toList.contains b = valB b := by
  have := all_bytes (fun b => valCs.data.toList.contains b == valB b) (of_decide_eq_true (by kernel_rfl)) b
  simpa using this
theorem trim_empty (l cs : List UInt8) : (⟨(Lib.trimS l cs).toArray⟩ : ByteArray).toList.isEmpty = l.all (cs.contains ·) := by
  rw [ByteArray.toList_eq, Bool.eq_iff_iff, ← trim_all]
  simp
theorem trim_key (s : ByteArray) : ((⟨(Lib.trimS s.data.toList lows.data.toList).toArray⟩ : ByteArray).toList.isEmpty) = s.data.toList.all lowB := by
  rw [trim_empty]; congr 1; funext b; exact lows_has b
theorem trim_val (s : ByteArray) : ((⟨(Lib.trimS s.data.toList valCs.data.toList).toArray⟩ : ByteArray).toList.isEmpty) = s.data.toList.all valB := by
  rw [trim_empty]; congr 1; funext b; exact valCs_has b
theorem bytesLess_nil (a : List UInt8) : Op.bytesLess a [] = false := by
  cases a <;> simp [Op.bytesLess]
theorem empty_toList : ByteArray.empty.toList = [] := by rw [ByteArray.toList_eq]; rfl
theorem leS_empty (s : ByteArray) (h : isKey s = true) : leS s .empty = false := by
  have hs : 1 ≤ s.size := by
    have := (Bool.and_eq_true_iff.1 h).1
    simpa using this
  unfold leS
  rw [empty_toList, bytesLess_nil, Bool.false_or, ← empty_toList, bytes_beq]
  refine decide_eq_false (fun e => ?_)
  rw [e] at hs
  exact absurd hs (by decide)
end Go.Proofs.YtmekodocibnniaaDoor
