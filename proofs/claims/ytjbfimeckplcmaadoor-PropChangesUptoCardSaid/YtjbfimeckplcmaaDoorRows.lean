/-
  NARROWER THAN 'FOR EVERY INPUT', by the rows' own cells (each row's printed sentence says how): PropTells: laid · PropChanges: laid · PropKeys: laid · PropBack: laid · PropUndo: laid · PropNone: laid.
  DERIVED. THE GIVEN ROWS OF THIS SEAT. 6 by the template 'for every input the law returns true; each argument reads behind the call as it read before'; 0 by the template 'total and deterministic' (their statements: YtjbfimeckplcmaaDoorTotals.lean).
  GIVEN WITH THE SEED: the statements are not yours to turn. If you find one false, say at which input.
  Laid BY PROGRAM, IN A SANDBOX (cutbox-rows.mjs): the forced cells as the released guide's own fill.sh prints them over the translation e216821830a4e8e6… (all of the seat's roots in one cut). By AI agents, Wed Nov 11 2026. No macro, syntax, notation, axiom, sorry.
-/
import Derived.Test.YtjbfimeckplcmaaDoorChecked
import GoSem.PinnedTables
import GoSem.Claim
import GoSem.ClaimJoined
import GoSem.ClaimMapViews
import Derived.JoinedTies
import Derived.KernelRfl
namespace Go.Proofs.YtjbfimeckplcmaaDoor
/- THE CELL 'sum', in the pinned program and in every row, IS THE sha256 OF THE DUMP (.gsa) THAT YtjbfimeckplcmaaDoorProg.lean LOADS. Nothing in Lean hashes anything: it is a label: what it is worth is what the hold of that sum in a sandbox is worth. -/
noncomputable def Tryd.pinned : Pinned := { name := "ytjbfimeckplcmaadoor", sum := "e216821830a4e8e63b4c5ad6716449307065e644d1a918e3627d1369f3794467", checked := Tryd.checked }
namespace Rows
def none {H : Type} : Left H := { results := [], args := [] }

/- WHAT THE LISTED PACKAGE-LEVEL VARIABLES READ AS WHEN THE CALL BEGINS. Each datum BY PROGRAM (the guide's laid-datum.mjs) off the statement by which the dump's own 'gosem.cut.vars' lays the variable. In a bare row this is a premise. The card (YtjbfimeckplcmaaDoorCards.lean) ties it to the program's text. -/
def laid_unicode_utf8_acceptRanges {H : Type} : DataW H := .agg [.agg [.lit (.int .u8 128), .lit (.int .u8 191)], .agg [.lit (.int .u8 160), .lit (.int .u8 191)], .agg [.lit (.int .u8 128), .lit (.int .u8 159)], .agg [.lit (.int .u8 144), .lit (.int .u8 191)], .agg [.lit (.int .u8 128), .lit (.int .u8 143)], .agg [.lit (.int .u8 0), .lit (.int .u8 0)], .agg [.lit (.int .u8 0), .lit (.int .u8 0)], .agg [.lit (.int .u8 0), .lit (.int .u8 0)], .agg [.lit (.int .u8 0), .lit (.int .u8 0)], .agg [.lit (.int .u8 0), .lit (.int .u8 0)], .agg [.lit (.int .u8 0), .lit (.int .u8 0)], .agg [.lit (.int .u8 0), .lit (.int .u8 0)], .agg [.lit (.int .u8 0), .lit (.int .u8 0)], .agg [.lit (.int .u8 0), .lit (.int .u8 0)], .agg [.lit (.int .u8 0), .lit (.int .u8 0)], .agg [.lit (.int .u8 0), .lit (.int .u8 0)]]
/-- One of Go's own tables, pinned by name: the form's constant. -/
def laid_unicode_utf8_first : DataW Unit := Go.Pinned.utf8First

/-- 'redlinelaw01.PropTells': WHATEVER THE INPUT: true; the input reads as it did. -/
def propTellsSpec : ChangeSpec := { name := "propTells", fn := fun _ => fun
  | [d1, d2, d3] => { results := [.lit (.bool true)], args := [d1, d2, d3] }
  | _ => none }
def propTellsRow : OpenClaim := { program := "ytjbfimeckplcmaadoor", sum := "e216821830a4e8e63b4c5ad6716449307065e644d1a918e3627d1369f3794467", func := "redline/redlinelaw01.PropTells", spec := "propTells", inPlace := ["internal/bytealg.IndexByteString", "internal/bytealg.IndexString"], unfollowed := true, recurses := true, named := ["unicode/utf8.first", "unicode/utf8.acceptRanges", "internal/bytealg.MaxLen"], apart := false, laid := [("unicode/utf8.acceptRanges", laid_unicode_utf8_acceptRanges), ("unicode/utf8.first", laid_unicode_utf8_first)] }
def PropTellsSaid : Prop := propTellsRow.holds Tryd.pinned (OpenSpec.ofChange propTellsSpec)

/-- ITS FALSE NEIGHBOUR: 'it returns false'. Refute it at one input. -/
def propTellsWrong : ChangeSpec := { name := "propTells", fn := fun _ => fun
  | [d1, d2, d3] => { results := [.lit (.bool false)], args := [d1, d2, d3] }
  | _ => none }
def PropTellsWrongFalsely : Prop := propTellsRow.holds Tryd.pinned (OpenSpec.ofChange propTellsWrong)

/-- 'redlinelaw01.PropChanges': WHATEVER THE INPUT: true; the input reads as it did. -/
def propChangesSpec : ChangeSpec := { name := "propChanges", fn := fun _ => fun
  | [d1, d2, d3] => { results := [.lit (.bool true)], args := [d1, d2, d3] }
  | _ => none }
def propChangesRow : OpenClaim := { program := "ytjbfimeckplcmaadoor", sum := "e216821830a4e8e63b4c5ad6716449307065e644d1a918e3627d1369f3794467", func := "redline/redlinelaw01.PropChanges", spec := "propChanges", inPlace := ["internal/bytealg.IndexByteString", "internal/bytealg.IndexString"], unfollowed := true, recurses := true, named := ["unicode/utf8.first", "unicode/utf8.acceptRanges", "internal/bytealg.MaxLen"], apart := false, laid := [("unicode/utf8.acceptRanges", laid_unicode_utf8_acceptRanges), ("unicode/utf8.first", laid_unicode_utf8_first)] }
def PropChangesSaid : Prop := propChangesRow.holds Tryd.pinned (OpenSpec.ofChange propChangesSpec)

/-- ITS FALSE NEIGHBOUR: 'it returns false'. Refute it at one input. -/
def propChangesWrong : ChangeSpec := { name := "propChanges", fn := fun _ => fun
  | [d1, d2, d3] => { results := [.lit (.bool false)], args := [d1, d2, d3] }
  | _ => none }
def PropChangesWrongFalsely : Prop := propChangesRow.holds Tryd.pinned (OpenSpec.ofChange propChangesWrong)

/-- 'redlinelaw01.PropKeys': WHATEVER THE INPUT: true; the input reads as it did. -/
def propKeysSpec : ChangeSpec := { name := "propKeys", fn := fun _ => fun
  | [d1, d2, d3, d4] => { results := [.lit (.bool true)], args := [d1, d2, d3, d4] }
  | _ => none }
def propKeysRow : OpenClaim := { program := "ytjbfimeckplcmaadoor", sum := "e216821830a4e8e63b4c5ad6716449307065e644d1a918e3627d1369f3794467", func := "redline/redlinelaw01.PropKeys", spec := "propKeys", inPlace := ["internal/bytealg.IndexByteString", "internal/bytealg.IndexString"], unfollowed := true, recurses := true, named := ["unicode/utf8.first", "unicode/utf8.acceptRanges", "internal/bytealg.MaxLen"], apart := false, laid := [("unicode/utf8.acceptRanges", laid_unicode_utf8_acceptRanges), ("unicode/utf8.first", laid_unicode_utf8_first)] }
def PropKeysSaid : Prop := propKeysRow.holds Tryd.pinned (OpenSpec.ofChange propKeysSpec)

/-- ITS FALSE NEIGHBOUR: 'it returns false'. Refute it at one input. -/
def propKeysWrong : ChangeSpec := { name := "propKeys", fn := fun _ => fun
  | [d1, d2, d3, d4] => { results := [.lit (.bool false)], args := [d1, d2, d3, d4] }
  | _ => none }
def PropKeysWrongFalsely : Prop := propKeysRow.holds Tryd.pinned (OpenSpec.ofChange propKeysWrong)

/-- 'redlinelaw01.PropBack': WHATEVER THE INPUT: true; the input reads as it did. -/
def propBackSpec : ChangeSpec := { name := "propBack", fn := fun _ => fun
  | [d1, d2] => { results := [.lit (.bool true)], args := [d1, d2] }
  | _ => none }
def propBackRow : OpenClaim := { program := "ytjbfimeckplcmaadoor", sum := "e216821830a4e8e63b4c5ad6716449307065e644d1a918e3627d1369f3794467", func := "redline/redlinelaw01.PropBack", spec := "propBack", inPlace := ["internal/bytealg.IndexByteString", "internal/bytealg.IndexString"], unfollowed := true, recurses := true, named := ["unicode/utf8.first", "unicode/utf8.acceptRanges", "internal/bytealg.MaxLen"], apart := false, laid := [("unicode/utf8.acceptRanges", laid_unicode_utf8_acceptRanges), ("unicode/utf8.first", laid_unicode_utf8_first)] }
def PropBackSaid : Prop := propBackRow.holds Tryd.pinned (OpenSpec.ofChange propBackSpec)

/-- ITS FALSE NEIGHBOUR: 'it returns false'. Refute it at one input. -/
def propBackWrong : ChangeSpec := { name := "propBack", fn := fun _ => fun
  | [d1, d2] => { results := [.lit (.bool false)], args := [d1, d2] }
  | _ => none }
def PropBackWrongFalsely : Prop := propBackRow.holds Tryd.pinned (OpenSpec.ofChange propBackWrong)

/-- 'redlinelaw01.PropUndo': WHATEVER THE INPUT: true; the input reads as it did. -/
def propUndoSpec : ChangeSpec := { name := "propUndo", fn := fun _ => fun
  | [d1, d2, d3] => { results := [.lit (.bool true)], args := [d1, d2, d3] }
  | _ => none }
def propUndoRow : OpenClaim := { program := "ytjbfimeckplcmaadoor", sum := "e216821830a4e8e63b4c5ad6716449307065e644d1a918e3627d1369f3794467", func := "redline/redlinelaw01.PropUndo", spec := "propUndo", inPlace := ["internal/bytealg.IndexByteString", "internal/bytealg.IndexString"], unfollowed := true, recurses := true, named := ["unicode/utf8.first", "unicode/utf8.acceptRanges", "internal/bytealg.MaxLen"], apart := false, laid := [("unicode/utf8.acceptRanges", laid_unicode_utf8_acceptRanges), ("unicode/utf8.first", laid_unicode_utf8_first)] }
def PropUndoSaid : Prop := propUndoRow.holds Tryd.pinned (OpenSpec.ofChange propUndoSpec)

/-- ITS FALSE NEIGHBOUR: 'it returns false'. Refute it at one input. -/
def propUndoWrong : ChangeSpec := { name := "propUndo", fn := fun _ => fun
  | [d1, d2, d3] => { results := [.lit (.bool false)], args := [d1, d2, d3] }
  | _ => none }
def PropUndoWrongFalsely : Prop := propUndoRow.holds Tryd.pinned (OpenSpec.ofChange propUndoWrong)

/-- 'redlinelaw01.PropNone': WHATEVER THE INPUT: true; the input reads as it did. -/
def propNoneSpec : ChangeSpec := { name := "propNone", fn := fun _ => fun
  | [d1, d2] => { results := [.lit (.bool true)], args := [d1, d2] }
  | _ => none }
def propNoneRow : OpenClaim := { program := "ytjbfimeckplcmaadoor", sum := "e216821830a4e8e63b4c5ad6716449307065e644d1a918e3627d1369f3794467", func := "redline/redlinelaw01.PropNone", spec := "propNone", inPlace := ["internal/bytealg.IndexByteString", "internal/bytealg.IndexString"], unfollowed := true, recurses := true, named := ["unicode/utf8.first", "unicode/utf8.acceptRanges", "internal/bytealg.MaxLen"], apart := false, laid := [("unicode/utf8.acceptRanges", laid_unicode_utf8_acceptRanges), ("unicode/utf8.first", laid_unicode_utf8_first)] }
def PropNoneSaid : Prop := propNoneRow.holds Tryd.pinned (OpenSpec.ofChange propNoneSpec)

/-- ITS FALSE NEIGHBOUR: 'it returns false'. Refute it at one input. -/
def propNoneWrong : ChangeSpec := { name := "propNone", fn := fun _ => fun
  | [d1, d2] => { results := [.lit (.bool false)], args := [d1, d2] }
  | _ => none }
def PropNoneWrongFalsely : Prop := propNoneRow.holds Tryd.pinned (OpenSpec.ofChange propNoneWrong)

/- THE SECOND FORM. 'bulk': how many values and letters a reading holds, each counted each time it is reached (what is shared counts as often as it is met; a slice's spare places count too). A statement '..UptoSaid' is the law's where the arguments, and the package variables that the reading takes, are together of bulk at most 1048576: NARROWER than '..Said'. Prove '..Said' where nothing that the law and all that it calls make is longer than what came in: it says more and counts as full. Else prove '..UptoSaid'. A law counts once. -/
mutual
def uptoBulk {H : Type} : DataW H → Nat
  | .lit (.string bytes) => bytes.length + 1
  | .lit _ => 1
  | .nil => 1
  | .ptr d => uptoBulk d + 1
  | .slice elems spare => uptoBulkAll elems + uptoBulkAll spare + 1
  | .agg parts => uptoBulkAll parts + 1
  | .iface _ d => uptoBulk d + 1
  | .map entries => uptoBulkEntries entries + 1
  | .held _ => 1
def uptoBulkAll {H : Type} : List (DataW H) → Nat
  | [] => 0
  | d :: r => uptoBulk d + uptoBulkAll r
def uptoBulkEntries {H : Type} : List (Lit × DataW H) → Nat
  | [] => 0
  | x :: r => uptoBulkEntry x + uptoBulkEntries r
def uptoBulkEntry {H : Type} : Lit × DataW H → Nat
  | (.string bytes, d) => bytes.length + uptoBulk d + 1
  | (_, d) => uptoBulk d + 1
 end
def uptoSmall : (H : Type) → List (DataW H) → Bool := fun _ ds => decide (uptoBulkAll ds ≤ 1048576)
def OpenSpec.upto (s : _root_.Go.ChangeSpec) : _root_.Go.OpenSpec := { _root_.Go.OpenSpec.ofChange s with cond := some uptoSmall }

/-- 'redlinelaw01.PropTells', WHERE WHAT IT READS IS OF BULK AT MOST 1048576: true; the input reads as it did. -/
def propTellsUptoRow : OpenClaim := { program := "ytjbfimeckplcmaadoor", sum := "e216821830a4e8e63b4c5ad6716449307065e644d1a918e3627d1369f3794467", func := "redline/redlinelaw01.PropTells", spec := "propTells", inPlace := ["internal/bytealg.IndexByteString", "internal/bytealg.IndexString"], unfollowed := true, recurses := true, named := ["unicode/utf8.first", "unicode/utf8.acceptRanges", "internal/bytealg.MaxLen"], apart := false, laid := [("unicode/utf8.acceptRanges", laid_unicode_utf8_acceptRanges), ("unicode/utf8.first", laid_unicode_utf8_first)], narrowed := true }
def PropTellsUptoSaid : Prop := propTellsUptoRow.holds Tryd.pinned (OpenSpec.upto propTellsSpec)

/-- 'redlinelaw01.PropChanges', WHERE WHAT IT READS IS OF BULK AT MOST 1048576: true; the input reads as it did. -/
def propChangesUptoRow : OpenClaim := { program := "ytjbfimeckplcmaadoor", sum := "e216821830a4e8e63b4c5ad6716449307065e644d1a918e3627d1369f3794467", func := "redline/redlinelaw01.PropChanges", spec := "propChanges", inPlace := ["internal/bytealg.IndexByteString", "internal/bytealg.IndexString"], unfollowed := true, recurses := true, named := ["unicode/utf8.first", "unicode/utf8.acceptRanges", "internal/bytealg.MaxLen"], apart := false, laid := [("unicode/utf8.acceptRanges", laid_unicode_utf8_acceptRanges), ("unicode/utf8.first", laid_unicode_utf8_first)], narrowed := true }
def PropChangesUptoSaid : Prop := propChangesUptoRow.holds Tryd.pinned (OpenSpec.upto propChangesSpec)

/-- 'redlinelaw01.PropKeys', WHERE WHAT IT READS IS OF BULK AT MOST 1048576: true; the input reads as it did. -/
def propKeysUptoRow : OpenClaim := { program := "ytjbfimeckplcmaadoor", sum := "e216821830a4e8e63b4c5ad6716449307065e644d1a918e3627d1369f3794467", func := "redline/redlinelaw01.PropKeys", spec := "propKeys", inPlace := ["internal/bytealg.IndexByteString", "internal/bytealg.IndexString"], unfollowed := true, recurses := true, named := ["unicode/utf8.first", "unicode/utf8.acceptRanges", "internal/bytealg.MaxLen"], apart := false, laid := [("unicode/utf8.acceptRanges", laid_unicode_utf8_acceptRanges), ("unicode/utf8.first", laid_unicode_utf8_first)], narrowed := true }
def PropKeysUptoSaid : Prop := propKeysUptoRow.holds Tryd.pinned (OpenSpec.upto propKeysSpec)

/-- 'redlinelaw01.PropBack', WHERE WHAT IT READS IS OF BULK AT MOST 1048576: true; the input reads as it did. -/
def propBackUptoRow : OpenClaim := { program := "ytjbfimeckplcmaadoor", sum := "e216821830a4e8e63b4c5ad6716449307065e644d1a918e3627d1369f3794467", func := "redline/redlinelaw01.PropBack", spec := "propBack", inPlace := ["internal/bytealg.IndexByteString", "internal/bytealg.IndexString"], unfollowed := true, recurses := true, named := ["unicode/utf8.first", "unicode/utf8.acceptRanges", "internal/bytealg.MaxLen"], apart := false, laid := [("unicode/utf8.acceptRanges", laid_unicode_utf8_acceptRanges), ("unicode/utf8.first", laid_unicode_utf8_first)], narrowed := true }
def PropBackUptoSaid : Prop := propBackUptoRow.holds Tryd.pinned (OpenSpec.upto propBackSpec)

/-- 'redlinelaw01.PropUndo', WHERE WHAT IT READS IS OF BULK AT MOST 1048576: true; the input reads as it did. -/
def propUndoUptoRow : OpenClaim := { program := "ytjbfimeckplcmaadoor", sum := "e216821830a4e8e63b4c5ad6716449307065e644d1a918e3627d1369f3794467", func := "redline/redlinelaw01.PropUndo", spec := "propUndo", inPlace := ["internal/bytealg.IndexByteString", "internal/bytealg.IndexString"], unfollowed := true, recurses := true, named := ["unicode/utf8.first", "unicode/utf8.acceptRanges", "internal/bytealg.MaxLen"], apart := false, laid := [("unicode/utf8.acceptRanges", laid_unicode_utf8_acceptRanges), ("unicode/utf8.first", laid_unicode_utf8_first)], narrowed := true }
def PropUndoUptoSaid : Prop := propUndoUptoRow.holds Tryd.pinned (OpenSpec.upto propUndoSpec)

/-- 'redlinelaw01.PropNone', WHERE WHAT IT READS IS OF BULK AT MOST 1048576: true; the input reads as it did. -/
def propNoneUptoRow : OpenClaim := { program := "ytjbfimeckplcmaadoor", sum := "e216821830a4e8e63b4c5ad6716449307065e644d1a918e3627d1369f3794467", func := "redline/redlinelaw01.PropNone", spec := "propNone", inPlace := ["internal/bytealg.IndexByteString", "internal/bytealg.IndexString"], unfollowed := true, recurses := true, named := ["unicode/utf8.first", "unicode/utf8.acceptRanges", "internal/bytealg.MaxLen"], apart := false, laid := [("unicode/utf8.acceptRanges", laid_unicode_utf8_acceptRanges), ("unicode/utf8.first", laid_unicode_utf8_first)], narrowed := true }
def PropNoneUptoSaid : Prop := propNoneUptoRow.holds Tryd.pinned (OpenSpec.upto propNoneSpec)

end Rows
end Go.Proofs.YtjbfimeckplcmaaDoor
