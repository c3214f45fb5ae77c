/-
  NARROWER THAN 'FOR EVERY INPUT', by the rows' own cells (each row's printed sentence says how): OpBack: loops, laid · OpShape: loops, laid · OpSizes: loops, laid · OpDoes: loops, laid · OpRight: loops, laid · OpText: loops, laid · OpGhost: loops, laid.
  DERIVED. THE GIVEN ROWS OF THIS SEAT. 7 by the template 'for every input the law returns true; each argument reads behind the call as it read before'; 0 by the template 'total and deterministic' (their statements: YtdopncbmlehnoaaGreatDoorTotals.lean).
  GIVEN WITH THE SEED: the statements are not yours to turn. If you find one false, say at which input.
  Laid BY PROGRAM, IN A SANDBOX (cutbox-rows.mjs): the forced cells as the released guide's own fill.sh prints them over the translation 69a59fa6bb8cb8fa… (all of the seat's roots in one cut). By AI agents, Wed Nov 11 2026. No macro, syntax, notation, axiom, sorry.
-/
import Derived.Test.YtdopncbmlehnoaaGreatDoorChecked
import GoSem.PinnedTables
import GoSem.Claim
import GoSem.ClaimJoined
import GoSem.ClaimMapViews
import Derived.JoinedTies
import Derived.KernelRfl
namespace Go.Proofs.YtdopncbmlehnoaaGreatDoor
/- THE CELL 'sum', in the pinned program and in every row, IS THE sha256 OF THE DUMP (.gsa) THAT YtdopncbmlehnoaaGreatDoorProg.lean LOADS. Nothing in Lean hashes anything: it is a label: what it is worth is what the hold of that sum in a sandbox is worth. -/
noncomputable def Tryz.pinned : Pinned := { name := "ytdopncbmlehnoaagreatdoor", sum := "69a59fa6bb8cb8fa4590263dcd815bea01eedbd5f1427efe59f64df48b54e221", checked := Tryz.checked }
namespace Rows
def none {H : Type} : Left H := { results := [], args := [] }

/- WHAT THE LISTED PACKAGE-LEVEL VARIABLES READ AS WHEN THE CALL BEGINS. Each datum BY PROGRAM (the guide's laid-datum.mjs) off the statement by which the dump's own 'gosem.cut.vars' lays the variable. In a bare row this is a premise. The card (YtdopncbmlehnoaaGreatDoorCards.lean) ties it to the program's text. -/
def laid_unicode_utf8_acceptRanges {H : Type} : DataW H := .agg [.agg [.lit (.int .u8 128), .lit (.int .u8 191)], .agg [.lit (.int .u8 160), .lit (.int .u8 191)], .agg [.lit (.int .u8 128), .lit (.int .u8 159)], .agg [.lit (.int .u8 144), .lit (.int .u8 191)], .agg [.lit (.int .u8 128), .lit (.int .u8 143)], .agg [.lit (.int .u8 0), .lit (.int .u8 0)], .agg [.lit (.int .u8 0), .lit (.int .u8 0)], .agg [.lit (.int .u8 0), .lit (.int .u8 0)], .agg [.lit (.int .u8 0), .lit (.int .u8 0)], .agg [.lit (.int .u8 0), .lit (.int .u8 0)], .agg [.lit (.int .u8 0), .lit (.int .u8 0)], .agg [.lit (.int .u8 0), .lit (.int .u8 0)], .agg [.lit (.int .u8 0), .lit (.int .u8 0)], .agg [.lit (.int .u8 0), .lit (.int .u8 0)], .agg [.lit (.int .u8 0), .lit (.int .u8 0)], .agg [.lit (.int .u8 0), .lit (.int .u8 0)]]
/-- One of Go's own tables, pinned by name: the form's constant. -/
def laid_unicode_utf8_first : DataW Unit := Go.Pinned.utf8First

/-- 'redlinelaw12.OpBack': WHATEVER THE INPUT: true; the input reads as it did. -/
def opBackSpec : ChangeSpec := { name := "opBack", fn := fun _ => fun
  | [d1, d2, d3] => { results := [.lit (.bool true)], args := [d1, d2, d3] }
  | _ => none }
def opBackRow : OpenClaim := { program := "ytdopncbmlehnoaagreatdoor", sum := "69a59fa6bb8cb8fa4590263dcd815bea01eedbd5f1427efe59f64df48b54e221", func := "redline/redlinelaw12.OpBack", spec := "opBack", inPlace := ["internal/bytealg.IndexByteString", "internal/bytealg.IndexString", "slices.overlaps[redline/api.Node]"], unfollowed := true, recurses := true, named := ["unicode/utf8.first", "unicode/utf8.acceptRanges", "internal/bytealg.MaxLen"], loops := true, apart := false, laid := [("unicode/utf8.acceptRanges", laid_unicode_utf8_acceptRanges), ("unicode/utf8.first", laid_unicode_utf8_first)] }
def OpBackSaid : Prop := opBackRow.holds Tryz.pinned (OpenSpec.ofChange opBackSpec)

/-- ITS FALSE NEIGHBOUR: 'it returns false'. Refute it at one input. -/
def opBackWrong : ChangeSpec := { name := "opBack", fn := fun _ => fun
  | [d1, d2, d3] => { results := [.lit (.bool false)], args := [d1, d2, d3] }
  | _ => none }
def OpBackWrongFalsely : Prop := opBackRow.holds Tryz.pinned (OpenSpec.ofChange opBackWrong)

/-- 'redlinelaw12.OpShape': WHATEVER THE INPUT: true; the input reads as it did. -/
def opShapeSpec : ChangeSpec := { name := "opShape", fn := fun _ => fun
  | [d1, d2, d3] => { results := [.lit (.bool true)], args := [d1, d2, d3] }
  | _ => none }
def opShapeRow : OpenClaim := { program := "ytdopncbmlehnoaagreatdoor", sum := "69a59fa6bb8cb8fa4590263dcd815bea01eedbd5f1427efe59f64df48b54e221", func := "redline/redlinelaw12.OpShape", spec := "opShape", inPlace := ["internal/bytealg.IndexByteString", "internal/bytealg.IndexString", "slices.overlaps[redline/api.Node]"], unfollowed := true, recurses := true, named := ["unicode/utf8.first", "unicode/utf8.acceptRanges", "internal/bytealg.MaxLen"], loops := true, apart := false, laid := [("unicode/utf8.acceptRanges", laid_unicode_utf8_acceptRanges), ("unicode/utf8.first", laid_unicode_utf8_first)] }
def OpShapeSaid : Prop := opShapeRow.holds Tryz.pinned (OpenSpec.ofChange opShapeSpec)

/-- ITS FALSE NEIGHBOUR: 'it returns false'. Refute it at one input. -/
def opShapeWrong : ChangeSpec := { name := "opShape", fn := fun _ => fun
  | [d1, d2, d3] => { results := [.lit (.bool false)], args := [d1, d2, d3] }
  | _ => none }
def OpShapeWrongFalsely : Prop := opShapeRow.holds Tryz.pinned (OpenSpec.ofChange opShapeWrong)

/-- 'redlinelaw12.OpSizes': WHATEVER THE INPUT: true; the input reads as it did. -/
def opSizesSpec : ChangeSpec := { name := "opSizes", fn := fun _ => fun
  | [d1, d2, d3] => { results := [.lit (.bool true)], args := [d1, d2, d3] }
  | _ => none }
def opSizesRow : OpenClaim := { program := "ytdopncbmlehnoaagreatdoor", sum := "69a59fa6bb8cb8fa4590263dcd815bea01eedbd5f1427efe59f64df48b54e221", func := "redline/redlinelaw12.OpSizes", spec := "opSizes", inPlace := ["internal/bytealg.IndexByteString", "internal/bytealg.IndexString", "slices.overlaps[redline/api.Node]"], unfollowed := true, recurses := true, named := ["unicode/utf8.first", "unicode/utf8.acceptRanges", "internal/bytealg.MaxLen"], loops := true, apart := false, laid := [("unicode/utf8.acceptRanges", laid_unicode_utf8_acceptRanges), ("unicode/utf8.first", laid_unicode_utf8_first)] }
def OpSizesSaid : Prop := opSizesRow.holds Tryz.pinned (OpenSpec.ofChange opSizesSpec)

/-- ITS FALSE NEIGHBOUR: 'it returns false'. Refute it at one input. -/
def opSizesWrong : ChangeSpec := { name := "opSizes", fn := fun _ => fun
  | [d1, d2, d3] => { results := [.lit (.bool false)], args := [d1, d2, d3] }
  | _ => none }
def OpSizesWrongFalsely : Prop := opSizesRow.holds Tryz.pinned (OpenSpec.ofChange opSizesWrong)

/-- 'redlinelaw12.OpDoes': WHATEVER THE INPUT: true; the input reads as it did. -/
def opDoesSpec : ChangeSpec := { name := "opDoes", fn := fun _ => fun
  | [d1, d2, d3] => { results := [.lit (.bool true)], args := [d1, d2, d3] }
  | _ => none }
def opDoesRow : OpenClaim := { program := "ytdopncbmlehnoaagreatdoor", sum := "69a59fa6bb8cb8fa4590263dcd815bea01eedbd5f1427efe59f64df48b54e221", func := "redline/redlinelaw12.OpDoes", spec := "opDoes", inPlace := ["internal/bytealg.IndexByteString", "internal/bytealg.IndexString", "slices.overlaps[redline/api.Node]"], unfollowed := true, recurses := true, named := ["unicode/utf8.first", "unicode/utf8.acceptRanges", "internal/bytealg.MaxLen"], loops := true, apart := false, laid := [("unicode/utf8.acceptRanges", laid_unicode_utf8_acceptRanges), ("unicode/utf8.first", laid_unicode_utf8_first)] }
def OpDoesSaid : Prop := opDoesRow.holds Tryz.pinned (OpenSpec.ofChange opDoesSpec)

/-- ITS FALSE NEIGHBOUR: 'it returns false'. Refute it at one input. -/
def opDoesWrong : ChangeSpec := { name := "opDoes", fn := fun _ => fun
  | [d1, d2, d3] => { results := [.lit (.bool false)], args := [d1, d2, d3] }
  | _ => none }
def OpDoesWrongFalsely : Prop := opDoesRow.holds Tryz.pinned (OpenSpec.ofChange opDoesWrong)

/-- 'redlinelaw12.OpRight': WHATEVER THE INPUT: true; the input reads as it did. -/
def opRightSpec : ChangeSpec := { name := "opRight", fn := fun _ => fun
  | [d1, d2, d3] => { results := [.lit (.bool true)], args := [d1, d2, d3] }
  | _ => none }
def opRightRow : OpenClaim := { program := "ytdopncbmlehnoaagreatdoor", sum := "69a59fa6bb8cb8fa4590263dcd815bea01eedbd5f1427efe59f64df48b54e221", func := "redline/redlinelaw12.OpRight", spec := "opRight", inPlace := ["internal/bytealg.IndexByteString", "internal/bytealg.IndexString", "slices.overlaps[redline/api.Node]"], unfollowed := true, recurses := true, named := ["unicode/utf8.first", "unicode/utf8.acceptRanges", "internal/bytealg.MaxLen"], loops := true, apart := false, laid := [("unicode/utf8.acceptRanges", laid_unicode_utf8_acceptRanges), ("unicode/utf8.first", laid_unicode_utf8_first)] }
def OpRightSaid : Prop := opRightRow.holds Tryz.pinned (OpenSpec.ofChange opRightSpec)

/-- ITS FALSE NEIGHBOUR: 'it returns false'. Refute it at one input. -/
def opRightWrong : ChangeSpec := { name := "opRight", fn := fun _ => fun
  | [d1, d2, d3] => { results := [.lit (.bool false)], args := [d1, d2, d3] }
  | _ => none }
def OpRightWrongFalsely : Prop := opRightRow.holds Tryz.pinned (OpenSpec.ofChange opRightWrong)

/-- 'redlinelaw12.OpText': WHATEVER THE INPUT: true; the input reads as it did. -/
def opTextSpec : ChangeSpec := { name := "opText", fn := fun _ => fun
  | [d1, d2, d3] => { results := [.lit (.bool true)], args := [d1, d2, d3] }
  | _ => none }
def opTextRow : OpenClaim := { program := "ytdopncbmlehnoaagreatdoor", sum := "69a59fa6bb8cb8fa4590263dcd815bea01eedbd5f1427efe59f64df48b54e221", func := "redline/redlinelaw12.OpText", spec := "opText", inPlace := ["internal/bytealg.IndexByteString", "internal/bytealg.IndexString", "slices.overlaps[redline/api.Node]"], unfollowed := true, recurses := true, named := ["unicode/utf8.first", "unicode/utf8.acceptRanges", "internal/bytealg.MaxLen"], loops := true, apart := false, laid := [("unicode/utf8.acceptRanges", laid_unicode_utf8_acceptRanges), ("unicode/utf8.first", laid_unicode_utf8_first)] }
def OpTextSaid : Prop := opTextRow.holds Tryz.pinned (OpenSpec.ofChange opTextSpec)

/-- ITS FALSE NEIGHBOUR: 'it returns false'. Refute it at one input. -/
def opTextWrong : ChangeSpec := { name := "opText", fn := fun _ => fun
  | [d1, d2, d3] => { results := [.lit (.bool false)], args := [d1, d2, d3] }
  | _ => none }
def OpTextWrongFalsely : Prop := opTextRow.holds Tryz.pinned (OpenSpec.ofChange opTextWrong)

/-- 'redlinelaw12.OpGhost': WHATEVER THE INPUT: true; the input reads as it did. -/
def opGhostSpec : ChangeSpec := { name := "opGhost", fn := fun _ => fun
  | [d1, d2, d3] => { results := [.lit (.bool true)], args := [d1, d2, d3] }
  | _ => none }
def opGhostRow : OpenClaim := { program := "ytdopncbmlehnoaagreatdoor", sum := "69a59fa6bb8cb8fa4590263dcd815bea01eedbd5f1427efe59f64df48b54e221", func := "redline/redlinelaw12.OpGhost", spec := "opGhost", inPlace := ["internal/bytealg.IndexByteString", "internal/bytealg.IndexString", "slices.overlaps[redline/api.Node]"], unfollowed := true, recurses := true, named := ["unicode/utf8.first", "unicode/utf8.acceptRanges", "internal/bytealg.MaxLen"], loops := true, apart := false, laid := [("unicode/utf8.acceptRanges", laid_unicode_utf8_acceptRanges), ("unicode/utf8.first", laid_unicode_utf8_first)] }
def OpGhostSaid : Prop := opGhostRow.holds Tryz.pinned (OpenSpec.ofChange opGhostSpec)

/-- ITS FALSE NEIGHBOUR: 'it returns false'. Refute it at one input. -/
def opGhostWrong : ChangeSpec := { name := "opGhost", fn := fun _ => fun
  | [d1, d2, d3] => { results := [.lit (.bool false)], args := [d1, d2, d3] }
  | _ => none }
def OpGhostWrongFalsely : Prop := opGhostRow.holds Tryz.pinned (OpenSpec.ofChange opGhostWrong)

/- THE SECOND FORM. 'bulk': how many values and letters a reading holds, each counted each time it is reached (what is shared counts as often as it is met; a slice's spare places count too). A statement '..UptoSaid' is the law's where the arguments, and the package variables that the reading takes, are together of bulk at most 1048576: NARROWER than '..Said'. Prove '..Said' where nothing that the law and all that it calls make is longer than what came in: it says more and counts as full. Else prove '..UptoSaid'. A law counts once. -/
mutual
def uptoBulk {H : Type} : DataW H → Nat
  | .lit (.string bytes) => bytes.length + 1
  | .lit _ => 1
  | .nil => 1
  | .ptr d => uptoBulk d + 1
  | .slice elems spare => uptoBulkAll elems + uptoBulkAll spare + 1
  | .agg parts => uptoBulkAll parts + 1
  | .iface _ d => uptoBulk d + 1
  | .map entries => uptoBulkEntries entries + 1
  | .held _ => 1
def uptoBulkAll {H : Type} : List (DataW H) → Nat
  | [] => 0
  | d :: r => uptoBulk d + uptoBulkAll r
def uptoBulkEntries {H : Type} : List (Lit × DataW H) → Nat
  | [] => 0
  | x :: r => uptoBulkEntry x + uptoBulkEntries r
def uptoBulkEntry {H : Type} : Lit × DataW H → Nat
  | (.string bytes, d) => bytes.length + uptoBulk d + 1
  | (_, d) => uptoBulk d + 1
 end
def uptoSmall : (H : Type) → List (DataW H) → Bool := fun _ ds => decide (uptoBulkAll ds ≤ 1048576)
def OpenSpec.upto (s : _root_.Go.ChangeSpec) : _root_.Go.OpenSpec := { _root_.Go.OpenSpec.ofChange s with cond := some uptoSmall }

/-- 'redlinelaw12.OpBack', WHERE WHAT IT READS IS OF BULK AT MOST 1048576: true; the input reads as it did. -/
def opBackUptoRow : OpenClaim := { program := "ytdopncbmlehnoaagreatdoor", sum := "69a59fa6bb8cb8fa4590263dcd815bea01eedbd5f1427efe59f64df48b54e221", func := "redline/redlinelaw12.OpBack", spec := "opBack", inPlace := ["internal/bytealg.IndexByteString", "internal/bytealg.IndexString", "slices.overlaps[redline/api.Node]"], unfollowed := true, recurses := true, named := ["unicode/utf8.first", "unicode/utf8.acceptRanges", "internal/bytealg.MaxLen"], loops := true, apart := false, laid := [("unicode/utf8.acceptRanges", laid_unicode_utf8_acceptRanges), ("unicode/utf8.first", laid_unicode_utf8_first)], narrowed := true }
def OpBackUptoSaid : Prop := opBackUptoRow.holds Tryz.pinned (OpenSpec.upto opBackSpec)

/-- 'redlinelaw12.OpShape', WHERE WHAT IT READS IS OF BULK AT MOST 1048576: true; the input reads as it did. -/
def opShapeUptoRow : OpenClaim := { program := "ytdopncbmlehnoaagreatdoor", sum := "69a59fa6bb8cb8fa4590263dcd815bea01eedbd5f1427efe59f64df48b54e221", func := "redline/redlinelaw12.OpShape", spec := "opShape", inPlace := ["internal/bytealg.IndexByteString", "internal/bytealg.IndexString", "slices.overlaps[redline/api.Node]"], unfollowed := true, recurses := true, named := ["unicode/utf8.first", "unicode/utf8.acceptRanges", "internal/bytealg.MaxLen"], loops := true, apart := false, laid := [("unicode/utf8.acceptRanges", laid_unicode_utf8_acceptRanges), ("unicode/utf8.first", laid_unicode_utf8_first)], narrowed := true }
def OpShapeUptoSaid : Prop := opShapeUptoRow.holds Tryz.pinned (OpenSpec.upto opShapeSpec)

/-- 'redlinelaw12.OpSizes', WHERE WHAT IT READS IS OF BULK AT MOST 1048576: true; the input reads as it did. -/
def opSizesUptoRow : OpenClaim := { program := "ytdopncbmlehnoaagreatdoor", sum := "69a59fa6bb8cb8fa4590263dcd815bea01eedbd5f1427efe59f64df48b54e221", func := "redline/redlinelaw12.OpSizes", spec := "opSizes", inPlace := ["internal/bytealg.IndexByteString", "internal/bytealg.IndexString", "slices.overlaps[redline/api.Node]"], unfollowed := true, recurses := true, named := ["unicode/utf8.first", "unicode/utf8.acceptRanges", "internal/bytealg.MaxLen"], loops := true, apart := false, laid := [("unicode/utf8.acceptRanges", laid_unicode_utf8_acceptRanges), ("unicode/utf8.first", laid_unicode_utf8_first)], narrowed := true }
def OpSizesUptoSaid : Prop := opSizesUptoRow.holds Tryz.pinned (OpenSpec.upto opSizesSpec)

/-- 'redlinelaw12.OpDoes', WHERE WHAT IT READS IS OF BULK AT MOST 1048576: true; the input reads as it did. -/
def opDoesUptoRow : OpenClaim := { program := "ytdopncbmlehnoaagreatdoor", sum := "69a59fa6bb8cb8fa4590263dcd815bea01eedbd5f1427efe59f64df48b54e221", func := "redline/redlinelaw12.OpDoes", spec := "opDoes", inPlace := ["internal/bytealg.IndexByteString", "internal/bytealg.IndexString", "slices.overlaps[redline/api.Node]"], unfollowed := true, recurses := true, named := ["unicode/utf8.first", "unicode/utf8.acceptRanges", "internal/bytealg.MaxLen"], loops := true, apart := false, laid := [("unicode/utf8.acceptRanges", laid_unicode_utf8_acceptRanges), ("unicode/utf8.first", laid_unicode_utf8_first)], narrowed := true }
def OpDoesUptoSaid : Prop := opDoesUptoRow.holds Tryz.pinned (OpenSpec.upto opDoesSpec)

/-- 'redlinelaw12.OpRight', WHERE WHAT IT READS IS OF BULK AT MOST 1048576: true; the input reads as it did. -/
def opRightUptoRow : OpenClaim := { program := "ytdopncbmlehnoaagreatdoor", sum := "69a59fa6bb8cb8fa4590263dcd815bea01eedbd5f1427efe59f64df48b54e221", func := "redline/redlinelaw12.OpRight", spec := "opRight", inPlace := ["internal/bytealg.IndexByteString", "internal/bytealg.IndexString", "slices.overlaps[redline/api.Node]"], unfollowed := true, recurses := true, named := ["unicode/utf8.first", "unicode/utf8.acceptRanges", "internal/bytealg.MaxLen"], loops := true, apart := false, laid := [("unicode/utf8.acceptRanges", laid_unicode_utf8_acceptRanges), ("unicode/utf8.first", laid_unicode_utf8_first)], narrowed := true }
def OpRightUptoSaid : Prop := opRightUptoRow.holds Tryz.pinned (OpenSpec.upto opRightSpec)

/-- 'redlinelaw12.OpText', WHERE WHAT IT READS IS OF BULK AT MOST 1048576: true; the input reads as it did. -/
def opTextUptoRow : OpenClaim := { program := "ytdopncbmlehnoaagreatdoor", sum := "69a59fa6bb8cb8fa4590263dcd815bea01eedbd5f1427efe59f64df48b54e221", func := "redline/redlinelaw12.OpText", spec := "opText", inPlace := ["internal/bytealg.IndexByteString", "internal/bytealg.IndexString", "slices.overlaps[redline/api.Node]"], unfollowed := true, recurses := true, named := ["unicode/utf8.first", "unicode/utf8.acceptRanges", "internal/bytealg.MaxLen"], loops := true, apart := false, laid := [("unicode/utf8.acceptRanges", laid_unicode_utf8_acceptRanges), ("unicode/utf8.first", laid_unicode_utf8_first)], narrowed := true }
def OpTextUptoSaid : Prop := opTextUptoRow.holds Tryz.pinned (OpenSpec.upto opTextSpec)

/-- 'redlinelaw12.OpGhost', WHERE WHAT IT READS IS OF BULK AT MOST 1048576: true; the input reads as it did. -/
def opGhostUptoRow : OpenClaim := { program := "ytdopncbmlehnoaagreatdoor", sum := "69a59fa6bb8cb8fa4590263dcd815bea01eedbd5f1427efe59f64df48b54e221", func := "redline/redlinelaw12.OpGhost", spec := "opGhost", inPlace := ["internal/bytealg.IndexByteString", "internal/bytealg.IndexString", "slices.overlaps[redline/api.Node]"], unfollowed := true, recurses := true, named := ["unicode/utf8.first", "unicode/utf8.acceptRanges", "internal/bytealg.MaxLen"], loops := true, apart := false, laid := [("unicode/utf8.acceptRanges", laid_unicode_utf8_acceptRanges), ("unicode/utf8.first", laid_unicode_utf8_first)], narrowed := true }
def OpGhostUptoSaid : Prop := opGhostUptoRow.holds Tryz.pinned (OpenSpec.upto opGhostSpec)

end Rows
end Go.Proofs.YtdopncbmlehnoaaGreatDoor
