/-
  NARROWER THAN 'FOR EVERY INPUT', by the rows' own cells (each row's printed sentence says how): OpShape: loops, laid · OpDoes: loops, laid · OpGhost: loops, laid · CmdRaised: loops, laid · CmdWrapped: loops, laid · HoldBeside: loops, laid · HoldRight: loops, laid · FragPastes: loops, laid · FragPut: loops, laid · HoldPath: loops, laid.
  DERIVED. THE GIVEN ROWS OF THIS SEAT. 10 by the template 'for every input the law returns true; each argument reads behind the call as it read before'; 0 by the template 'total and deterministic' (their statements: YtbhbekocmpmjfaaGreatDoorTotals.lean).
  GIVEN WITH THE SEED: the statements are not yours to turn. If you find one false, say at which input.
  Laid BY PROGRAM, IN A SANDBOX (cutbox-rows.mjs): the forced cells as the released guide's own fill.sh prints them over the translation b3f99cae98385604… (all of the seat's roots in one cut). By AI agents, Wed Nov 11 2026. No macro, syntax, notation, axiom, sorry.
-/
import Derived.Test.YtbhbekocmpmjfaaGreatDoorChecked
import GoSem.PinnedTables
import GoSem.Claim
import GoSem.ClaimJoined
import GoSem.ClaimMapViews
import Derived.JoinedTies
import Derived.KernelRfl
namespace Go.Proofs.YtbhbekocmpmjfaaGreatDoor
/- THE CELL 'sum', in the pinned program and in every row, IS THE sha256 OF THE DUMP (.gsa) THAT YtbhbekocmpmjfaaGreatDoorProg.lean LOADS. Nothing in Lean hashes anything: it is a label: what it is worth is what the hold of that sum in a sandbox is worth. -/
noncomputable def Tryz.pinned : Pinned := { name := "ytbhbekocmpmjfaagreatdoor", sum := "b3f99cae983856040c76b63963c6f43d4e3e668e367e0d50d013cc629d512416", checked := Tryz.checked }
namespace Rows
def none {H : Type} : Left H := { results := [], args := [] }

/- WHAT THE LISTED PACKAGE-LEVEL VARIABLES READ AS WHEN THE CALL BEGINS. Each datum BY PROGRAM (the guide's laid-datum.mjs) off the statement by which the dump's own 'gosem.cut.vars' lays the variable. In a bare row this is a premise. The card (YtbhbekocmpmjfaaGreatDoorCards.lean) ties it to the program's text. -/
def laid_unicode_utf8_acceptRanges {H : Type} : DataW H := .agg [.agg [.lit (.int .u8 128), .lit (.int .u8 191)], .agg [.lit (.int .u8 160), .lit (.int .u8 191)], .agg [.lit (.int .u8 128), .lit (.int .u8 159)], .agg [.lit (.int .u8 144), .lit (.int .u8 191)], .agg [.lit (.int .u8 128), .lit (.int .u8 143)], .agg [.lit (.int .u8 0), .lit (.int .u8 0)], .agg [.lit (.int .u8 0), .lit (.int .u8 0)], .agg [.lit (.int .u8 0), .lit (.int .u8 0)], .agg [.lit (.int .u8 0), .lit (.int .u8 0)], .agg [.lit (.int .u8 0), .lit (.int .u8 0)], .agg [.lit (.int .u8 0), .lit (.int .u8 0)], .agg [.lit (.int .u8 0), .lit (.int .u8 0)], .agg [.lit (.int .u8 0), .lit (.int .u8 0)], .agg [.lit (.int .u8 0), .lit (.int .u8 0)], .agg [.lit (.int .u8 0), .lit (.int .u8 0)], .agg [.lit (.int .u8 0), .lit (.int .u8 0)]]
/-- One of Go's own tables, pinned by name: the form's constant. -/
def laid_unicode_utf8_first : DataW Unit := Go.Pinned.utf8First

/-- 'redlinelaw12.OpShape': WHATEVER THE INPUT: true; the input reads as it did. -/
def opShapeSpec : ChangeSpec := { name := "opShape", fn := fun _ => fun
  | [d1, d2, d3] => { results := [.lit (.bool true)], args := [d1, d2, d3] }
  | _ => none }
def opShapeRow : OpenClaim := { program := "ytbhbekocmpmjfaagreatdoor", sum := "b3f99cae983856040c76b63963c6f43d4e3e668e367e0d50d013cc629d512416", func := "redline/redlinelaw12.OpShape", spec := "opShape", inPlace := ["internal/bytealg.IndexByteString", "internal/bytealg.IndexString", "slices.overlaps[redline/api.Node]"], unfollowed := true, recurses := true, named := ["unicode/utf8.first", "unicode/utf8.acceptRanges", "internal/bytealg.MaxLen"], loops := true, apart := false, laid := [("unicode/utf8.acceptRanges", laid_unicode_utf8_acceptRanges), ("unicode/utf8.first", laid_unicode_utf8_first)] }
def OpShapeSaid : Prop := opShapeRow.holds Tryz.pinned (OpenSpec.ofChange opShapeSpec)

/-- ITS FALSE NEIGHBOUR: 'it returns false'. Refute it at one input. -/
def opShapeWrong : ChangeSpec := { name := "opShape", fn := fun _ => fun
  | [d1, d2, d3] => { results := [.lit (.bool false)], args := [d1, d2, d3] }
  | _ => none }
def OpShapeWrongFalsely : Prop := opShapeRow.holds Tryz.pinned (OpenSpec.ofChange opShapeWrong)

/-- 'redlinelaw12.OpDoes': WHATEVER THE INPUT: true; the input reads as it did. -/
def opDoesSpec : ChangeSpec := { name := "opDoes", fn := fun _ => fun
  | [d1, d2, d3] => { results := [.lit (.bool true)], args := [d1, d2, d3] }
  | _ => none }
def opDoesRow : OpenClaim := { program := "ytbhbekocmpmjfaagreatdoor", sum := "b3f99cae983856040c76b63963c6f43d4e3e668e367e0d50d013cc629d512416", func := "redline/redlinelaw12.OpDoes", spec := "opDoes", inPlace := ["internal/bytealg.IndexByteString", "internal/bytealg.IndexString", "slices.overlaps[redline/api.Node]"], unfollowed := true, recurses := true, named := ["unicode/utf8.first", "unicode/utf8.acceptRanges", "internal/bytealg.MaxLen"], loops := true, apart := false, laid := [("unicode/utf8.acceptRanges", laid_unicode_utf8_acceptRanges), ("unicode/utf8.first", laid_unicode_utf8_first)] }
def OpDoesSaid : Prop := opDoesRow.holds Tryz.pinned (OpenSpec.ofChange opDoesSpec)

/-- ITS FALSE NEIGHBOUR: 'it returns false'. Refute it at one input. -/
def opDoesWrong : ChangeSpec := { name := "opDoes", fn := fun _ => fun
  | [d1, d2, d3] => { results := [.lit (.bool false)], args := [d1, d2, d3] }
  | _ => none }
def OpDoesWrongFalsely : Prop := opDoesRow.holds Tryz.pinned (OpenSpec.ofChange opDoesWrong)

/-- 'redlinelaw12.OpGhost': WHATEVER THE INPUT: true; the input reads as it did. -/
def opGhostSpec : ChangeSpec := { name := "opGhost", fn := fun _ => fun
  | [d1, d2, d3] => { results := [.lit (.bool true)], args := [d1, d2, d3] }
  | _ => none }
def opGhostRow : OpenClaim := { program := "ytbhbekocmpmjfaagreatdoor", sum := "b3f99cae983856040c76b63963c6f43d4e3e668e367e0d50d013cc629d512416", func := "redline/redlinelaw12.OpGhost", spec := "opGhost", inPlace := ["internal/bytealg.IndexByteString", "internal/bytealg.IndexString", "slices.overlaps[redline/api.Node]"], unfollowed := true, recurses := true, named := ["unicode/utf8.first", "unicode/utf8.acceptRanges", "internal/bytealg.MaxLen"], loops := true, apart := false, laid := [("unicode/utf8.acceptRanges", laid_unicode_utf8_acceptRanges), ("unicode/utf8.first", laid_unicode_utf8_first)] }
def OpGhostSaid : Prop := opGhostRow.holds Tryz.pinned (OpenSpec.ofChange opGhostSpec)

/-- ITS FALSE NEIGHBOUR: 'it returns false'. Refute it at one input. -/
def opGhostWrong : ChangeSpec := { name := "opGhost", fn := fun _ => fun
  | [d1, d2, d3] => { results := [.lit (.bool false)], args := [d1, d2, d3] }
  | _ => none }
def OpGhostWrongFalsely : Prop := opGhostRow.holds Tryz.pinned (OpenSpec.ofChange opGhostWrong)

/-- 'redlinelaw23.CmdRaised': WHATEVER THE INPUT: true; the input reads as it did. -/
def cmdRaisedSpec : ChangeSpec := { name := "cmdRaised", fn := fun _ => fun
  | [d1, d2] => { results := [.lit (.bool true)], args := [d1, d2] }
  | _ => none }
def cmdRaisedRow : OpenClaim := { program := "ytbhbekocmpmjfaagreatdoor", sum := "b3f99cae983856040c76b63963c6f43d4e3e668e367e0d50d013cc629d512416", func := "redline/redlinelaw23.CmdRaised", spec := "cmdRaised", inPlace := ["internal/bytealg.IndexByteString", "internal/bytealg.IndexString", "slices.overlaps[redline/api.Node]"], unfollowed := true, recurses := true, named := ["unicode/utf8.first", "unicode/utf8.acceptRanges", "internal/bytealg.MaxLen"], loops := true, apart := false, laid := [("unicode/utf8.acceptRanges", laid_unicode_utf8_acceptRanges), ("unicode/utf8.first", laid_unicode_utf8_first)] }
def CmdRaisedSaid : Prop := cmdRaisedRow.holds Tryz.pinned (OpenSpec.ofChange cmdRaisedSpec)

/-- ITS FALSE NEIGHBOUR: 'it returns false'. Refute it at one input. -/
def cmdRaisedWrong : ChangeSpec := { name := "cmdRaised", fn := fun _ => fun
  | [d1, d2] => { results := [.lit (.bool false)], args := [d1, d2] }
  | _ => none }
def CmdRaisedWrongFalsely : Prop := cmdRaisedRow.holds Tryz.pinned (OpenSpec.ofChange cmdRaisedWrong)

/-- 'redlinelaw23.CmdWrapped': WHATEVER THE INPUT: true; the input reads as it did. -/
def cmdWrappedSpec : ChangeSpec := { name := "cmdWrapped", fn := fun _ => fun
  | [d1, d2, d3] => { results := [.lit (.bool true)], args := [d1, d2, d3] }
  | _ => none }
def cmdWrappedRow : OpenClaim := { program := "ytbhbekocmpmjfaagreatdoor", sum := "b3f99cae983856040c76b63963c6f43d4e3e668e367e0d50d013cc629d512416", func := "redline/redlinelaw23.CmdWrapped", spec := "cmdWrapped", inPlace := ["internal/bytealg.IndexByteString", "internal/bytealg.IndexString", "slices.overlaps[redline/api.Node]"], unfollowed := true, recurses := true, named := ["unicode/utf8.first", "unicode/utf8.acceptRanges", "internal/bytealg.MaxLen"], loops := true, apart := false, laid := [("unicode/utf8.acceptRanges", laid_unicode_utf8_acceptRanges), ("unicode/utf8.first", laid_unicode_utf8_first)] }
def CmdWrappedSaid : Prop := cmdWrappedRow.holds Tryz.pinned (OpenSpec.ofChange cmdWrappedSpec)

/-- ITS FALSE NEIGHBOUR: 'it returns false'. Refute it at one input. -/
def cmdWrappedWrong : ChangeSpec := { name := "cmdWrapped", fn := fun _ => fun
  | [d1, d2, d3] => { results := [.lit (.bool false)], args := [d1, d2, d3] }
  | _ => none }
def CmdWrappedWrongFalsely : Prop := cmdWrappedRow.holds Tryz.pinned (OpenSpec.ofChange cmdWrappedWrong)

/-- 'redlinelaw14.HoldBeside': WHATEVER THE INPUT: true; the input reads as it did. -/
def holdBesideSpec : ChangeSpec := { name := "holdBeside", fn := fun _ => fun
  | [d1, d2, d3, d4] => { results := [.lit (.bool true)], args := [d1, d2, d3, d4] }
  | _ => none }
def holdBesideRow : OpenClaim := { program := "ytbhbekocmpmjfaagreatdoor", sum := "b3f99cae983856040c76b63963c6f43d4e3e668e367e0d50d013cc629d512416", func := "redline/redlinelaw14.HoldBeside", spec := "holdBeside", inPlace := ["internal/bytealg.IndexByteString", "internal/bytealg.IndexString", "slices.overlaps[redline/api.Node]"], unfollowed := true, recurses := true, named := ["unicode/utf8.first", "unicode/utf8.acceptRanges", "internal/bytealg.MaxLen"], loops := true, apart := false, laid := [("unicode/utf8.acceptRanges", laid_unicode_utf8_acceptRanges), ("unicode/utf8.first", laid_unicode_utf8_first)] }
def HoldBesideSaid : Prop := holdBesideRow.holds Tryz.pinned (OpenSpec.ofChange holdBesideSpec)

/-- ITS FALSE NEIGHBOUR: 'it returns false'. Refute it at one input. -/
def holdBesideWrong : ChangeSpec := { name := "holdBeside", fn := fun _ => fun
  | [d1, d2, d3, d4] => { results := [.lit (.bool false)], args := [d1, d2, d3, d4] }
  | _ => none }
def HoldBesideWrongFalsely : Prop := holdBesideRow.holds Tryz.pinned (OpenSpec.ofChange holdBesideWrong)

/-- 'redlinelaw14.HoldRight': WHATEVER THE INPUT: true; the input reads as it did. -/
def holdRightSpec : ChangeSpec := { name := "holdRight", fn := fun _ => fun
  | [d1, d2, d3] => { results := [.lit (.bool true)], args := [d1, d2, d3] }
  | _ => none }
def holdRightRow : OpenClaim := { program := "ytbhbekocmpmjfaagreatdoor", sum := "b3f99cae983856040c76b63963c6f43d4e3e668e367e0d50d013cc629d512416", func := "redline/redlinelaw14.HoldRight", spec := "holdRight", inPlace := ["internal/bytealg.IndexByteString", "internal/bytealg.IndexString", "slices.overlaps[redline/api.Node]"], unfollowed := true, recurses := true, named := ["unicode/utf8.first", "unicode/utf8.acceptRanges", "internal/bytealg.MaxLen"], loops := true, apart := false, laid := [("unicode/utf8.acceptRanges", laid_unicode_utf8_acceptRanges), ("unicode/utf8.first", laid_unicode_utf8_first)] }
def HoldRightSaid : Prop := holdRightRow.holds Tryz.pinned (OpenSpec.ofChange holdRightSpec)

/-- ITS FALSE NEIGHBOUR: 'it returns false'. Refute it at one input. -/
def holdRightWrong : ChangeSpec := { name := "holdRight", fn := fun _ => fun
  | [d1, d2, d3] => { results := [.lit (.bool false)], args := [d1, d2, d3] }
  | _ => none }
def HoldRightWrongFalsely : Prop := holdRightRow.holds Tryz.pinned (OpenSpec.ofChange holdRightWrong)

/-- 'redlinelaw22.FragPastes': WHATEVER THE INPUT: true; the input reads as it did. -/
def fragPastesSpec : ChangeSpec := { name := "fragPastes", fn := fun _ => fun
  | [d1, d2, d3] => { results := [.lit (.bool true)], args := [d1, d2, d3] }
  | _ => none }
def fragPastesRow : OpenClaim := { program := "ytbhbekocmpmjfaagreatdoor", sum := "b3f99cae983856040c76b63963c6f43d4e3e668e367e0d50d013cc629d512416", func := "redline/redlinelaw22.FragPastes", spec := "fragPastes", inPlace := ["internal/bytealg.IndexByteString", "internal/bytealg.IndexString", "slices.overlaps[redline/api.Node]"], unfollowed := true, recurses := true, named := ["unicode/utf8.first", "unicode/utf8.acceptRanges", "internal/bytealg.MaxLen"], loops := true, apart := false, laid := [("unicode/utf8.acceptRanges", laid_unicode_utf8_acceptRanges), ("unicode/utf8.first", laid_unicode_utf8_first)] }
def FragPastesSaid : Prop := fragPastesRow.holds Tryz.pinned (OpenSpec.ofChange fragPastesSpec)

/-- ITS FALSE NEIGHBOUR: 'it returns false'. Refute it at one input. -/
def fragPastesWrong : ChangeSpec := { name := "fragPastes", fn := fun _ => fun
  | [d1, d2, d3] => { results := [.lit (.bool false)], args := [d1, d2, d3] }
  | _ => none }
def FragPastesWrongFalsely : Prop := fragPastesRow.holds Tryz.pinned (OpenSpec.ofChange fragPastesWrong)

/-- 'redlinelaw22.FragPut': WHATEVER THE INPUT: true; the input reads as it did. -/
def fragPutSpec : ChangeSpec := { name := "fragPut", fn := fun _ => fun
  | [d1, d2, d3] => { results := [.lit (.bool true)], args := [d1, d2, d3] }
  | _ => none }
def fragPutRow : OpenClaim := { program := "ytbhbekocmpmjfaagreatdoor", sum := "b3f99cae983856040c76b63963c6f43d4e3e668e367e0d50d013cc629d512416", func := "redline/redlinelaw22.FragPut", spec := "fragPut", inPlace := ["internal/bytealg.IndexByteString", "internal/bytealg.IndexString", "slices.overlaps[redline/api.Node]"], unfollowed := true, recurses := true, named := ["unicode/utf8.first", "unicode/utf8.acceptRanges", "internal/bytealg.MaxLen"], loops := true, apart := false, laid := [("unicode/utf8.acceptRanges", laid_unicode_utf8_acceptRanges), ("unicode/utf8.first", laid_unicode_utf8_first)] }
def FragPutSaid : Prop := fragPutRow.holds Tryz.pinned (OpenSpec.ofChange fragPutSpec)

/-- ITS FALSE NEIGHBOUR: 'it returns false'. Refute it at one input. -/
def fragPutWrong : ChangeSpec := { name := "fragPut", fn := fun _ => fun
  | [d1, d2, d3] => { results := [.lit (.bool false)], args := [d1, d2, d3] }
  | _ => none }
def FragPutWrongFalsely : Prop := fragPutRow.holds Tryz.pinned (OpenSpec.ofChange fragPutWrong)

/-- 'redlinelaw14.HoldPath': WHATEVER THE INPUT: true; the input reads as it did. -/
def holdPathSpec : ChangeSpec := { name := "holdPath", fn := fun _ => fun
  | [d1, d2, d3] => { results := [.lit (.bool true)], args := [d1, d2, d3] }
  | _ => none }
def holdPathRow : OpenClaim := { program := "ytbhbekocmpmjfaagreatdoor", sum := "b3f99cae983856040c76b63963c6f43d4e3e668e367e0d50d013cc629d512416", func := "redline/redlinelaw14.HoldPath", spec := "holdPath", inPlace := ["internal/bytealg.IndexByteString", "internal/bytealg.IndexString", "slices.overlaps[redline/api.Node]"], unfollowed := true, recurses := true, named := ["unicode/utf8.first", "unicode/utf8.acceptRanges", "internal/bytealg.MaxLen"], loops := true, apart := false, laid := [("unicode/utf8.acceptRanges", laid_unicode_utf8_acceptRanges), ("unicode/utf8.first", laid_unicode_utf8_first)] }
def HoldPathSaid : Prop := holdPathRow.holds Tryz.pinned (OpenSpec.ofChange holdPathSpec)

/-- ITS FALSE NEIGHBOUR: 'it returns false'. Refute it at one input. -/
def holdPathWrong : ChangeSpec := { name := "holdPath", fn := fun _ => fun
  | [d1, d2, d3] => { results := [.lit (.bool false)], args := [d1, d2, d3] }
  | _ => none }
def HoldPathWrongFalsely : Prop := holdPathRow.holds Tryz.pinned (OpenSpec.ofChange holdPathWrong)

/- THE SECOND FORM. 'bulk': how many values and letters a reading holds, each counted each time it is reached (what is shared counts as often as it is met; a slice's spare places count too). A statement '..UptoSaid' is the law's where the arguments, and the package variables that the reading takes, are together of bulk at most 1048576: NARROWER than '..Said'. Prove '..Said' where nothing that the law and all that it calls make is longer than what came in: it says more and counts as full. Else prove '..UptoSaid'. A law counts once. -/
mutual
def uptoBulk {H : Type} : DataW H → Nat
  | .lit (.string bytes) => bytes.length + 1
  | .lit _ => 1
  | .nil => 1
  | .ptr d => uptoBulk d + 1
  | .slice elems spare => uptoBulkAll elems + uptoBulkAll spare + 1
  | .agg parts => uptoBulkAll parts + 1
  | .iface _ d => uptoBulk d + 1
  | .map entries => uptoBulkEntries entries + 1
  | .held _ => 1
def uptoBulkAll {H : Type} : List (DataW H) → Nat
  | [] => 0
  | d :: r => uptoBulk d + uptoBulkAll r
def uptoBulkEntries {H : Type} : List (Lit × DataW H) → Nat
  | [] => 0
  | x :: r => uptoBulkEntry x + uptoBulkEntries r
def uptoBulkEntry {H : Type} : Lit × DataW H → Nat
  | (.string bytes, d) => bytes.length + uptoBulk d + 1
  | (_, d) => uptoBulk d + 1
 end
def uptoSmall : (H : Type) → List (DataW H) → Bool := fun _ ds => decide (uptoBulkAll ds ≤ 1048576)
def OpenSpec.upto (s : _root_.Go.ChangeSpec) : _root_.Go.OpenSpec := { _root_.Go.OpenSpec.ofChange s with cond := some uptoSmall }

/-- 'redlinelaw12.OpShape', WHERE WHAT IT READS IS OF BULK AT MOST 1048576: true; the input reads as it did. -/
def opShapeUptoRow : OpenClaim := { program := "ytbhbekocmpmjfaagreatdoor", sum := "b3f99cae983856040c76b63963c6f43d4e3e668e367e0d50d013cc629d512416", func := "redline/redlinelaw12.OpShape", spec := "opShape", inPlace := ["internal/bytealg.IndexByteString", "internal/bytealg.IndexString", "slices.overlaps[redline/api.Node]"], unfollowed := true, recurses := true, named := ["unicode/utf8.first", "unicode/utf8.acceptRanges", "internal/bytealg.MaxLen"], loops := true, apart := false, laid := [("unicode/utf8.acceptRanges", laid_unicode_utf8_acceptRanges), ("unicode/utf8.first", laid_unicode_utf8_first)], narrowed := true }
def OpShapeUptoSaid : Prop := opShapeUptoRow.holds Tryz.pinned (OpenSpec.upto opShapeSpec)

/-- 'redlinelaw12.OpDoes', WHERE WHAT IT READS IS OF BULK AT MOST 1048576: true; the input reads as it did. -/
def opDoesUptoRow : OpenClaim := { program := "ytbhbekocmpmjfaagreatdoor", sum := "b3f99cae983856040c76b63963c6f43d4e3e668e367e0d50d013cc629d512416", func := "redline/redlinelaw12.OpDoes", spec := "opDoes", inPlace := ["internal/bytealg.IndexByteString", "internal/bytealg.IndexString", "slices.overlaps[redline/api.Node]"], unfollowed := true, recurses := true, named := ["unicode/utf8.first", "unicode/utf8.acceptRanges", "internal/bytealg.MaxLen"], loops := true, apart := false, laid := [("unicode/utf8.acceptRanges", laid_unicode_utf8_acceptRanges), ("unicode/utf8.first", laid_unicode_utf8_first)], narrowed := true }
def OpDoesUptoSaid : Prop := opDoesUptoRow.holds Tryz.pinned (OpenSpec.upto opDoesSpec)

/-- 'redlinelaw12.OpGhost', WHERE WHAT IT READS IS OF BULK AT MOST 1048576: true; the input reads as it did. -/
def opGhostUptoRow : OpenClaim := { program := "ytbhbekocmpmjfaagreatdoor", sum := "b3f99cae983856040c76b63963c6f43d4e3e668e367e0d50d013cc629d512416", func := "redline/redlinelaw12.OpGhost", spec := "opGhost", inPlace := ["internal/bytealg.IndexByteString", "internal/bytealg.IndexString", "slices.overlaps[redline/api.Node]"], unfollowed := true, recurses := true, named := ["unicode/utf8.first", "unicode/utf8.acceptRanges", "internal/bytealg.MaxLen"], loops := true, apart := false, laid := [("unicode/utf8.acceptRanges", laid_unicode_utf8_acceptRanges), ("unicode/utf8.first", laid_unicode_utf8_first)], narrowed := true }
def OpGhostUptoSaid : Prop := opGhostUptoRow.holds Tryz.pinned (OpenSpec.upto opGhostSpec)

/-- 'redlinelaw23.CmdRaised', WHERE WHAT IT READS IS OF BULK AT MOST 1048576: true; the input reads as it did. -/
def cmdRaisedUptoRow : OpenClaim := { program := "ytbhbekocmpmjfaagreatdoor", sum := "b3f99cae983856040c76b63963c6f43d4e3e668e367e0d50d013cc629d512416", func := "redline/redlinelaw23.CmdRaised", spec := "cmdRaised", inPlace := ["internal/bytealg.IndexByteString", "internal/bytealg.IndexString", "slices.overlaps[redline/api.Node]"], unfollowed := true, recurses := true, named := ["unicode/utf8.first", "unicode/utf8.acceptRanges", "internal/bytealg.MaxLen"], loops := true, apart := false, laid := [("unicode/utf8.acceptRanges", laid_unicode_utf8_acceptRanges), ("unicode/utf8.first", laid_unicode_utf8_first)], narrowed := true }
def CmdRaisedUptoSaid : Prop := cmdRaisedUptoRow.holds Tryz.pinned (OpenSpec.upto cmdRaisedSpec)

/-- 'redlinelaw23.CmdWrapped', WHERE WHAT IT READS IS OF BULK AT MOST 1048576: true; the input reads as it did. -/
def cmdWrappedUptoRow : OpenClaim := { program := "ytbhbekocmpmjfaagreatdoor", sum := "b3f99cae983856040c76b63963c6f43d4e3e668e367e0d50d013cc629d512416", func := "redline/redlinelaw23.CmdWrapped", spec := "cmdWrapped", inPlace := ["internal/bytealg.IndexByteString", "internal/bytealg.IndexString", "slices.overlaps[redline/api.Node]"], unfollowed := true, recurses := true, named := ["unicode/utf8.first", "unicode/utf8.acceptRanges", "internal/bytealg.MaxLen"], loops := true, apart := false, laid := [("unicode/utf8.acceptRanges", laid_unicode_utf8_acceptRanges), ("unicode/utf8.first", laid_unicode_utf8_first)], narrowed := true }
def CmdWrappedUptoSaid : Prop := cmdWrappedUptoRow.holds Tryz.pinned (OpenSpec.upto cmdWrappedSpec)

/-- 'redlinelaw14.HoldBeside', WHERE WHAT IT READS IS OF BULK AT MOST 1048576: true; the input reads as it did. -/
def holdBesideUptoRow : OpenClaim := { program := "ytbhbekocmpmjfaagreatdoor", sum := "b3f99cae983856040c76b63963c6f43d4e3e668e367e0d50d013cc629d512416", func := "redline/redlinelaw14.HoldBeside", spec := "holdBeside", inPlace := ["internal/bytealg.IndexByteString", "internal/bytealg.IndexString", "slices.overlaps[redline/api.Node]"], unfollowed := true, recurses := true, named := ["unicode/utf8.first", "unicode/utf8.acceptRanges", "internal/bytealg.MaxLen"], loops := true, apart := false, laid := [("unicode/utf8.acceptRanges", laid_unicode_utf8_acceptRanges), ("unicode/utf8.first", laid_unicode_utf8_first)], narrowed := true }
def HoldBesideUptoSaid : Prop := holdBesideUptoRow.holds Tryz.pinned (OpenSpec.upto holdBesideSpec)

/-- 'redlinelaw14.HoldRight', WHERE WHAT IT READS IS OF BULK AT MOST 1048576: true; the input reads as it did. -/
def holdRightUptoRow : OpenClaim := { program := "ytbhbekocmpmjfaagreatdoor", sum := "b3f99cae983856040c76b63963c6f43d4e3e668e367e0d50d013cc629d512416", func := "redline/redlinelaw14.HoldRight", spec := "holdRight", inPlace := ["internal/bytealg.IndexByteString", "internal/bytealg.IndexString", "slices.overlaps[redline/api.Node]"], unfollowed := true, recurses := true, named := ["unicode/utf8.first", "unicode/utf8.acceptRanges", "internal/bytealg.MaxLen"], loops := true, apart := false, laid := [("unicode/utf8.acceptRanges", laid_unicode_utf8_acceptRanges), ("unicode/utf8.first", laid_unicode_utf8_first)], narrowed := true }
def HoldRightUptoSaid : Prop := holdRightUptoRow.holds Tryz.pinned (OpenSpec.upto holdRightSpec)

/-- 'redlinelaw22.FragPastes', WHERE WHAT IT READS IS OF BULK AT MOST 1048576: true; the input reads as it did. -/
def fragPastesUptoRow : OpenClaim := { program := "ytbhbekocmpmjfaagreatdoor", sum := "b3f99cae983856040c76b63963c6f43d4e3e668e367e0d50d013cc629d512416", func := "redline/redlinelaw22.FragPastes", spec := "fragPastes", inPlace := ["internal/bytealg.IndexByteString", "internal/bytealg.IndexString", "slices.overlaps[redline/api.Node]"], unfollowed := true, recurses := true, named := ["unicode/utf8.first", "unicode/utf8.acceptRanges", "internal/bytealg.MaxLen"], loops := true, apart := false, laid := [("unicode/utf8.acceptRanges", laid_unicode_utf8_acceptRanges), ("unicode/utf8.first", laid_unicode_utf8_first)], narrowed := true }
def FragPastesUptoSaid : Prop := fragPastesUptoRow.holds Tryz.pinned (OpenSpec.upto fragPastesSpec)

/-- 'redlinelaw22.FragPut', WHERE WHAT IT READS IS OF BULK AT MOST 1048576: true; the input reads as it did. -/
def fragPutUptoRow : OpenClaim := { program := "ytbhbekocmpmjfaagreatdoor", sum := "b3f99cae983856040c76b63963c6f43d4e3e668e367e0d50d013cc629d512416", func := "redline/redlinelaw22.FragPut", spec := "fragPut", inPlace := ["internal/bytealg.IndexByteString", "internal/bytealg.IndexString", "slices.overlaps[redline/api.Node]"], unfollowed := true, recurses := true, named := ["unicode/utf8.first", "unicode/utf8.acceptRanges", "internal/bytealg.MaxLen"], loops := true, apart := false, laid := [("unicode/utf8.acceptRanges", laid_unicode_utf8_acceptRanges), ("unicode/utf8.first", laid_unicode_utf8_first)], narrowed := true }
def FragPutUptoSaid : Prop := fragPutUptoRow.holds Tryz.pinned (OpenSpec.upto fragPutSpec)

/-- 'redlinelaw14.HoldPath', WHERE WHAT IT READS IS OF BULK AT MOST 1048576: true; the input reads as it did. -/
def holdPathUptoRow : OpenClaim := { program := "ytbhbekocmpmjfaagreatdoor", sum := "b3f99cae983856040c76b63963c6f43d4e3e668e367e0d50d013cc629d512416", func := "redline/redlinelaw14.HoldPath", spec := "holdPath", inPlace := ["internal/bytealg.IndexByteString", "internal/bytealg.IndexString", "slices.overlaps[redline/api.Node]"], unfollowed := true, recurses := true, named := ["unicode/utf8.first", "unicode/utf8.acceptRanges", "internal/bytealg.MaxLen"], loops := true, apart := false, laid := [("unicode/utf8.acceptRanges", laid_unicode_utf8_acceptRanges), ("unicode/utf8.first", laid_unicode_utf8_first)], narrowed := true }
def HoldPathUptoSaid : Prop := holdPathUptoRow.holds Tryz.pinned (OpenSpec.upto holdPathSpec)

end Rows
end Go.Proofs.YtbhbekocmpmjfaaGreatDoor
