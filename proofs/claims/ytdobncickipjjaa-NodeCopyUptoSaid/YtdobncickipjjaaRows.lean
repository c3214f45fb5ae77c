/-
  NARROWER THAN 'FOR EVERY INPUT', by the rows' own cells (each row's printed sentence says how): NodeSizes: loops · NodeTypes: loops · NodeSame: loops · NodeCopy: loops.
  DERIVED. THE GIVEN ROWS OF THIS SEAT. 4 by the template 'for every input the law returns true; each argument reads behind the call as it read before'; 0 by the template 'total and deterministic' (their statements: YtdobncickipjjaaTotals.lean).
  GIVEN WITH THE SEED: the statements are not yours to turn. If you find one false, say at which input.
  Laid BY PROGRAM, IN A SANDBOX (cutbox-rows.mjs): the forced cells as the released guide's own fill.sh prints them over the translation 4a01ebf8a6873907… (all of the seat's roots in one cut). By AI agents, Wed Nov 11 2026. No macro, syntax, notation, axiom, sorry.
-/
import Derived.Test.YtdobncickipjjaaChecked
import GoSem.Claim
import GoSem.ClaimJoined
import GoSem.ClaimMapViews
import Derived.JoinedTies
import Derived.KernelRfl
namespace Go.Proofs.Ytdobncickipjjaa
/- THE CELL 'sum', in the pinned program and in every row, IS THE sha256 OF THE DUMP (.gsa) THAT YtdobncickipjjaaProg.lean LOADS. Nothing in Lean hashes anything: it is a label: what it is worth is what the hold of that sum in a sandbox is worth. -/
noncomputable def Try.pinned : Pinned := { name := "ytdobncickipjjaa", sum := "4a01ebf8a6873907d4b0e9537b1efc06666724c77cd80343037c20e31a34a676", checked := Try.checked }
namespace Rows
def none {H : Type} : Left H := { results := [], args := [] }

/-- 'redlinelaw04.NodeSizes': WHATEVER THE INPUT: true; the input reads as it did. -/
def nodeSizesSpec : ChangeSpec := { name := "nodeSizes", fn := fun _ => fun
  | [d] => { results := [.lit (.bool true)], args := [d] }
  | _ => none }
def nodeSizesRow : OpenClaim := { program := "ytdobncickipjjaa", sum := "4a01ebf8a6873907d4b0e9537b1efc06666724c77cd80343037c20e31a34a676", func := "redline/redlinelaw04.NodeSizes", spec := "nodeSizes", unfollowed := true, recurses := true, loops := true, apart := false }
def NodeSizesSaid : Prop := nodeSizesRow.holds Try.pinned (OpenSpec.ofChange nodeSizesSpec)

/-- ITS FALSE NEIGHBOUR: 'it returns false'. Refute it at one input. -/
def nodeSizesWrong : ChangeSpec := { name := "nodeSizes", fn := fun _ => fun
  | [d] => { results := [.lit (.bool false)], args := [d] }
  | _ => none }
def NodeSizesWrongFalsely : Prop := nodeSizesRow.holds Try.pinned (OpenSpec.ofChange nodeSizesWrong)

/-- 'redlinelaw04.NodeTypes': WHATEVER THE INPUT: true; the input reads as it did. -/
def nodeTypesSpec : ChangeSpec := { name := "nodeTypes", fn := fun _ => fun
  | [d] => { results := [.lit (.bool true)], args := [d] }
  | _ => none }
def nodeTypesRow : OpenClaim := { program := "ytdobncickipjjaa", sum := "4a01ebf8a6873907d4b0e9537b1efc06666724c77cd80343037c20e31a34a676", func := "redline/redlinelaw04.NodeTypes", spec := "nodeTypes", unfollowed := true, recurses := true, loops := true, apart := false }
def NodeTypesSaid : Prop := nodeTypesRow.holds Try.pinned (OpenSpec.ofChange nodeTypesSpec)

/-- ITS FALSE NEIGHBOUR: 'it returns false'. Refute it at one input. -/
def nodeTypesWrong : ChangeSpec := { name := "nodeTypes", fn := fun _ => fun
  | [d] => { results := [.lit (.bool false)], args := [d] }
  | _ => none }
def NodeTypesWrongFalsely : Prop := nodeTypesRow.holds Try.pinned (OpenSpec.ofChange nodeTypesWrong)

/-- 'redlinelaw04.NodeSame': WHATEVER THE INPUT: true; the input reads as it did. -/
def nodeSameSpec : ChangeSpec := { name := "nodeSame", fn := fun _ => fun
  | [d1, d2] => { results := [.lit (.bool true)], args := [d1, d2] }
  | _ => none }
def nodeSameRow : OpenClaim := { program := "ytdobncickipjjaa", sum := "4a01ebf8a6873907d4b0e9537b1efc06666724c77cd80343037c20e31a34a676", func := "redline/redlinelaw04.NodeSame", spec := "nodeSame", unfollowed := true, recurses := true, loops := true, apart := false }
def NodeSameSaid : Prop := nodeSameRow.holds Try.pinned (OpenSpec.ofChange nodeSameSpec)

/-- ITS FALSE NEIGHBOUR: 'it returns false'. Refute it at one input. -/
def nodeSameWrong : ChangeSpec := { name := "nodeSame", fn := fun _ => fun
  | [d1, d2] => { results := [.lit (.bool false)], args := [d1, d2] }
  | _ => none }
def NodeSameWrongFalsely : Prop := nodeSameRow.holds Try.pinned (OpenSpec.ofChange nodeSameWrong)

/-- 'redlinelaw04.NodeCopy': WHATEVER THE INPUT: true; the input reads as it did. -/
def nodeCopySpec : ChangeSpec := { name := "nodeCopy", fn := fun _ => fun
  | [d] => { results := [.lit (.bool true)], args := [d] }
  | _ => none }
def nodeCopyRow : OpenClaim := { program := "ytdobncickipjjaa", sum := "4a01ebf8a6873907d4b0e9537b1efc06666724c77cd80343037c20e31a34a676", func := "redline/redlinelaw04.NodeCopy", spec := "nodeCopy", unfollowed := true, recurses := true, loops := true, apart := false }
def NodeCopySaid : Prop := nodeCopyRow.holds Try.pinned (OpenSpec.ofChange nodeCopySpec)

/-- ITS FALSE NEIGHBOUR: 'it returns false'. Refute it at one input. -/
def nodeCopyWrong : ChangeSpec := { name := "nodeCopy", fn := fun _ => fun
  | [d] => { results := [.lit (.bool false)], args := [d] }
  | _ => none }
def NodeCopyWrongFalsely : Prop := nodeCopyRow.holds Try.pinned (OpenSpec.ofChange nodeCopyWrong)

/- THE SECOND FORM. 'bulk': how many values and letters a reading holds, each counted each time it is reached (what is shared counts as often as it is met; a slice's spare places count too). A statement '..UptoSaid' is the law's where the arguments, and the package variables that the reading takes, are together of bulk at most 1048576: NARROWER than '..Said'. Prove '..Said' where nothing that the law and all that it calls make is longer than what came in: it says more and counts as full. Else prove '..UptoSaid'. A law counts once. -/
mutual
def uptoBulk {H : Type} : DataW H → Nat
  | .lit (.string bytes) => bytes.length + 1
  | .lit _ => 1
  | .nil => 1
  | .ptr d => uptoBulk d + 1
  | .slice elems spare => uptoBulkAll elems + uptoBulkAll spare + 1
  | .agg parts => uptoBulkAll parts + 1
  | .iface _ d => uptoBulk d + 1
  | .map entries => uptoBulkEntries entries + 1
  | .held _ => 1
def uptoBulkAll {H : Type} : List (DataW H) → Nat
  | [] => 0
  | d :: r => uptoBulk d + uptoBulkAll r
def uptoBulkEntries {H : Type} : List (Lit × DataW H) → Nat
  | [] => 0
  | x :: r => uptoBulkEntry x + uptoBulkEntries r
def uptoBulkEntry {H : Type} : Lit × DataW H → Nat
  | (.string bytes, d) => bytes.length + uptoBulk d + 1
  | (_, d) => uptoBulk d + 1
 end
def uptoSmall : (H : Type) → List (DataW H) → Bool := fun _ ds => decide (uptoBulkAll ds ≤ 1048576)
def OpenSpec.upto (s : _root_.Go.ChangeSpec) : _root_.Go.OpenSpec := { _root_.Go.OpenSpec.ofChange s with cond := some uptoSmall }

/-- 'redlinelaw04.NodeSizes', WHERE WHAT IT READS IS OF BULK AT MOST 1048576: true; the input reads as it did. -/
def nodeSizesUptoRow : OpenClaim := { program := "ytdobncickipjjaa", sum := "4a01ebf8a6873907d4b0e9537b1efc06666724c77cd80343037c20e31a34a676", func := "redline/redlinelaw04.NodeSizes", spec := "nodeSizes", unfollowed := true, recurses := true, loops := true, apart := false, narrowed := true }
def NodeSizesUptoSaid : Prop := nodeSizesUptoRow.holds Try.pinned (OpenSpec.upto nodeSizesSpec)

/-- 'redlinelaw04.NodeTypes', WHERE WHAT IT READS IS OF BULK AT MOST 1048576: true; the input reads as it did. -/
def nodeTypesUptoRow : OpenClaim := { program := "ytdobncickipjjaa", sum := "4a01ebf8a6873907d4b0e9537b1efc06666724c77cd80343037c20e31a34a676", func := "redline/redlinelaw04.NodeTypes", spec := "nodeTypes", unfollowed := true, recurses := true, loops := true, apart := false, narrowed := true }
def NodeTypesUptoSaid : Prop := nodeTypesUptoRow.holds Try.pinned (OpenSpec.upto nodeTypesSpec)

/-- 'redlinelaw04.NodeSame', WHERE WHAT IT READS IS OF BULK AT MOST 1048576: true; the input reads as it did. -/
def nodeSameUptoRow : OpenClaim := { program := "ytdobncickipjjaa", sum := "4a01ebf8a6873907d4b0e9537b1efc06666724c77cd80343037c20e31a34a676", func := "redline/redlinelaw04.NodeSame", spec := "nodeSame", unfollowed := true, recurses := true, loops := true, apart := false, narrowed := true }
def NodeSameUptoSaid : Prop := nodeSameUptoRow.holds Try.pinned (OpenSpec.upto nodeSameSpec)

/-- 'redlinelaw04.NodeCopy', WHERE WHAT IT READS IS OF BULK AT MOST 1048576: true; the input reads as it did. -/
def nodeCopyUptoRow : OpenClaim := { program := "ytdobncickipjjaa", sum := "4a01ebf8a6873907d4b0e9537b1efc06666724c77cd80343037c20e31a34a676", func := "redline/redlinelaw04.NodeCopy", spec := "nodeCopy", unfollowed := true, recurses := true, loops := true, apart := false, narrowed := true }
def NodeCopyUptoSaid : Prop := nodeCopyUptoRow.holds Try.pinned (OpenSpec.upto nodeCopySpec)

end Rows
end Go.Proofs.Ytdobncickipjjaa
