/-
  NARROWER THAN 'FOR EVERY INPUT', by the rows' own cells (each row's printed sentence says how): ValidSees: loops · ValidLeaf: loops · ValidFinds: loops · ValidParts: loops.
  DERIVED. THE GIVEN ROWS OF THIS SEAT. 4 by the template 'for every input the law returns true; each argument reads behind the call as it read before'; 0 by the template 'total and deterministic' (their statements: YtnkmcbhpmbjkpaaTotals.lean).
  GIVEN WITH THE SEED: the statements are not yours to turn. If you find one false, say at which input.
  Laid BY PROGRAM, IN A SANDBOX (cutbox-rows.mjs): the forced cells as the released guide's own fill.sh prints them over the translation f05092209f2c618f… (all of the seat's roots in one cut). By AI agents, Wed Nov 11 2026. No macro, syntax, notation, axiom, sorry.
-/
import Derived.Test.YtnkmcbhpmbjkpaaChecked
import GoSem.Claim
import GoSem.ClaimJoined
import GoSem.ClaimMapViews
import Derived.JoinedTies
import Derived.KernelRfl
namespace Go.Proofs.Ytnkmcbhpmbjkpaa
/- THE CELL 'sum', in the pinned program and in every row, IS THE sha256 OF THE DUMP (.gsa) THAT YtnkmcbhpmbjkpaaProg.lean LOADS. Nothing in Lean hashes anything: it is a label: what it is worth is what the hold of that sum in a sandbox is worth. -/
noncomputable def Try.pinned : Pinned := { name := "ytnkmcbhpmbjkpaa", sum := "f05092209f2c618f76d54168280b37dbe34fa1a319c31592547fe3cffdfddc7e", checked := Try.checked }
namespace Rows
def none {H : Type} : Left H := { results := [], args := [] }

/-- 'redlinelaw16.ValidSees': WHATEVER THE INPUT: true; the input reads as it did. -/
def validSeesSpec : ChangeSpec := { name := "validSees", fn := fun _ => fun
  | [d1, d2] => { results := [.lit (.bool true)], args := [d1, d2] }
  | _ => none }
def validSeesRow : OpenClaim := { program := "ytnkmcbhpmbjkpaa", sum := "f05092209f2c618f76d54168280b37dbe34fa1a319c31592547fe3cffdfddc7e", func := "redline/redlinelaw16.ValidSees", spec := "validSees", unfollowed := true, recurses := true, loops := true, apart := false }
def ValidSeesSaid : Prop := validSeesRow.holds Try.pinned (OpenSpec.ofChange validSeesSpec)

/-- ITS FALSE NEIGHBOUR: 'it returns false'. Refute it at one input. -/
def validSeesWrong : ChangeSpec := { name := "validSees", fn := fun _ => fun
  | [d1, d2] => { results := [.lit (.bool false)], args := [d1, d2] }
  | _ => none }
def ValidSeesWrongFalsely : Prop := validSeesRow.holds Try.pinned (OpenSpec.ofChange validSeesWrong)

/-- 'redlinelaw16.ValidLeaf': WHATEVER THE INPUT: true; the input reads as it did. -/
def validLeafSpec : ChangeSpec := { name := "validLeaf", fn := fun _ => fun
  | [d1, d2, d3] => { results := [.lit (.bool true)], args := [d1, d2, d3] }
  | _ => none }
def validLeafRow : OpenClaim := { program := "ytnkmcbhpmbjkpaa", sum := "f05092209f2c618f76d54168280b37dbe34fa1a319c31592547fe3cffdfddc7e", func := "redline/redlinelaw16.ValidLeaf", spec := "validLeaf", unfollowed := true, recurses := true, loops := true, apart := false }
def ValidLeafSaid : Prop := validLeafRow.holds Try.pinned (OpenSpec.ofChange validLeafSpec)

/-- ITS FALSE NEIGHBOUR: 'it returns false'. Refute it at one input. -/
def validLeafWrong : ChangeSpec := { name := "validLeaf", fn := fun _ => fun
  | [d1, d2, d3] => { results := [.lit (.bool false)], args := [d1, d2, d3] }
  | _ => none }
def ValidLeafWrongFalsely : Prop := validLeafRow.holds Try.pinned (OpenSpec.ofChange validLeafWrong)

/-- 'redlinelaw16.ValidFinds': WHATEVER THE INPUT: true; the input reads as it did. -/
def validFindsSpec : ChangeSpec := { name := "validFinds", fn := fun _ => fun
  | [d1, d2] => { results := [.lit (.bool true)], args := [d1, d2] }
  | _ => none }
def validFindsRow : OpenClaim := { program := "ytnkmcbhpmbjkpaa", sum := "f05092209f2c618f76d54168280b37dbe34fa1a319c31592547fe3cffdfddc7e", func := "redline/redlinelaw16.ValidFinds", spec := "validFinds", unfollowed := true, recurses := true, loops := true, apart := false }
def ValidFindsSaid : Prop := validFindsRow.holds Try.pinned (OpenSpec.ofChange validFindsSpec)

/-- ITS FALSE NEIGHBOUR: 'it returns false'. Refute it at one input. -/
def validFindsWrong : ChangeSpec := { name := "validFinds", fn := fun _ => fun
  | [d1, d2] => { results := [.lit (.bool false)], args := [d1, d2] }
  | _ => none }
def ValidFindsWrongFalsely : Prop := validFindsRow.holds Try.pinned (OpenSpec.ofChange validFindsWrong)

/-- 'redlinelaw16.ValidParts': WHATEVER THE INPUT: true; the input reads as it did. -/
def validPartsSpec : ChangeSpec := { name := "validParts", fn := fun _ => fun
  | [d1, d2] => { results := [.lit (.bool true)], args := [d1, d2] }
  | _ => none }
def validPartsRow : OpenClaim := { program := "ytnkmcbhpmbjkpaa", sum := "f05092209f2c618f76d54168280b37dbe34fa1a319c31592547fe3cffdfddc7e", func := "redline/redlinelaw16.ValidParts", spec := "validParts", unfollowed := true, recurses := true, loops := true, apart := false }
def ValidPartsSaid : Prop := validPartsRow.holds Try.pinned (OpenSpec.ofChange validPartsSpec)

/-- ITS FALSE NEIGHBOUR: 'it returns false'. Refute it at one input. -/
def validPartsWrong : ChangeSpec := { name := "validParts", fn := fun _ => fun
  | [d1, d2] => { results := [.lit (.bool false)], args := [d1, d2] }
  | _ => none }
def ValidPartsWrongFalsely : Prop := validPartsRow.holds Try.pinned (OpenSpec.ofChange validPartsWrong)

/- THE SECOND FORM. 'bulk': how many values and letters a reading holds, each counted each time it is reached (what is shared counts as often as it is met; a slice's spare places count too). A statement '..UptoSaid' is the law's where the arguments, and the package variables that the reading takes, are together of bulk at most 1048576: NARROWER than '..Said'. Prove '..Said' where nothing that the law and all that it calls make is longer than what came in: it says more and counts as full. Else prove '..UptoSaid'. A law counts once. -/
mutual
def uptoBulk {H : Type} : DataW H → Nat
  | .lit (.string bytes) => bytes.length + 1
  | .lit _ => 1
  | .nil => 1
  | .ptr d => uptoBulk d + 1
  | .slice elems spare => uptoBulkAll elems + uptoBulkAll spare + 1
  | .agg parts => uptoBulkAll parts + 1
  | .iface _ d => uptoBulk d + 1
  | .map entries => uptoBulkEntries entries + 1
  | .held _ => 1
def uptoBulkAll {H : Type} : List (DataW H) → Nat
  | [] => 0
  | d :: r => uptoBulk d + uptoBulkAll r
def uptoBulkEntries {H : Type} : List (Lit × DataW H) → Nat
  | [] => 0
  | x :: r => uptoBulkEntry x + uptoBulkEntries r
def uptoBulkEntry {H : Type} : Lit × DataW H → Nat
  | (.string bytes, d) => bytes.length + uptoBulk d + 1
  | (_, d) => uptoBulk d + 1
 end
def uptoSmall : (H : Type) → List (DataW H) → Bool := fun _ ds => decide (uptoBulkAll ds ≤ 1048576)
def OpenSpec.upto (s : _root_.Go.ChangeSpec) : _root_.Go.OpenSpec := { _root_.Go.OpenSpec.ofChange s with cond := some uptoSmall }

/-- 'redlinelaw16.ValidSees', WHERE WHAT IT READS IS OF BULK AT MOST 1048576: true; the input reads as it did. -/
def validSeesUptoRow : OpenClaim := { program := "ytnkmcbhpmbjkpaa", sum := "f05092209f2c618f76d54168280b37dbe34fa1a319c31592547fe3cffdfddc7e", func := "redline/redlinelaw16.ValidSees", spec := "validSees", unfollowed := true, recurses := true, loops := true, apart := false, narrowed := true }
def ValidSeesUptoSaid : Prop := validSeesUptoRow.holds Try.pinned (OpenSpec.upto validSeesSpec)

/-- 'redlinelaw16.ValidLeaf', WHERE WHAT IT READS IS OF BULK AT MOST 1048576: true; the input reads as it did. -/
def validLeafUptoRow : OpenClaim := { program := "ytnkmcbhpmbjkpaa", sum := "f05092209f2c618f76d54168280b37dbe34fa1a319c31592547fe3cffdfddc7e", func := "redline/redlinelaw16.ValidLeaf", spec := "validLeaf", unfollowed := true, recurses := true, loops := true, apart := false, narrowed := true }
def ValidLeafUptoSaid : Prop := validLeafUptoRow.holds Try.pinned (OpenSpec.upto validLeafSpec)

/-- 'redlinelaw16.ValidFinds', WHERE WHAT IT READS IS OF BULK AT MOST 1048576: true; the input reads as it did. -/
def validFindsUptoRow : OpenClaim := { program := "ytnkmcbhpmbjkpaa", sum := "f05092209f2c618f76d54168280b37dbe34fa1a319c31592547fe3cffdfddc7e", func := "redline/redlinelaw16.ValidFinds", spec := "validFinds", unfollowed := true, recurses := true, loops := true, apart := false, narrowed := true }
def ValidFindsUptoSaid : Prop := validFindsUptoRow.holds Try.pinned (OpenSpec.upto validFindsSpec)

/-- 'redlinelaw16.ValidParts', WHERE WHAT IT READS IS OF BULK AT MOST 1048576: true; the input reads as it did. -/
def validPartsUptoRow : OpenClaim := { program := "ytnkmcbhpmbjkpaa", sum := "f05092209f2c618f76d54168280b37dbe34fa1a319c31592547fe3cffdfddc7e", func := "redline/redlinelaw16.ValidParts", spec := "validParts", unfollowed := true, recurses := true, loops := true, apart := false, narrowed := true }
def ValidPartsUptoSaid : Prop := validPartsUptoRow.holds Try.pinned (OpenSpec.upto validPartsSpec)

end Rows
end Go.Proofs.Ytnkmcbhpmbjkpaa
