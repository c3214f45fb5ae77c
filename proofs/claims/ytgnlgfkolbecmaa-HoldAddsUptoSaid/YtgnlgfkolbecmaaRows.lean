/-
  NARROWER THAN 'FOR EVERY INPUT', by the rows' own cells (each row's printed sentence says how): HoldAdds: loops · HoldKeeps: loops.
  DERIVED. THE GIVEN ROWS OF THIS SEAT. 3 by the template 'for every input the law returns true; each argument reads behind the call as it read before'; 0 by the template 'total and deterministic' (their statements: YtgnlgfkolbecmaaTotals.lean).
  GIVEN WITH THE SEED: the statements are not yours to turn. If you find one false, say at which input.
  Laid BY PROGRAM, IN A SANDBOX (cutbox-rows.mjs): the forced cells as the released guide's own fill.sh prints them over the translation 963498a731b31551… (all of the seat's roots in one cut). By AI agents, Wed Nov 11 2026. No macro, syntax, notation, axiom, sorry.
-/
import Derived.Test.YtgnlgfkolbecmaaChecked
import GoSem.Claim
import GoSem.ClaimJoined
import GoSem.ClaimMapViews
import Derived.JoinedTies
import Derived.KernelRfl
namespace Go.Proofs.Ytgnlgfkolbecmaa
/- THE CELL 'sum', in the pinned program and in every row, IS THE sha256 OF THE DUMP (.gsa) THAT YtgnlgfkolbecmaaProg.lean LOADS. Nothing in Lean hashes anything: it is a label: what it is worth is what the hold of that sum in a sandbox is worth. -/
noncomputable def Try.pinned : Pinned := { name := "ytgnlgfkolbecmaa", sum := "963498a731b3155144a5304785cf509b9cc24261e4151a8c43f52dde2daf4eb5", checked := Try.checked }
namespace Rows
def none {H : Type} : Left H := { results := [], args := [] }

/-- 'redlinelaw14.HoldAdds': WHATEVER THE INPUT: true; the input reads as it did. -/
def holdAddsSpec : ChangeSpec := { name := "holdAdds", fn := fun _ => fun
  | [d1, d2, d3, d4] => { results := [.lit (.bool true)], args := [d1, d2, d3, d4] }
  | _ => none }
def holdAddsRow : OpenClaim := { program := "ytgnlgfkolbecmaa", sum := "963498a731b3155144a5304785cf509b9cc24261e4151a8c43f52dde2daf4eb5", func := "redline/redlinelaw14.HoldAdds", spec := "holdAdds", unfollowed := true, recurses := true, loops := true, apart := false }
def HoldAddsSaid : Prop := holdAddsRow.holds Try.pinned (OpenSpec.ofChange holdAddsSpec)

/-- ITS FALSE NEIGHBOUR: 'it returns false'. Refute it at one input. -/
def holdAddsWrong : ChangeSpec := { name := "holdAdds", fn := fun _ => fun
  | [d1, d2, d3, d4] => { results := [.lit (.bool false)], args := [d1, d2, d3, d4] }
  | _ => none }
def HoldAddsWrongFalsely : Prop := holdAddsRow.holds Try.pinned (OpenSpec.ofChange holdAddsWrong)

/-- 'redlinelaw14.HoldFinds': WHATEVER THE INPUT: true; the input reads as it did. -/
def holdFindsSpec : ChangeSpec := { name := "holdFinds", fn := fun _ => fun
  | [d1, d2] => { results := [.lit (.bool true)], args := [d1, d2] }
  | _ => none }
def holdFindsRow : OpenClaim := { program := "ytgnlgfkolbecmaa", sum := "963498a731b3155144a5304785cf509b9cc24261e4151a8c43f52dde2daf4eb5", func := "redline/redlinelaw14.HoldFinds", spec := "holdFinds", unfollowed := true, recurses := true, apart := false }
def HoldFindsSaid : Prop := holdFindsRow.holds Try.pinned (OpenSpec.ofChange holdFindsSpec)

/-- ITS FALSE NEIGHBOUR: 'it returns false'. Refute it at one input. -/
def holdFindsWrong : ChangeSpec := { name := "holdFinds", fn := fun _ => fun
  | [d1, d2] => { results := [.lit (.bool false)], args := [d1, d2] }
  | _ => none }
def HoldFindsWrongFalsely : Prop := holdFindsRow.holds Try.pinned (OpenSpec.ofChange holdFindsWrong)

/-- 'redlinelaw14.HoldKeeps': WHATEVER THE INPUT: true; the input reads as it did. -/
def holdKeepsSpec : ChangeSpec := { name := "holdKeeps", fn := fun _ => fun
  | [d1, d2, d3, d4] => { results := [.lit (.bool true)], args := [d1, d2, d3, d4] }
  | _ => none }
def holdKeepsRow : OpenClaim := { program := "ytgnlgfkolbecmaa", sum := "963498a731b3155144a5304785cf509b9cc24261e4151a8c43f52dde2daf4eb5", func := "redline/redlinelaw14.HoldKeeps", spec := "holdKeeps", unfollowed := true, recurses := true, loops := true, apart := false }
def HoldKeepsSaid : Prop := holdKeepsRow.holds Try.pinned (OpenSpec.ofChange holdKeepsSpec)

/-- ITS FALSE NEIGHBOUR: 'it returns false'. Refute it at one input. -/
def holdKeepsWrong : ChangeSpec := { name := "holdKeeps", fn := fun _ => fun
  | [d1, d2, d3, d4] => { results := [.lit (.bool false)], args := [d1, d2, d3, d4] }
  | _ => none }
def HoldKeepsWrongFalsely : Prop := holdKeepsRow.holds Try.pinned (OpenSpec.ofChange holdKeepsWrong)

/- THE SECOND FORM. 'bulk': how many values and letters a reading holds, each counted each time it is reached (what is shared counts as often as it is met; a slice's spare places count too). A statement '..UptoSaid' is the law's where the arguments, and the package variables that the reading takes, are together of bulk at most 1048576: NARROWER than '..Said'. Prove '..Said' where nothing that the law and all that it calls make is longer than what came in: it says more and counts as full. Else prove '..UptoSaid'. A law counts once. -/
mutual
def uptoBulk {H : Type} : DataW H → Nat
  | .lit (.string bytes) => bytes.length + 1
  | .lit _ => 1
  | .nil => 1
  | .ptr d => uptoBulk d + 1
  | .slice elems spare => uptoBulkAll elems + uptoBulkAll spare + 1
  | .agg parts => uptoBulkAll parts + 1
  | .iface _ d => uptoBulk d + 1
  | .map entries => uptoBulkEntries entries + 1
  | .held _ => 1
def uptoBulkAll {H : Type} : List (DataW H) → Nat
  | [] => 0
  | d :: r => uptoBulk d + uptoBulkAll r
def uptoBulkEntries {H : Type} : List (Lit × DataW H) → Nat
  | [] => 0
  | x :: r => uptoBulkEntry x + uptoBulkEntries r
def uptoBulkEntry {H : Type} : Lit × DataW H → Nat
  | (.string bytes, d) => bytes.length + uptoBulk d + 1
  | (_, d) => uptoBulk d + 1
 end
def uptoSmall : (H : Type) → List (DataW H) → Bool := fun _ ds => decide (uptoBulkAll ds ≤ 1048576)
def OpenSpec.upto (s : _root_.Go.ChangeSpec) : _root_.Go.OpenSpec := { _root_.Go.OpenSpec.ofChange s with cond := some uptoSmall }

/-- 'redlinelaw14.HoldAdds', WHERE WHAT IT READS IS OF BULK AT MOST 1048576: true; the input reads as it did. -/
def holdAddsUptoRow : OpenClaim := { program := "ytgnlgfkolbecmaa", sum := "963498a731b3155144a5304785cf509b9cc24261e4151a8c43f52dde2daf4eb5", func := "redline/redlinelaw14.HoldAdds", spec := "holdAdds", unfollowed := true, recurses := true, loops := true, apart := false, narrowed := true }
def HoldAddsUptoSaid : Prop := holdAddsUptoRow.holds Try.pinned (OpenSpec.upto holdAddsSpec)

/-- 'redlinelaw14.HoldFinds', WHERE WHAT IT READS IS OF BULK AT MOST 1048576: true; the input reads as it did. -/
def holdFindsUptoRow : OpenClaim := { program := "ytgnlgfkolbecmaa", sum := "963498a731b3155144a5304785cf509b9cc24261e4151a8c43f52dde2daf4eb5", func := "redline/redlinelaw14.HoldFinds", spec := "holdFinds", unfollowed := true, recurses := true, apart := false, narrowed := true }
def HoldFindsUptoSaid : Prop := holdFindsUptoRow.holds Try.pinned (OpenSpec.upto holdFindsSpec)

/-- 'redlinelaw14.HoldKeeps', WHERE WHAT IT READS IS OF BULK AT MOST 1048576: true; the input reads as it did. -/
def holdKeepsUptoRow : OpenClaim := { program := "ytgnlgfkolbecmaa", sum := "963498a731b3155144a5304785cf509b9cc24261e4151a8c43f52dde2daf4eb5", func := "redline/redlinelaw14.HoldKeeps", spec := "holdKeeps", unfollowed := true, recurses := true, loops := true, apart := false, narrowed := true }
def HoldKeepsUptoSaid : Prop := holdKeepsUptoRow.holds Try.pinned (OpenSpec.upto holdKeepsSpec)

end Rows
end Go.Proofs.Ytgnlgfkolbecmaa
