/-
  DERIVED. GIVEN WITH THE SEED: THE CARDS: each row of YtmekodocibnniaaDoorRows.lean that lists a variable, with what it lists TIED to the program's text (the seventh form; the later family's looks); each row that meets fmt, with fmt's text TOLD by the authors' own Lean function (tested against real Go, not proved from fmt's source: count such statements apart). THE CARD IS WHAT COUNTS. Prove the row's statement (the work); the ties are given (YtmekodocibnniaaDoorTie.lean); close each card by the builder's one call (the guide's Derived/Test/ToyasCard.lean, 'card_holds'). Laid BY PROGRAM, IN A SANDBOX (cutbox-door.mjs). By AI agents, Wed Nov 11 2026. No macro, syntax, notation, axiom, sorry.
-/
import Derived.Test.YtmekodocibnniaaDoorRows
import GoSem.ClaimSeven
namespace Go.Proofs.YtmekodocibnniaaDoor
namespace Rows

/-- THE TIED CARD OF 'redlinelaw23.CmdShapes'. -/
def cmdShapesCard : Claim7 := { stood := { row := cmdShapesRow, standIns := [], harness := (true, "c224e18071778c4128322aa125b55c0c4c61925ddac4503dc7b57d6fe05c1951"), looks := false }, kinds := [], alts := [], laidByText := true, laidKinds := [.data, .pinned], laidTests := true, laidLooks := .later }
def CmdShapesCardSaid : Prop := Claim7.holds Tryd.pinned (.plain (OpenSpec.ofChange cmdShapesSpec)) cmdShapesCard

/-- THE SECOND FORM's CARD OF 'redlinelaw23.CmdShapes'. -/
def cmdShapesUptoCard : Claim7 := { stood := { row := cmdShapesUptoRow, standIns := [], harness := (true, "c224e18071778c4128322aa125b55c0c4c61925ddac4503dc7b57d6fe05c1951"), looks := false }, kinds := [], alts := [], laidByText := true, laidKinds := [.data, .pinned], laidTests := true, laidLooks := .later }
def CmdShapesUptoCardSaid : Prop := Claim7.holds Tryd.pinned (.plain (OpenSpec.upto cmdShapesSpec)) cmdShapesUptoCard
end Rows
end Go.Proofs.YtmekodocibnniaaDoor
