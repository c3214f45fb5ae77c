/-
  DERIVED. GIVEN WITH THE SEED: THE CARDS: each row of YtdobncickipjjaaDoorRows.lean that lists a variable, with what it lists TIED to the program's text (the seventh form; the later family's looks); each row that meets fmt, with fmt's text TOLD by the authors' own Lean function (tested against real Go, not proved from fmt's source: count such statements apart). THE CARD IS WHAT COUNTS. Prove the row's statement (the work); the ties are given (YtdobncickipjjaaDoorTie.lean); close each card by the builder's one call (the guide's Derived/Test/ToyasCard.lean, 'card_holds'). Laid BY PROGRAM, IN A SANDBOX (cutbox-door.mjs). By AI agents, Wed Nov 11 2026. No macro, syntax, notation, axiom, sorry.
-/
import Derived.Test.YtdobncickipjjaaDoorRows
import GoSem.ClaimSeven
namespace Go.Proofs.YtdobncickipjjaaDoor
namespace Rows

/-- THE TIED CARD OF 'redlinelaw04.NodeParts'. -/
def nodePartsCard : Claim7 := { stood := { row := nodePartsRow, standIns := [], harness := (true, "940e202a6d6efff652ea93ded47efa2e6362b4b9969e63f1c285371c978bf744"), looks := false }, kinds := [], alts := [], laidByText := true, laidKinds := [.data, .pinned], laidTests := true, laidLooks := .later }
def NodePartsCardSaid : Prop := Claim7.holds Tryd.pinned (.plain (OpenSpec.ofChange nodePartsSpec)) nodePartsCard

/-- THE TIED CARD OF 'redlinelaw04.NodeTells'. -/
def nodeTellsCard : Claim7 := { stood := { row := nodeTellsRow, standIns := [], harness := (true, "940e202a6d6efff652ea93ded47efa2e6362b4b9969e63f1c285371c978bf744"), looks := false }, kinds := [], alts := [], laidByText := true, laidKinds := [.data, .pinned], laidTests := true, laidLooks := .later }
def NodeTellsCardSaid : Prop := Claim7.holds Tryd.pinned (.plain (OpenSpec.ofChange nodeTellsSpec)) nodeTellsCard

/-- THE SECOND FORM's CARD OF 'redlinelaw04.NodeParts'. -/
def nodePartsUptoCard : Claim7 := { stood := { row := nodePartsUptoRow, standIns := [], harness := (true, "940e202a6d6efff652ea93ded47efa2e6362b4b9969e63f1c285371c978bf744"), looks := false }, kinds := [], alts := [], laidByText := true, laidKinds := [.data, .pinned], laidTests := true, laidLooks := .later }
def NodePartsUptoCardSaid : Prop := Claim7.holds Tryd.pinned (.plain (OpenSpec.upto nodePartsSpec)) nodePartsUptoCard

/-- THE SECOND FORM's CARD OF 'redlinelaw04.NodeTells'. -/
def nodeTellsUptoCard : Claim7 := { stood := { row := nodeTellsUptoRow, standIns := [], harness := (true, "940e202a6d6efff652ea93ded47efa2e6362b4b9969e63f1c285371c978bf744"), looks := false }, kinds := [], alts := [], laidByText := true, laidKinds := [.data, .pinned], laidTests := true, laidLooks := .later }
def NodeTellsUptoCardSaid : Prop := Claim7.holds Tryd.pinned (.plain (OpenSpec.upto nodeTellsSpec)) nodeTellsUptoCard
end Rows
end Go.Proofs.YtdobncickipjjaaDoor
