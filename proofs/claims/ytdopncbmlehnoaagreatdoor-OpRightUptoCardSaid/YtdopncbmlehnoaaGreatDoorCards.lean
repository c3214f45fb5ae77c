/-
  DERIVED. GIVEN WITH THE SEED: THE CARDS: each row of YtdopncbmlehnoaaGreatDoorRows.lean that lists a variable, with what it lists TIED to the program's text (the seventh form; the later family's looks); each row that meets fmt, with fmt's text TOLD by the authors' own Lean function (tested against real Go, not proved from fmt's source: count such statements apart). THE CARD IS WHAT COUNTS. Prove the row's statement (the work); the ties are given (YtdopncbmlehnoaaGreatDoorTie.lean); close each card by the builder's one call (the guide's Derived/Test/ToyasCard.lean, 'card_holds'). Laid BY PROGRAM, IN A SANDBOX (cutbox-door.mjs). By AI agents, Wed Nov 11 2026. No macro, syntax, notation, axiom, sorry.
-/
import Derived.Test.YtdopncbmlehnoaaGreatDoorRows
import GoSem.ClaimSeven
namespace Go.Proofs.YtdopncbmlehnoaaGreatDoor
namespace Rows

/-- THE TIED CARD OF 'redlinelaw12.OpBack'. -/
def opBackCard : Claim7 := { stood := { row := opBackRow, standIns := [], harness := (true, "dc7075e8141f0083bba60b077dda6c1e818fb14fe39cb6f561db8d21ab6463b2"), looks := false }, kinds := [], alts := [], laidByText := true, laidKinds := [.data, .pinned], laidTests := true, laidLooks := .later }
def OpBackCardSaid : Prop := Claim7.holds Tryz.pinned (.plain (OpenSpec.ofChange opBackSpec)) opBackCard

/-- THE TIED CARD OF 'redlinelaw12.OpShape'. -/
def opShapeCard : Claim7 := { stood := { row := opShapeRow, standIns := [], harness := (true, "dc7075e8141f0083bba60b077dda6c1e818fb14fe39cb6f561db8d21ab6463b2"), looks := false }, kinds := [], alts := [], laidByText := true, laidKinds := [.data, .pinned], laidTests := true, laidLooks := .later }
def OpShapeCardSaid : Prop := Claim7.holds Tryz.pinned (.plain (OpenSpec.ofChange opShapeSpec)) opShapeCard

/-- THE TIED CARD OF 'redlinelaw12.OpSizes'. -/
def opSizesCard : Claim7 := { stood := { row := opSizesRow, standIns := [], harness := (true, "dc7075e8141f0083bba60b077dda6c1e818fb14fe39cb6f561db8d21ab6463b2"), looks := false }, kinds := [], alts := [], laidByText := true, laidKinds := [.data, .pinned], laidTests := true, laidLooks := .later }
def OpSizesCardSaid : Prop := Claim7.holds Tryz.pinned (.plain (OpenSpec.ofChange opSizesSpec)) opSizesCard

/-- THE TIED CARD OF 'redlinelaw12.OpDoes'. -/
def opDoesCard : Claim7 := { stood := { row := opDoesRow, standIns := [], harness := (true, "dc7075e8141f0083bba60b077dda6c1e818fb14fe39cb6f561db8d21ab6463b2"), looks := false }, kinds := [], alts := [], laidByText := true, laidKinds := [.data, .pinned], laidTests := true, laidLooks := .later }
def OpDoesCardSaid : Prop := Claim7.holds Tryz.pinned (.plain (OpenSpec.ofChange opDoesSpec)) opDoesCard

/-- THE TIED CARD OF 'redlinelaw12.OpRight'. -/
def opRightCard : Claim7 := { stood := { row := opRightRow, standIns := [], harness := (true, "dc7075e8141f0083bba60b077dda6c1e818fb14fe39cb6f561db8d21ab6463b2"), looks := false }, kinds := [], alts := [], laidByText := true, laidKinds := [.data, .pinned], laidTests := true, laidLooks := .later }
def OpRightCardSaid : Prop := Claim7.holds Tryz.pinned (.plain (OpenSpec.ofChange opRightSpec)) opRightCard

/-- THE TIED CARD OF 'redlinelaw12.OpText'. -/
def opTextCard : Claim7 := { stood := { row := opTextRow, standIns := [], harness := (true, "dc7075e8141f0083bba60b077dda6c1e818fb14fe39cb6f561db8d21ab6463b2"), looks := false }, kinds := [], alts := [], laidByText := true, laidKinds := [.data, .pinned], laidTests := true, laidLooks := .later }
def OpTextCardSaid : Prop := Claim7.holds Tryz.pinned (.plain (OpenSpec.ofChange opTextSpec)) opTextCard

/-- THE TIED CARD OF 'redlinelaw12.OpGhost'. -/
def opGhostCard : Claim7 := { stood := { row := opGhostRow, standIns := [], harness := (true, "dc7075e8141f0083bba60b077dda6c1e818fb14fe39cb6f561db8d21ab6463b2"), looks := false }, kinds := [], alts := [], laidByText := true, laidKinds := [.data, .pinned], laidTests := true, laidLooks := .later }
def OpGhostCardSaid : Prop := Claim7.holds Tryz.pinned (.plain (OpenSpec.ofChange opGhostSpec)) opGhostCard

/-- THE SECOND FORM's CARD OF 'redlinelaw12.OpBack'. -/
def opBackUptoCard : Claim7 := { stood := { row := opBackUptoRow, standIns := [], harness := (true, "dc7075e8141f0083bba60b077dda6c1e818fb14fe39cb6f561db8d21ab6463b2"), looks := false }, kinds := [], alts := [], laidByText := true, laidKinds := [.data, .pinned], laidTests := true, laidLooks := .later }
def OpBackUptoCardSaid : Prop := Claim7.holds Tryz.pinned (.plain (OpenSpec.upto opBackSpec)) opBackUptoCard

/-- THE SECOND FORM's CARD OF 'redlinelaw12.OpShape'. -/
def opShapeUptoCard : Claim7 := { stood := { row := opShapeUptoRow, standIns := [], harness := (true, "dc7075e8141f0083bba60b077dda6c1e818fb14fe39cb6f561db8d21ab6463b2"), looks := false }, kinds := [], alts := [], laidByText := true, laidKinds := [.data, .pinned], laidTests := true, laidLooks := .later }
def OpShapeUptoCardSaid : Prop := Claim7.holds Tryz.pinned (.plain (OpenSpec.upto opShapeSpec)) opShapeUptoCard

/-- THE SECOND FORM's CARD OF 'redlinelaw12.OpSizes'. -/
def opSizesUptoCard : Claim7 := { stood := { row := opSizesUptoRow, standIns := [], harness := (true, "dc7075e8141f0083bba60b077dda6c1e818fb14fe39cb6f561db8d21ab6463b2"), looks := false }, kinds := [], alts := [], laidByText := true, laidKinds := [.data, .pinned], laidTests := true, laidLooks := .later }
def OpSizesUptoCardSaid : Prop := Claim7.holds Tryz.pinned (.plain (OpenSpec.upto opSizesSpec)) opSizesUptoCard

/-- THE SECOND FORM's CARD OF 'redlinelaw12.OpDoes'. -/
def opDoesUptoCard : Claim7 := { stood := { row := opDoesUptoRow, standIns := [], harness := (true, "dc7075e8141f0083bba60b077dda6c1e818fb14fe39cb6f561db8d21ab6463b2"), looks := false }, kinds := [], alts := [], laidByText := true, laidKinds := [.data, .pinned], laidTests := true, laidLooks := .later }
def OpDoesUptoCardSaid : Prop := Claim7.holds Tryz.pinned (.plain (OpenSpec.upto opDoesSpec)) opDoesUptoCard

/-- THE SECOND FORM's CARD OF 'redlinelaw12.OpRight'. -/
def opRightUptoCard : Claim7 := { stood := { row := opRightUptoRow, standIns := [], harness := (true, "dc7075e8141f0083bba60b077dda6c1e818fb14fe39cb6f561db8d21ab6463b2"), looks := false }, kinds := [], alts := [], laidByText := true, laidKinds := [.data, .pinned], laidTests := true, laidLooks := .later }
def OpRightUptoCardSaid : Prop := Claim7.holds Tryz.pinned (.plain (OpenSpec.upto opRightSpec)) opRightUptoCard

/-- THE SECOND FORM's CARD OF 'redlinelaw12.OpText'. -/
def opTextUptoCard : Claim7 := { stood := { row := opTextUptoRow, standIns := [], harness := (true, "dc7075e8141f0083bba60b077dda6c1e818fb14fe39cb6f561db8d21ab6463b2"), looks := false }, kinds := [], alts := [], laidByText := true, laidKinds := [.data, .pinned], laidTests := true, laidLooks := .later }
def OpTextUptoCardSaid : Prop := Claim7.holds Tryz.pinned (.plain (OpenSpec.upto opTextSpec)) opTextUptoCard

/-- THE SECOND FORM's CARD OF 'redlinelaw12.OpGhost'. -/
def opGhostUptoCard : Claim7 := { stood := { row := opGhostUptoRow, standIns := [], harness := (true, "dc7075e8141f0083bba60b077dda6c1e818fb14fe39cb6f561db8d21ab6463b2"), looks := false }, kinds := [], alts := [], laidByText := true, laidKinds := [.data, .pinned], laidTests := true, laidLooks := .later }
def OpGhostUptoCardSaid : Prop := Claim7.holds Tryz.pinned (.plain (OpenSpec.upto opGhostSpec)) opGhostUptoCard
end Rows
end Go.Proofs.YtdopncbmlehnoaaGreatDoor
