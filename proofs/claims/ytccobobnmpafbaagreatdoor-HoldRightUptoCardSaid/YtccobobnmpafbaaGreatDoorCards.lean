/-
  DERIVED. GIVEN WITH THE SEED: THE CARDS: each row of YtccobobnmpafbaaGreatDoorRows.lean that lists a variable, with what it lists TIED to the program's text (the seventh form; the later family's looks); each row that meets fmt, with fmt's text TOLD by the authors' own Lean function (tested against real Go, not proved from fmt's source: count such statements apart). THE CARD IS WHAT COUNTS. Prove the row's statement (the work); the ties are given (YtccobobnmpafbaaGreatDoorTie.lean); close each card by the builder's one call (the guide's Derived/Test/ToyasCard.lean, 'card_holds'). Laid BY PROGRAM, IN A SANDBOX (cutbox-door.mjs). By AI agents, Wed Nov 11 2026. No macro, syntax, notation, axiom, sorry.
-/
import Derived.Test.YtccobobnmpafbaaGreatDoorRows
import GoSem.ClaimSeven
namespace Go.Proofs.YtccobobnmpafbaaGreatDoor
namespace Rows

/-- THE TIED CARD OF 'redlinelaw12.OpDoes'. -/
def opDoesCard : Claim7 := { stood := { row := opDoesRow, standIns := [], harness := (true, "668a9f502a55ec3c9c5cddc1a68446efe92c097ae234580cb9de0ecf821dea19"), looks := false }, kinds := [], alts := [], laidByText := true, laidKinds := [.data, .pinned], laidTests := true, laidLooks := .later }
def OpDoesCardSaid : Prop := Claim7.holds Tryz.pinned (.plain (OpenSpec.ofChange opDoesSpec)) opDoesCard

/-- THE TIED CARD OF 'redlinelaw14.HoldRight'. -/
def holdRightCard : Claim7 := { stood := { row := holdRightRow, standIns := [], harness := (true, "668a9f502a55ec3c9c5cddc1a68446efe92c097ae234580cb9de0ecf821dea19"), looks := false }, kinds := [], alts := [], laidByText := true, laidKinds := [.data, .pinned], laidTests := true, laidLooks := .later }
def HoldRightCardSaid : Prop := Claim7.holds Tryz.pinned (.plain (OpenSpec.ofChange holdRightSpec)) holdRightCard

/-- THE TIED CARD OF 'redlinelaw14.HoldPath'. -/
def holdPathCard : Claim7 := { stood := { row := holdPathRow, standIns := [], harness := (true, "668a9f502a55ec3c9c5cddc1a68446efe92c097ae234580cb9de0ecf821dea19"), looks := false }, kinds := [], alts := [], laidByText := true, laidKinds := [.data, .pinned], laidTests := true, laidLooks := .later }
def HoldPathCardSaid : Prop := Claim7.holds Tryz.pinned (.plain (OpenSpec.ofChange holdPathSpec)) holdPathCard

/-- THE SECOND FORM's CARD OF 'redlinelaw12.OpDoes'. -/
def opDoesUptoCard : Claim7 := { stood := { row := opDoesUptoRow, standIns := [], harness := (true, "668a9f502a55ec3c9c5cddc1a68446efe92c097ae234580cb9de0ecf821dea19"), looks := false }, kinds := [], alts := [], laidByText := true, laidKinds := [.data, .pinned], laidTests := true, laidLooks := .later }
def OpDoesUptoCardSaid : Prop := Claim7.holds Tryz.pinned (.plain (OpenSpec.upto opDoesSpec)) opDoesUptoCard

/-- THE SECOND FORM's CARD OF 'redlinelaw14.HoldRight'. -/
def holdRightUptoCard : Claim7 := { stood := { row := holdRightUptoRow, standIns := [], harness := (true, "668a9f502a55ec3c9c5cddc1a68446efe92c097ae234580cb9de0ecf821dea19"), looks := false }, kinds := [], alts := [], laidByText := true, laidKinds := [.data, .pinned], laidTests := true, laidLooks := .later }
def HoldRightUptoCardSaid : Prop := Claim7.holds Tryz.pinned (.plain (OpenSpec.upto holdRightSpec)) holdRightUptoCard

/-- THE SECOND FORM's CARD OF 'redlinelaw14.HoldPath'. -/
def holdPathUptoCard : Claim7 := { stood := { row := holdPathUptoRow, standIns := [], harness := (true, "668a9f502a55ec3c9c5cddc1a68446efe92c097ae234580cb9de0ecf821dea19"), looks := false }, kinds := [], alts := [], laidByText := true, laidKinds := [.data, .pinned], laidTests := true, laidLooks := .later }
def HoldPathUptoCardSaid : Prop := Claim7.holds Tryz.pinned (.plain (OpenSpec.upto holdPathSpec)) holdPathUptoCard
end Rows
end Go.Proofs.YtccobobnmpafbaaGreatDoor
