/-
  DERIVED. GIVEN WITH THE SEED: THE CARDS: each row of YtbhbekocmpmjfaaGreatDoorRows.lean that lists a variable, with what it lists TIED to the program's text (the seventh form; the later family's looks); each row that meets fmt, with fmt's text TOLD by the authors' own Lean function (tested against real Go, not proved from fmt's source: count such statements apart). THE CARD IS WHAT COUNTS. Prove the row's statement (the work); the ties are given (YtbhbekocmpmjfaaGreatDoorTie.lean); close each card by the builder's one call (the guide's Derived/Test/ToyasCard.lean, 'card_holds'). Laid BY PROGRAM, IN A SANDBOX (cutbox-door.mjs). By AI agents, Wed Nov 11 2026. No macro, syntax, notation, axiom, sorry.
-/
import Derived.Test.YtbhbekocmpmjfaaGreatDoorRows
import GoSem.ClaimSeven
namespace Go.Proofs.YtbhbekocmpmjfaaGreatDoor
namespace Rows

/-- THE TIED CARD OF 'redlinelaw12.OpShape'. -/
def opShapeCard : Claim7 := { stood := { row := opShapeRow, standIns := [], harness := (true, "d0435a5df3c2c7990516ebcb5e9ae61b9fbce993fc6004f5606faa71253c0be3"), looks := false }, kinds := [], alts := [], laidByText := true, laidKinds := [.data, .pinned], laidTests := true, laidLooks := .later }
def OpShapeCardSaid : Prop := Claim7.holds Tryz.pinned (.plain (OpenSpec.ofChange opShapeSpec)) opShapeCard

/-- THE TIED CARD OF 'redlinelaw12.OpDoes'. -/
def opDoesCard : Claim7 := { stood := { row := opDoesRow, standIns := [], harness := (true, "d0435a5df3c2c7990516ebcb5e9ae61b9fbce993fc6004f5606faa71253c0be3"), looks := false }, kinds := [], alts := [], laidByText := true, laidKinds := [.data, .pinned], laidTests := true, laidLooks := .later }
def OpDoesCardSaid : Prop := Claim7.holds Tryz.pinned (.plain (OpenSpec.ofChange opDoesSpec)) opDoesCard

/-- THE TIED CARD OF 'redlinelaw12.OpGhost'. -/
def opGhostCard : Claim7 := { stood := { row := opGhostRow, standIns := [], harness := (true, "d0435a5df3c2c7990516ebcb5e9ae61b9fbce993fc6004f5606faa71253c0be3"), looks := false }, kinds := [], alts := [], laidByText := true, laidKinds := [.data, .pinned], laidTests := true, laidLooks := .later }
def OpGhostCardSaid : Prop := Claim7.holds Tryz.pinned (.plain (OpenSpec.ofChange opGhostSpec)) opGhostCard

/-- THE TIED CARD OF 'redlinelaw23.CmdRaised'. -/
def cmdRaisedCard : Claim7 := { stood := { row := cmdRaisedRow, standIns := [], harness := (true, "d0435a5df3c2c7990516ebcb5e9ae61b9fbce993fc6004f5606faa71253c0be3"), looks := false }, kinds := [], alts := [], laidByText := true, laidKinds := [.data, .pinned], laidTests := true, laidLooks := .later }
def CmdRaisedCardSaid : Prop := Claim7.holds Tryz.pinned (.plain (OpenSpec.ofChange cmdRaisedSpec)) cmdRaisedCard

/-- THE TIED CARD OF 'redlinelaw23.CmdWrapped'. -/
def cmdWrappedCard : Claim7 := { stood := { row := cmdWrappedRow, standIns := [], harness := (true, "d0435a5df3c2c7990516ebcb5e9ae61b9fbce993fc6004f5606faa71253c0be3"), looks := false }, kinds := [], alts := [], laidByText := true, laidKinds := [.data, .pinned], laidTests := true, laidLooks := .later }
def CmdWrappedCardSaid : Prop := Claim7.holds Tryz.pinned (.plain (OpenSpec.ofChange cmdWrappedSpec)) cmdWrappedCard

/-- THE TIED CARD OF 'redlinelaw14.HoldBeside'. -/
def holdBesideCard : Claim7 := { stood := { row := holdBesideRow, standIns := [], harness := (true, "d0435a5df3c2c7990516ebcb5e9ae61b9fbce993fc6004f5606faa71253c0be3"), looks := false }, kinds := [], alts := [], laidByText := true, laidKinds := [.data, .pinned], laidTests := true, laidLooks := .later }
def HoldBesideCardSaid : Prop := Claim7.holds Tryz.pinned (.plain (OpenSpec.ofChange holdBesideSpec)) holdBesideCard

/-- THE TIED CARD OF 'redlinelaw14.HoldRight'. -/
def holdRightCard : Claim7 := { stood := { row := holdRightRow, standIns := [], harness := (true, "d0435a5df3c2c7990516ebcb5e9ae61b9fbce993fc6004f5606faa71253c0be3"), looks := false }, kinds := [], alts := [], laidByText := true, laidKinds := [.data, .pinned], laidTests := true, laidLooks := .later }
def HoldRightCardSaid : Prop := Claim7.holds Tryz.pinned (.plain (OpenSpec.ofChange holdRightSpec)) holdRightCard

/-- THE TIED CARD OF 'redlinelaw22.FragPastes'. -/
def fragPastesCard : Claim7 := { stood := { row := fragPastesRow, standIns := [], harness := (true, "d0435a5df3c2c7990516ebcb5e9ae61b9fbce993fc6004f5606faa71253c0be3"), looks := false }, kinds := [], alts := [], laidByText := true, laidKinds := [.data, .pinned], laidTests := true, laidLooks := .later }
def FragPastesCardSaid : Prop := Claim7.holds Tryz.pinned (.plain (OpenSpec.ofChange fragPastesSpec)) fragPastesCard

/-- THE TIED CARD OF 'redlinelaw22.FragPut'. -/
def fragPutCard : Claim7 := { stood := { row := fragPutRow, standIns := [], harness := (true, "d0435a5df3c2c7990516ebcb5e9ae61b9fbce993fc6004f5606faa71253c0be3"), looks := false }, kinds := [], alts := [], laidByText := true, laidKinds := [.data, .pinned], laidTests := true, laidLooks := .later }
def FragPutCardSaid : Prop := Claim7.holds Tryz.pinned (.plain (OpenSpec.ofChange fragPutSpec)) fragPutCard

/-- THE TIED CARD OF 'redlinelaw14.HoldPath'. -/
def holdPathCard : Claim7 := { stood := { row := holdPathRow, standIns := [], harness := (true, "d0435a5df3c2c7990516ebcb5e9ae61b9fbce993fc6004f5606faa71253c0be3"), looks := false }, kinds := [], alts := [], laidByText := true, laidKinds := [.data, .pinned], laidTests := true, laidLooks := .later }
def HoldPathCardSaid : Prop := Claim7.holds Tryz.pinned (.plain (OpenSpec.ofChange holdPathSpec)) holdPathCard

/-- THE SECOND FORM's CARD OF 'redlinelaw12.OpShape'. -/
def opShapeUptoCard : Claim7 := { stood := { row := opShapeUptoRow, standIns := [], harness := (true, "d0435a5df3c2c7990516ebcb5e9ae61b9fbce993fc6004f5606faa71253c0be3"), looks := false }, kinds := [], alts := [], laidByText := true, laidKinds := [.data, .pinned], laidTests := true, laidLooks := .later }
def OpShapeUptoCardSaid : Prop := Claim7.holds Tryz.pinned (.plain (OpenSpec.upto opShapeSpec)) opShapeUptoCard

/-- THE SECOND FORM's CARD OF 'redlinelaw12.OpDoes'. -/
def opDoesUptoCard : Claim7 := { stood := { row := opDoesUptoRow, standIns := [], harness := (true, "d0435a5df3c2c7990516ebcb5e9ae61b9fbce993fc6004f5606faa71253c0be3"), looks := false }, kinds := [], alts := [], laidByText := true, laidKinds := [.data, .pinned], laidTests := true, laidLooks := .later }
def OpDoesUptoCardSaid : Prop := Claim7.holds Tryz.pinned (.plain (OpenSpec.upto opDoesSpec)) opDoesUptoCard

/-- THE SECOND FORM's CARD OF 'redlinelaw12.OpGhost'. -/
def opGhostUptoCard : Claim7 := { stood := { row := opGhostUptoRow, standIns := [], harness := (true, "d0435a5df3c2c7990516ebcb5e9ae61b9fbce993fc6004f5606faa71253c0be3"), looks := false }, kinds := [], alts := [], laidByText := true, laidKinds := [.data, .pinned], laidTests := true, laidLooks := .later }
def OpGhostUptoCardSaid : Prop := Claim7.holds Tryz.pinned (.plain (OpenSpec.upto opGhostSpec)) opGhostUptoCard

/-- THE SECOND FORM's CARD OF 'redlinelaw23.CmdRaised'. -/
def cmdRaisedUptoCard : Claim7 := { stood := { row := cmdRaisedUptoRow, standIns := [], harness := (true, "d0435a5df3c2c7990516ebcb5e9ae61b9fbce993fc6004f5606faa71253c0be3"), looks := false }, kinds := [], alts := [], laidByText := true, laidKinds := [.data, .pinned], laidTests := true, laidLooks := .later }
def CmdRaisedUptoCardSaid : Prop := Claim7.holds Tryz.pinned (.plain (OpenSpec.upto cmdRaisedSpec)) cmdRaisedUptoCard

/-- THE SECOND FORM's CARD OF 'redlinelaw23.CmdWrapped'. -/
def cmdWrappedUptoCard : Claim7 := { stood := { row := cmdWrappedUptoRow, standIns := [], harness := (true, "d0435a5df3c2c7990516ebcb5e9ae61b9fbce993fc6004f5606faa71253c0be3"), looks := false }, kinds := [], alts := [], laidByText := true, laidKinds := [.data, .pinned], laidTests := true, laidLooks := .later }
def CmdWrappedUptoCardSaid : Prop := Claim7.holds Tryz.pinned (.plain (OpenSpec.upto cmdWrappedSpec)) cmdWrappedUptoCard

/-- THE SECOND FORM's CARD OF 'redlinelaw14.HoldBeside'. -/
def holdBesideUptoCard : Claim7 := { stood := { row := holdBesideUptoRow, standIns := [], harness := (true, "d0435a5df3c2c7990516ebcb5e9ae61b9fbce993fc6004f5606faa71253c0be3"), looks := false }, kinds := [], alts := [], laidByText := true, laidKinds := [.data, .pinned], laidTests := true, laidLooks := .later }
def HoldBesideUptoCardSaid : Prop := Claim7.holds Tryz.pinned (.plain (OpenSpec.upto holdBesideSpec)) holdBesideUptoCard

/-- THE SECOND FORM's CARD OF 'redlinelaw14.HoldRight'. -/
def holdRightUptoCard : Claim7 := { stood := { row := holdRightUptoRow, standIns := [], harness := (true, "d0435a5df3c2c7990516ebcb5e9ae61b9fbce993fc6004f5606faa71253c0be3"), looks := false }, kinds := [], alts := [], laidByText := true, laidKinds := [.data, .pinned], laidTests := true, laidLooks := .later }
def HoldRightUptoCardSaid : Prop := Claim7.holds Tryz.pinned (.plain (OpenSpec.upto holdRightSpec)) holdRightUptoCard

/-- THE SECOND FORM's CARD OF 'redlinelaw22.FragPastes'. -/
def fragPastesUptoCard : Claim7 := { stood := { row := fragPastesUptoRow, standIns := [], harness := (true, "d0435a5df3c2c7990516ebcb5e9ae61b9fbce993fc6004f5606faa71253c0be3"), looks := false }, kinds := [], alts := [], laidByText := true, laidKinds := [.data, .pinned], laidTests := true, laidLooks := .later }
def FragPastesUptoCardSaid : Prop := Claim7.holds Tryz.pinned (.plain (OpenSpec.upto fragPastesSpec)) fragPastesUptoCard

/-- THE SECOND FORM's CARD OF 'redlinelaw22.FragPut'. -/
def fragPutUptoCard : Claim7 := { stood := { row := fragPutUptoRow, standIns := [], harness := (true, "d0435a5df3c2c7990516ebcb5e9ae61b9fbce993fc6004f5606faa71253c0be3"), looks := false }, kinds := [], alts := [], laidByText := true, laidKinds := [.data, .pinned], laidTests := true, laidLooks := .later }
def FragPutUptoCardSaid : Prop := Claim7.holds Tryz.pinned (.plain (OpenSpec.upto fragPutSpec)) fragPutUptoCard

/-- THE SECOND FORM's CARD OF 'redlinelaw14.HoldPath'. -/
def holdPathUptoCard : Claim7 := { stood := { row := holdPathUptoRow, standIns := [], harness := (true, "d0435a5df3c2c7990516ebcb5e9ae61b9fbce993fc6004f5606faa71253c0be3"), looks := false }, kinds := [], alts := [], laidByText := true, laidKinds := [.data, .pinned], laidTests := true, laidLooks := .later }
def HoldPathUptoCardSaid : Prop := Claim7.holds Tryz.pinned (.plain (OpenSpec.upto holdPathSpec)) holdPathUptoCard
end Rows
end Go.Proofs.YtbhbekocmpmjfaaGreatDoor
