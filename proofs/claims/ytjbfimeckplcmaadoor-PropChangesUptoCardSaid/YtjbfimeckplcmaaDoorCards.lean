/-
  DERIVED. GIVEN WITH THE SEED: THE CARDS: each row of YtjbfimeckplcmaaDoorRows.lean that lists a variable, with what it lists TIED to the program's text (the seventh form; the later family's looks); each row that meets fmt, with fmt's text TOLD by the authors' own Lean function (tested against real Go, not proved from fmt's source: count such statements apart). THE CARD IS WHAT COUNTS. Prove the row's statement (the work); the ties are given (YtjbfimeckplcmaaDoorTie.lean); close each card by the builder's one call (the guide's Derived/Test/ToyasCard.lean, 'card_holds'). Laid BY PROGRAM, IN A SANDBOX (cutbox-door.mjs). By AI agents, Wed Nov 11 2026. No macro, syntax, notation, axiom, sorry.
-/
import Derived.Test.YtjbfimeckplcmaaDoorRows
import GoSem.ClaimSeven
namespace Go.Proofs.YtjbfimeckplcmaaDoor
namespace Rows

/-- THE TIED CARD OF 'redlinelaw01.PropTells'. -/
def propTellsCard : Claim7 := { stood := { row := propTellsRow, standIns := [], harness := (true, "cea45586f8206fdee0cb7b948f9ef65132f9d5e71c83a947470f5e50413da494"), looks := false }, kinds := [], alts := [], laidByText := true, laidKinds := [.data, .pinned], laidTests := true, laidLooks := .later }
def PropTellsCardSaid : Prop := Claim7.holds Tryd.pinned (.plain (OpenSpec.ofChange propTellsSpec)) propTellsCard

/-- THE TIED CARD OF 'redlinelaw01.PropChanges'. -/
def propChangesCard : Claim7 := { stood := { row := propChangesRow, standIns := [], harness := (true, "cea45586f8206fdee0cb7b948f9ef65132f9d5e71c83a947470f5e50413da494"), looks := false }, kinds := [], alts := [], laidByText := true, laidKinds := [.data, .pinned], laidTests := true, laidLooks := .later }
def PropChangesCardSaid : Prop := Claim7.holds Tryd.pinned (.plain (OpenSpec.ofChange propChangesSpec)) propChangesCard

/-- THE TIED CARD OF 'redlinelaw01.PropKeys'. -/
def propKeysCard : Claim7 := { stood := { row := propKeysRow, standIns := [], harness := (true, "cea45586f8206fdee0cb7b948f9ef65132f9d5e71c83a947470f5e50413da494"), looks := false }, kinds := [], alts := [], laidByText := true, laidKinds := [.data, .pinned], laidTests := true, laidLooks := .later }
def PropKeysCardSaid : Prop := Claim7.holds Tryd.pinned (.plain (OpenSpec.ofChange propKeysSpec)) propKeysCard

/-- THE TIED CARD OF 'redlinelaw01.PropBack'. -/
def propBackCard : Claim7 := { stood := { row := propBackRow, standIns := [], harness := (true, "cea45586f8206fdee0cb7b948f9ef65132f9d5e71c83a947470f5e50413da494"), looks := false }, kinds := [], alts := [], laidByText := true, laidKinds := [.data, .pinned], laidTests := true, laidLooks := .later }
def PropBackCardSaid : Prop := Claim7.holds Tryd.pinned (.plain (OpenSpec.ofChange propBackSpec)) propBackCard

/-- THE TIED CARD OF 'redlinelaw01.PropUndo'. -/
def propUndoCard : Claim7 := { stood := { row := propUndoRow, standIns := [], harness := (true, "cea45586f8206fdee0cb7b948f9ef65132f9d5e71c83a947470f5e50413da494"), looks := false }, kinds := [], alts := [], laidByText := true, laidKinds := [.data, .pinned], laidTests := true, laidLooks := .later }
def PropUndoCardSaid : Prop := Claim7.holds Tryd.pinned (.plain (OpenSpec.ofChange propUndoSpec)) propUndoCard

/-- THE TIED CARD OF 'redlinelaw01.PropNone'. -/
def propNoneCard : Claim7 := { stood := { row := propNoneRow, standIns := [], harness := (true, "cea45586f8206fdee0cb7b948f9ef65132f9d5e71c83a947470f5e50413da494"), looks := false }, kinds := [], alts := [], laidByText := true, laidKinds := [.data, .pinned], laidTests := true, laidLooks := .later }
def PropNoneCardSaid : Prop := Claim7.holds Tryd.pinned (.plain (OpenSpec.ofChange propNoneSpec)) propNoneCard

/-- THE SECOND FORM's CARD OF 'redlinelaw01.PropTells'. -/
def propTellsUptoCard : Claim7 := { stood := { row := propTellsUptoRow, standIns := [], harness := (true, "cea45586f8206fdee0cb7b948f9ef65132f9d5e71c83a947470f5e50413da494"), looks := false }, kinds := [], alts := [], laidByText := true, laidKinds := [.data, .pinned], laidTests := true, laidLooks := .later }
def PropTellsUptoCardSaid : Prop := Claim7.holds Tryd.pinned (.plain (OpenSpec.upto propTellsSpec)) propTellsUptoCard

/-- THE SECOND FORM's CARD OF 'redlinelaw01.PropChanges'. -/
def propChangesUptoCard : Claim7 := { stood := { row := propChangesUptoRow, standIns := [], harness := (true, "cea45586f8206fdee0cb7b948f9ef65132f9d5e71c83a947470f5e50413da494"), looks := false }, kinds := [], alts := [], laidByText := true, laidKinds := [.data, .pinned], laidTests := true, laidLooks := .later }
def PropChangesUptoCardSaid : Prop := Claim7.holds Tryd.pinned (.plain (OpenSpec.upto propChangesSpec)) propChangesUptoCard

/-- THE SECOND FORM's CARD OF 'redlinelaw01.PropKeys'. -/
def propKeysUptoCard : Claim7 := { stood := { row := propKeysUptoRow, standIns := [], harness := (true, "cea45586f8206fdee0cb7b948f9ef65132f9d5e71c83a947470f5e50413da494"), looks := false }, kinds := [], alts := [], laidByText := true, laidKinds := [.data, .pinned], laidTests := true, laidLooks := .later }
def PropKeysUptoCardSaid : Prop := Claim7.holds Tryd.pinned (.plain (OpenSpec.upto propKeysSpec)) propKeysUptoCard

/-- THE SECOND FORM's CARD OF 'redlinelaw01.PropBack'. -/
def propBackUptoCard : Claim7 := { stood := { row := propBackUptoRow, standIns := [], harness := (true, "cea45586f8206fdee0cb7b948f9ef65132f9d5e71c83a947470f5e50413da494"), looks := false }, kinds := [], alts := [], laidByText := true, laidKinds := [.data, .pinned], laidTests := true, laidLooks := .later }
def PropBackUptoCardSaid : Prop := Claim7.holds Tryd.pinned (.plain (OpenSpec.upto propBackSpec)) propBackUptoCard

/-- THE SECOND FORM's CARD OF 'redlinelaw01.PropUndo'. -/
def propUndoUptoCard : Claim7 := { stood := { row := propUndoUptoRow, standIns := [], harness := (true, "cea45586f8206fdee0cb7b948f9ef65132f9d5e71c83a947470f5e50413da494"), looks := false }, kinds := [], alts := [], laidByText := true, laidKinds := [.data, .pinned], laidTests := true, laidLooks := .later }
def PropUndoUptoCardSaid : Prop := Claim7.holds Tryd.pinned (.plain (OpenSpec.upto propUndoSpec)) propUndoUptoCard

/-- THE SECOND FORM's CARD OF 'redlinelaw01.PropNone'. -/
def propNoneUptoCard : Claim7 := { stood := { row := propNoneUptoRow, standIns := [], harness := (true, "cea45586f8206fdee0cb7b948f9ef65132f9d5e71c83a947470f5e50413da494"), looks := false }, kinds := [], alts := [], laidByText := true, laidKinds := [.data, .pinned], laidTests := true, laidLooks := .later }
def PropNoneUptoCardSaid : Prop := Claim7.holds Tryd.pinned (.plain (OpenSpec.upto propNoneSpec)) propNoneUptoCard
end Rows
end Go.Proofs.YtjbfimeckplcmaaDoor
