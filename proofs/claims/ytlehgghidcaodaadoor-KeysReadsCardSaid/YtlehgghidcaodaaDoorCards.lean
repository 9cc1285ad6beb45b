/-
  DERIVED. GIVEN WITH THE SEED: THE CARDS: each row of YtlehgghidcaodaaDoorRows.lean that lists a variable, with what it lists TIED to the program's text (the seventh form; the later family's looks); each row that meets fmt, with fmt's text TOLD by the authors' own Lean function (tested against real Go, not proved from fmt's source: count such statements apart). THE CARD IS WHAT COUNTS. Prove the row's statement (the work); the ties are given (YtlehgghidcaodaaDoorTie.lean); close each card by the builder's one call (the guide's Derived/Test/ToyasCard.lean, 'card_holds'). Laid BY PROGRAM, IN A SANDBOX (cutbox-door.mjs). By AI agents, Wed Nov 11 2026. No macro, syntax, notation, axiom, sorry.
-/
import Derived.Test.YtlehgghidcaodaaDoorRows
import GoSem.ClaimSeven
namespace Go.Proofs.YtlehgghidcaodaaDoor
namespace Rows

/-- THE TIED CARD OF 'foolscaplaw23.KeysBack'. -/
def keysBackCard : Claim7 := { stood := { row := keysBackRow, standIns := [], harness := (true, "204b83f9a2047b42880206f696cddaa254012a5060e974a000f9ecc663859153"), looks := false }, kinds := [], alts := [], laidByText := true, laidKinds := [.data, .data, .data], laidTests := true, laidLooks := .later }
def KeysBackCardSaid : Prop := Claim7.holds Tryd.pinned (.plain (OpenSpec.ofChange keysBackSpec)) keysBackCard

/-- THE TIED CARD OF 'foolscaplaw23.KeysReads'. -/
def keysReadsCard : Claim7 := { stood := { row := keysReadsRow, standIns := [], harness := (true, "204b83f9a2047b42880206f696cddaa254012a5060e974a000f9ecc663859153"), looks := false }, kinds := [], alts := [], laidByText := true, laidKinds := [.data, .data, .data], laidTests := true, laidLooks := .later }
def KeysReadsCardSaid : Prop := Claim7.holds Tryd.pinned (.plain (OpenSpec.ofChange keysReadsSpec)) keysReadsCard

/-- THE TIED CARD OF 'foolscaplaw23.KeysNames'. -/
def keysNamesCard : Claim7 := { stood := { row := keysNamesRow, standIns := [], harness := (true, "204b83f9a2047b42880206f696cddaa254012a5060e974a000f9ecc663859153"), looks := false }, kinds := [], alts := [], laidByText := true, laidKinds := [.data, .data, .data], laidTests := true, laidLooks := .later }
def KeysNamesCardSaid : Prop := Claim7.holds Tryd.pinned (.plain (OpenSpec.ofChange keysNamesSpec)) keysNamesCard

/-- THE TIED CARD OF 'foolscaplaw23.KeysJoins'. -/
def keysJoinsCard : Claim7 := { stood := { row := keysJoinsRow, standIns := [], harness := (true, "204b83f9a2047b42880206f696cddaa254012a5060e974a000f9ecc663859153"), looks := false }, kinds := [], alts := [], laidByText := true, laidKinds := [.data, .data, .data], laidTests := true, laidLooks := .later }
def KeysJoinsCardSaid : Prop := Claim7.holds Tryd.pinned (.plain (OpenSpec.ofChange keysJoinsSpec)) keysJoinsCard

/-- THE SECOND FORM's CARD OF 'foolscaplaw23.KeysBack'. -/
def keysBackUptoCard : Claim7 := { stood := { row := keysBackUptoRow, standIns := [], harness := (true, "204b83f9a2047b42880206f696cddaa254012a5060e974a000f9ecc663859153"), looks := false }, kinds := [], alts := [], laidByText := true, laidKinds := [.data, .data, .data], laidTests := true, laidLooks := .later }
def KeysBackUptoCardSaid : Prop := Claim7.holds Tryd.pinned (.plain (OpenSpec.upto keysBackSpec)) keysBackUptoCard

/-- THE SECOND FORM's CARD OF 'foolscaplaw23.KeysReads'. -/
def keysReadsUptoCard : Claim7 := { stood := { row := keysReadsUptoRow, standIns := [], harness := (true, "204b83f9a2047b42880206f696cddaa254012a5060e974a000f9ecc663859153"), looks := false }, kinds := [], alts := [], laidByText := true, laidKinds := [.data, .data, .data], laidTests := true, laidLooks := .later }
def KeysReadsUptoCardSaid : Prop := Claim7.holds Tryd.pinned (.plain (OpenSpec.upto keysReadsSpec)) keysReadsUptoCard

/-- THE SECOND FORM's CARD OF 'foolscaplaw23.KeysNames'. -/
def keysNamesUptoCard : Claim7 := { stood := { row := keysNamesUptoRow, standIns := [], harness := (true, "204b83f9a2047b42880206f696cddaa254012a5060e974a000f9ecc663859153"), looks := false }, kinds := [], alts := [], laidByText := true, laidKinds := [.data, .data, .data], laidTests := true, laidLooks := .later }
def KeysNamesUptoCardSaid : Prop := Claim7.holds Tryd.pinned (.plain (OpenSpec.upto keysNamesSpec)) keysNamesUptoCard

/-- THE SECOND FORM's CARD OF 'foolscaplaw23.KeysJoins'. -/
def keysJoinsUptoCard : Claim7 := { stood := { row := keysJoinsUptoRow, standIns := [], harness := (true, "204b83f9a2047b42880206f696cddaa254012a5060e974a000f9ecc663859153"), looks := false }, kinds := [], alts := [], laidByText := true, laidKinds := [.data, .data, .data], laidTests := true, laidLooks := .later }
def KeysJoinsUptoCardSaid : Prop := Claim7.holds Tryd.pinned (.plain (OpenSpec.upto keysJoinsSpec)) keysJoinsUptoCard
end Rows
end Go.Proofs.YtlehgghidcaodaaDoor
