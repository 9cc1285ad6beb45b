/-
  DERIVED. GIVEN WITH THE SEED: THE CARDS: each row of YtkgngcibjkkhkaaDoorRows.lean that lists a variable, with what it lists TIED to the program's text (the seventh form; the later family's looks); each row that meets fmt, with fmt's text TOLD by the authors' own Lean function (tested against real Go, not proved from fmt's source: count such statements apart). THE CARD IS WHAT COUNTS. Prove the row's statement (the work); the ties are given (YtkgngcibjkkhkaaDoorTie.lean); close each card by the builder's one call (the guide's Derived/Test/ToyasCard.lean, 'card_holds'). Laid BY PROGRAM, IN A SANDBOX (cutbox-door.mjs). By AI agents, Wed Nov 11 2026. No macro, syntax, notation, axiom, sorry.
-/
import Derived.Test.YtkgngcibjkkhkaaDoorRows
import GoSem.ClaimSeven
namespace Go.Proofs.YtkgngcibjkkhkaaDoor
namespace Rows

/-- THE TIED CARD OF 'foolscaplaw33.MacroEnds'. -/
def macroEndsCard : Claim7 := { stood := { row := macroEndsRow, standIns := [], harness := (true, "05d33c98ea5e8b80d005a25d8f7e124547e80da3162ca81bbafbea2002c21d1b"), looks := false }, kinds := [], alts := [], laidByText := true, laidKinds := [.data, .pinned], laidTests := true, laidLooks := .later }
def MacroEndsCardSaid : Prop := Claim7.holds Tryd.pinned (.plain (OpenSpec.ofChange macroEndsSpec)) macroEndsCard

/-- THE TIED CARD OF 'foolscaplaw33.MacroKeys'. -/
def macroKeysCard : Claim7 := { stood := { row := macroKeysRow, standIns := [], harness := (true, "05d33c98ea5e8b80d005a25d8f7e124547e80da3162ca81bbafbea2002c21d1b"), looks := false }, kinds := [], alts := [], laidByText := true, laidKinds := [.data, .pinned], laidTests := true, laidLooks := .later }
def MacroKeysCardSaid : Prop := Claim7.holds Tryd.pinned (.plain (OpenSpec.ofChange macroKeysSpec)) macroKeysCard

/-- THE TIED CARD OF 'foolscaplaw33.MacroDepth'. -/
def macroDepthCard : Claim7 := { stood := { row := macroDepthRow, standIns := [], harness := (true, "05d33c98ea5e8b80d005a25d8f7e124547e80da3162ca81bbafbea2002c21d1b"), looks := false }, kinds := [], alts := [], laidByText := true, laidKinds := [.data, .pinned], laidTests := true, laidLooks := .later }
def MacroDepthCardSaid : Prop := Claim7.holds Tryd.pinned (.plain (OpenSpec.ofChange macroDepthSpec)) macroDepthCard

/-- THE TIED CARD OF 'foolscaplaw33.MacroPlays'. -/
def macroPlaysCard : Claim7 := { stood := { row := macroPlaysRow, standIns := [], harness := (true, "05d33c98ea5e8b80d005a25d8f7e124547e80da3162ca81bbafbea2002c21d1b"), looks := false }, kinds := [], alts := [], laidByText := true, laidKinds := [.data, .pinned], laidTests := true, laidLooks := .later }
def MacroPlaysCardSaid : Prop := Claim7.holds Tryd.pinned (.plain (OpenSpec.ofChange macroPlaysSpec)) macroPlaysCard

/-- THE TIED CARD OF 'foolscaplaw33.MacroRefuel'. -/
def macroRefuelCard : Claim7 := { stood := { row := macroRefuelRow, standIns := [], harness := (true, "05d33c98ea5e8b80d005a25d8f7e124547e80da3162ca81bbafbea2002c21d1b"), looks := false }, kinds := [], alts := [], laidByText := true, laidKinds := [.data, .pinned], laidTests := true, laidLooks := .later }
def MacroRefuelCardSaid : Prop := Claim7.holds Tryd.pinned (.plain (OpenSpec.ofChange macroRefuelSpec)) macroRefuelCard

/-- THE SECOND FORM's CARD OF 'foolscaplaw33.MacroEnds'. -/
def macroEndsUptoCard : Claim7 := { stood := { row := macroEndsUptoRow, standIns := [], harness := (true, "05d33c98ea5e8b80d005a25d8f7e124547e80da3162ca81bbafbea2002c21d1b"), looks := false }, kinds := [], alts := [], laidByText := true, laidKinds := [.data, .pinned], laidTests := true, laidLooks := .later }
def MacroEndsUptoCardSaid : Prop := Claim7.holds Tryd.pinned (.plain (OpenSpec.upto macroEndsSpec)) macroEndsUptoCard

/-- THE SECOND FORM's CARD OF 'foolscaplaw33.MacroKeys'. -/
def macroKeysUptoCard : Claim7 := { stood := { row := macroKeysUptoRow, standIns := [], harness := (true, "05d33c98ea5e8b80d005a25d8f7e124547e80da3162ca81bbafbea2002c21d1b"), looks := false }, kinds := [], alts := [], laidByText := true, laidKinds := [.data, .pinned], laidTests := true, laidLooks := .later }
def MacroKeysUptoCardSaid : Prop := Claim7.holds Tryd.pinned (.plain (OpenSpec.upto macroKeysSpec)) macroKeysUptoCard

/-- THE SECOND FORM's CARD OF 'foolscaplaw33.MacroDepth'. -/
def macroDepthUptoCard : Claim7 := { stood := { row := macroDepthUptoRow, standIns := [], harness := (true, "05d33c98ea5e8b80d005a25d8f7e124547e80da3162ca81bbafbea2002c21d1b"), looks := false }, kinds := [], alts := [], laidByText := true, laidKinds := [.data, .pinned], laidTests := true, laidLooks := .later }
def MacroDepthUptoCardSaid : Prop := Claim7.holds Tryd.pinned (.plain (OpenSpec.upto macroDepthSpec)) macroDepthUptoCard

/-- THE SECOND FORM's CARD OF 'foolscaplaw33.MacroPlays'. -/
def macroPlaysUptoCard : Claim7 := { stood := { row := macroPlaysUptoRow, standIns := [], harness := (true, "05d33c98ea5e8b80d005a25d8f7e124547e80da3162ca81bbafbea2002c21d1b"), looks := false }, kinds := [], alts := [], laidByText := true, laidKinds := [.data, .pinned], laidTests := true, laidLooks := .later }
def MacroPlaysUptoCardSaid : Prop := Claim7.holds Tryd.pinned (.plain (OpenSpec.upto macroPlaysSpec)) macroPlaysUptoCard

/-- THE SECOND FORM's CARD OF 'foolscaplaw33.MacroRefuel'. -/
def macroRefuelUptoCard : Claim7 := { stood := { row := macroRefuelUptoRow, standIns := [], harness := (true, "05d33c98ea5e8b80d005a25d8f7e124547e80da3162ca81bbafbea2002c21d1b"), looks := false }, kinds := [], alts := [], laidByText := true, laidKinds := [.data, .pinned], laidTests := true, laidLooks := .later }
def MacroRefuelUptoCardSaid : Prop := Claim7.holds Tryd.pinned (.plain (OpenSpec.upto macroRefuelSpec)) macroRefuelUptoCard
end Rows
end Go.Proofs.YtkgngcibjkkhkaaDoor
