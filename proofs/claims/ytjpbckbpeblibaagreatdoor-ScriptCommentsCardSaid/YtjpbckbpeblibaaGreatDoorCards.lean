/-
  DERIVED. GIVEN WITH THE SEED: THE CARDS: each row of YtjpbckbpeblibaaGreatDoorRows.lean that lists a variable, with what it lists TIED to the program's text (the seventh form; the later family's looks); each row that meets fmt, with fmt's text TOLD by the authors' own Lean function (tested against real Go, not proved from fmt's source: count such statements apart). THE CARD IS WHAT COUNTS. Prove the row's statement (the work); the ties are given (YtjpbckbpeblibaaGreatDoorTie.lean); close each card by the builder's one call (the guide's Derived/Test/ToyasCard.lean, 'card_holds'). Laid BY PROGRAM, IN A SANDBOX (cutbox-door.mjs). By AI agents, Wed Nov 11 2026. No macro, syntax, notation, axiom, sorry.
-/
import Derived.Test.YtjpbckbpeblibaaGreatDoorRows
import GoSem.ClaimSeven
namespace Go.Proofs.YtjpbckbpeblibaaGreatDoor
namespace Rows

/-- THE TIED CARD OF 'refmeshlaw56.ScriptParses'. -/
def scriptParsesCard : Claim7 := { stood := { row := scriptParsesRow, standIns := [], harness := (true, "5aadd4e6ba929b92c60ec111ab94a1851c07df0fb41d7739bc95e3149b45c856"), looks := true }, kinds := [], alts := [], laidByText := true, laidKinds := [.data, .data, .data, .data, .sentinel, .sentinel, .widerDeep, .widerDeep, .pinned], laidTests := true, laidLooks := .later }
def ScriptParsesCardSaid : Prop := Claim7.holds Tryz.pinned (.plain (OpenSpec.ofChange scriptParsesSpec)) scriptParsesCard

/-- THE TIED CARD OF 'refmeshlaw56.ScriptFormats'. -/
def scriptFormatsCard : Claim7 := { stood := { row := scriptFormatsRow, standIns := [], harness := (true, "5aadd4e6ba929b92c60ec111ab94a1851c07df0fb41d7739bc95e3149b45c856"), looks := true }, kinds := [], alts := [], laidByText := true, laidKinds := [.data, .data, .data, .data, .sentinel, .sentinel, .widerDeep, .widerDeep, .data, .data, .pinned], laidTests := true, laidLooks := .later }
def ScriptFormatsCardSaid : Prop := Claim7.holds Tryz.pinned (.plain (OpenSpec.ofChange scriptFormatsSpec)) scriptFormatsCard

/-- THE TIED CARD OF 'refmeshlaw56.ScriptComments'. -/
def scriptCommentsCard : Claim7 := { stood := { row := scriptCommentsRow, standIns := [], harness := (true, "5aadd4e6ba929b92c60ec111ab94a1851c07df0fb41d7739bc95e3149b45c856"), looks := true }, kinds := [], alts := [], laidByText := true, laidKinds := [.data, .data, .data, .data, .sentinel, .sentinel, .widerDeep, .widerDeep, .data, .data, .pinned], laidTests := true, laidLooks := .later }
def ScriptCommentsCardSaid : Prop := Claim7.holds Tryz.pinned (.plain (OpenSpec.ofChange scriptCommentsSpec)) scriptCommentsCard

/-- THE TIED CARD OF 'refmeshlaw56.ScriptErrors'. -/
def scriptErrorsCard : Claim7 := { stood := { row := scriptErrorsRow, standIns := [], harness := (true, "5aadd4e6ba929b92c60ec111ab94a1851c07df0fb41d7739bc95e3149b45c856"), looks := true }, kinds := [], alts := [], laidByText := true, laidKinds := [.data, .data, .data, .data, .sentinel, .sentinel, .widerDeep, .widerDeep, .data, .data, .pinned], laidTests := true, laidLooks := .later }
def ScriptErrorsCardSaid : Prop := Claim7.holds Tryz.pinned (.plain (OpenSpec.ofChange scriptErrorsSpec)) scriptErrorsCard

/-- THE SECOND FORM's CARD OF 'refmeshlaw56.ScriptParses'. -/
def scriptParsesUptoCard : Claim7 := { stood := { row := scriptParsesUptoRow, standIns := [], harness := (true, "5aadd4e6ba929b92c60ec111ab94a1851c07df0fb41d7739bc95e3149b45c856"), looks := true }, kinds := [], alts := [], laidByText := true, laidKinds := [.data, .data, .data, .data, .sentinel, .sentinel, .widerDeep, .widerDeep, .pinned], laidTests := true, laidLooks := .later }
def ScriptParsesUptoCardSaid : Prop := Claim7.holds Tryz.pinned (.plain (OpenSpec.upto scriptParsesSpec)) scriptParsesUptoCard

/-- THE SECOND FORM's CARD OF 'refmeshlaw56.ScriptFormats'. -/
def scriptFormatsUptoCard : Claim7 := { stood := { row := scriptFormatsUptoRow, standIns := [], harness := (true, "5aadd4e6ba929b92c60ec111ab94a1851c07df0fb41d7739bc95e3149b45c856"), looks := true }, kinds := [], alts := [], laidByText := true, laidKinds := [.data, .data, .data, .data, .sentinel, .sentinel, .widerDeep, .widerDeep, .data, .data, .pinned], laidTests := true, laidLooks := .later }
def ScriptFormatsUptoCardSaid : Prop := Claim7.holds Tryz.pinned (.plain (OpenSpec.upto scriptFormatsSpec)) scriptFormatsUptoCard

/-- THE SECOND FORM's CARD OF 'refmeshlaw56.ScriptComments'. -/
def scriptCommentsUptoCard : Claim7 := { stood := { row := scriptCommentsUptoRow, standIns := [], harness := (true, "5aadd4e6ba929b92c60ec111ab94a1851c07df0fb41d7739bc95e3149b45c856"), looks := true }, kinds := [], alts := [], laidByText := true, laidKinds := [.data, .data, .data, .data, .sentinel, .sentinel, .widerDeep, .widerDeep, .data, .data, .pinned], laidTests := true, laidLooks := .later }
def ScriptCommentsUptoCardSaid : Prop := Claim7.holds Tryz.pinned (.plain (OpenSpec.upto scriptCommentsSpec)) scriptCommentsUptoCard

/-- THE SECOND FORM's CARD OF 'refmeshlaw56.ScriptErrors'. -/
def scriptErrorsUptoCard : Claim7 := { stood := { row := scriptErrorsUptoRow, standIns := [], harness := (true, "5aadd4e6ba929b92c60ec111ab94a1851c07df0fb41d7739bc95e3149b45c856"), looks := true }, kinds := [], alts := [], laidByText := true, laidKinds := [.data, .data, .data, .data, .sentinel, .sentinel, .widerDeep, .widerDeep, .data, .data, .pinned], laidTests := true, laidLooks := .later }
def ScriptErrorsUptoCardSaid : Prop := Claim7.holds Tryz.pinned (.plain (OpenSpec.upto scriptErrorsSpec)) scriptErrorsUptoCard
end Rows
end Go.Proofs.YtjpbckbpeblibaaGreatDoor
