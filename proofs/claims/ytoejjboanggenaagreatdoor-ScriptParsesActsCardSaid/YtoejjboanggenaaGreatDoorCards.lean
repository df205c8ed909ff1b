/-
  DERIVED. GIVEN WITH THE SEED: THE CARDS: each row of YtoejjboanggenaaGreatDoorRows.lean that lists a variable, with what it lists TIED to the program's text (the seventh form; the later family's looks); each row that meets fmt, with fmt's text TOLD by the authors' own Lean function (tested against real Go, not proved from fmt's source: count such statements apart). THE CARD IS WHAT COUNTS. Prove the row's statement (the work); the ties are given (YtoejjboanggenaaGreatDoorTie.lean); close each card by the builder's one call (the guide's Derived/Test/ToyasCard.lean, 'card_holds'). Laid BY PROGRAM, IN A SANDBOX (cutbox-door.mjs). By AI agents, Wed Nov 11 2026. No macro, syntax, notation, axiom, sorry.
-/
import Derived.Test.YtoejjboanggenaaGreatDoorRows
import GoSem.ClaimSeven
namespace Go.Proofs.YtoejjboanggenaaGreatDoor
namespace Rows

/-- THE TIED CARD OF 'refmeshlaw56.ScriptActs'. -/
def scriptActsCard : Claim7 := { stood := { row := scriptActsRow, standIns := [], harness := (true, "5765bb355efc68fb7ff57ceaf2d5ed8233ca838d0bedd69f5be3cb67ebb196cc"), looks := true }, kinds := [], alts := [], laidByText := true, laidKinds := [.data, .data, .data, .data, .sentinel, .sentinel, .widerDeep, .widerDeep, .pinned], laidTests := true, laidLooks := .later }
def ScriptActsCardSaid : Prop := Claim7.holds Tryz.pinned (.plain (OpenSpec.ofChange scriptActsSpec)) scriptActsCard

/-- THE TIED CARD OF 'refmeshlaw56.ScriptParsesActs'. -/
def scriptParsesActsCard : Claim7 := { stood := { row := scriptParsesActsRow, standIns := [], harness := (true, "5765bb355efc68fb7ff57ceaf2d5ed8233ca838d0bedd69f5be3cb67ebb196cc"), looks := true }, kinds := [], alts := [], laidByText := true, laidKinds := [.data, .data, .data, .data, .sentinel, .sentinel, .widerDeep, .widerDeep, .pinned], laidTests := true, laidLooks := .later }
def ScriptParsesActsCardSaid : Prop := Claim7.holds Tryz.pinned (.plain (OpenSpec.ofChange scriptParsesActsSpec)) scriptParsesActsCard

/-- THE SECOND FORM's CARD OF 'refmeshlaw56.ScriptActs'. -/
def scriptActsUptoCard : Claim7 := { stood := { row := scriptActsUptoRow, standIns := [], harness := (true, "5765bb355efc68fb7ff57ceaf2d5ed8233ca838d0bedd69f5be3cb67ebb196cc"), looks := true }, kinds := [], alts := [], laidByText := true, laidKinds := [.data, .data, .data, .data, .sentinel, .sentinel, .widerDeep, .widerDeep, .pinned], laidTests := true, laidLooks := .later }
def ScriptActsUptoCardSaid : Prop := Claim7.holds Tryz.pinned (.plain (OpenSpec.upto scriptActsSpec)) scriptActsUptoCard

/-- THE SECOND FORM's CARD OF 'refmeshlaw56.ScriptParsesActs'. -/
def scriptParsesActsUptoCard : Claim7 := { stood := { row := scriptParsesActsUptoRow, standIns := [], harness := (true, "5765bb355efc68fb7ff57ceaf2d5ed8233ca838d0bedd69f5be3cb67ebb196cc"), looks := true }, kinds := [], alts := [], laidByText := true, laidKinds := [.data, .data, .data, .data, .sentinel, .sentinel, .widerDeep, .widerDeep, .pinned], laidTests := true, laidLooks := .later }
def ScriptParsesActsUptoCardSaid : Prop := Claim7.holds Tryz.pinned (.plain (OpenSpec.upto scriptParsesActsSpec)) scriptParsesActsUptoCard
end Rows
end Go.Proofs.YtoejjboanggenaaGreatDoor
