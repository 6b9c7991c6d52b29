/-
  DERIVED. GIVEN WITH THE SEED: THE CARDS: each row of YthajagmccaaanaaGreatDoorRows.lean that lists a variable, with what it lists TIED to the program's text (the seventh form; the later family's looks); each row that meets fmt, with fmt's text TOLD by the authors' own Lean function (tested against real Go, not proved from fmt's source: count such statements apart). THE CARD IS WHAT COUNTS. Prove the row's statement (the work); the ties are given (YthajagmccaaanaaGreatDoorTie.lean); close each card by the builder's one call (the guide's Derived/Test/ToyasCard.lean, 'card_holds'). Laid BY PROGRAM, IN A SANDBOX (cutbox-door.mjs). By AI agents, Wed Nov 11 2026. No macro, syntax, notation, axiom, sorry.
-/
import Derived.Test.YthajagmccaaanaaGreatDoorRows
import GoSem.ClaimSeven
namespace Go.Proofs.YthajagmccaaanaaGreatDoor
namespace Rows

/-- THE TIED CARD OF 'emendatorlaw15.CmdParses'. -/
def cmdParsesCard : Claim7 := { stood := { row := cmdParsesRow, standIns := [], harness := (true, "aa7267ee3898f8cd8f5737cec4fce08950a1b5fb6edb87c542faf4e2eb3be238"), looks := false }, kinds := [], alts := [], laidByText := true, laidKinds := [.data, .listed, .data, .pinned], laidTests := true, laidLooks := .later }
def CmdParsesCardSaid : Prop := Claim7.holds Tryz.pinned (.plain (OpenSpec.ofChange cmdParsesSpec)) cmdParsesCard

/-- THE SECOND FORM's CARD OF 'emendatorlaw15.CmdParses'. -/
def cmdParsesUptoCard : Claim7 := { stood := { row := cmdParsesUptoRow, standIns := [], harness := (true, "aa7267ee3898f8cd8f5737cec4fce08950a1b5fb6edb87c542faf4e2eb3be238"), looks := false }, kinds := [], alts := [], laidByText := true, laidKinds := [.data, .listed, .data, .pinned], laidTests := true, laidLooks := .later }
def CmdParsesUptoCardSaid : Prop := Claim7.holds Tryz.pinned (.plain (OpenSpec.upto cmdParsesSpec)) cmdParsesUptoCard
end Rows
end Go.Proofs.YthajagmccaaanaaGreatDoor
