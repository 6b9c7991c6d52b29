/-
  DERIVED. GIVEN WITH THE SEED: THE CARDS: each row of YthajagmccaaanaaDoorRows.lean that lists a variable, with what it lists TIED to the program's text (the seventh form; the later family's looks); each row that meets fmt, with fmt's text TOLD by the authors' own Lean function (tested against real Go, not proved from fmt's source: count such statements apart). THE CARD IS WHAT COUNTS. Prove the row's statement (the work); the ties are given (YthajagmccaaanaaDoorTie.lean); close each card by the builder's one call (the guide's Derived/Test/ToyasCard.lean, 'card_holds'). Laid BY PROGRAM, IN A SANDBOX (cutbox-door.mjs). By AI agents, Wed Nov 11 2026. No macro, syntax, notation, axiom, sorry.
-/
import Derived.Test.YthajagmccaaanaaDoorRows
import GoSem.ClaimSeven
namespace Go.Proofs.YthajagmccaaanaaDoor
namespace Rows

/-- THE TIED CARD OF 'emendatorlaw15.CmdSigns'. -/
def cmdSignsCard : Claim7 := { stood := { row := cmdSignsRow, standIns := [], harness := (true, "0226549c70a4864ec525f61ca67d8a9d9fe20d3cf660d36debff7c70719c5fbd"), looks := false }, kinds := [], alts := [], laidByText := true, laidKinds := [.data, .listed, .data, .pinned], laidTests := true, laidLooks := .later }
def CmdSignsCardSaid : Prop := Claim7.holds Tryd.pinned (.plain (OpenSpec.ofChange cmdSignsSpec)) cmdSignsCard

/-- THE TIED CARD OF 'emendatorlaw15.CmdWords'. -/
def cmdWordsCard : Claim7 := { stood := { row := cmdWordsRow, standIns := [], harness := (true, "0226549c70a4864ec525f61ca67d8a9d9fe20d3cf660d36debff7c70719c5fbd"), looks := false }, kinds := [], alts := [], laidByText := true, laidKinds := [.data, .listed, .data, .pinned], laidTests := true, laidLooks := .later }
def CmdWordsCardSaid : Prop := Claim7.holds Tryd.pinned (.plain (OpenSpec.ofChange cmdWordsSpec)) cmdWordsCard

/-- THE TIED CARD OF 'emendatorlaw15.CmdBlanks'. -/
def cmdBlanksCard : Claim7 := { stood := { row := cmdBlanksRow, standIns := [], harness := (true, "0226549c70a4864ec525f61ca67d8a9d9fe20d3cf660d36debff7c70719c5fbd"), looks := false }, kinds := [], alts := [], laidByText := true, laidKinds := [.data, .listed, .data, .pinned], laidTests := true, laidLooks := .later }
def CmdBlanksCardSaid : Prop := Claim7.holds Tryd.pinned (.plain (OpenSpec.ofChange cmdBlanksSpec)) cmdBlanksCard

/-- THE TIED CARD OF 'emendatorlaw15.CmdNames'. -/
def cmdNamesCard : Claim7 := { stood := { row := cmdNamesRow, standIns := [], harness := (true, "0226549c70a4864ec525f61ca67d8a9d9fe20d3cf660d36debff7c70719c5fbd"), looks := false }, kinds := [], alts := [], laidByText := true, laidKinds := [.data, .listed, .data, .pinned], laidTests := true, laidLooks := .later }
def CmdNamesCardSaid : Prop := Claim7.holds Tryd.pinned (.plain (OpenSpec.ofChange cmdNamesSpec)) cmdNamesCard

/-- THE TIED CARD OF 'emendatorlaw15.CmdRange'. -/
def cmdRangeCard : Claim7 := { stood := { row := cmdRangeRow, standIns := [], harness := (true, "0226549c70a4864ec525f61ca67d8a9d9fe20d3cf660d36debff7c70719c5fbd"), looks := false }, kinds := [], alts := [], laidByText := true, laidKinds := [.data, .listed, .data, .pinned], laidTests := true, laidLooks := .later }
def CmdRangeCardSaid : Prop := Claim7.holds Tryd.pinned (.plain (OpenSpec.ofChange cmdRangeSpec)) cmdRangeCard

/-- THE TIED CARD OF 'emendatorlaw15.CmdGlobal'. -/
def cmdGlobalCard : Claim7 := { stood := { row := cmdGlobalRow, standIns := [], harness := (true, "0226549c70a4864ec525f61ca67d8a9d9fe20d3cf660d36debff7c70719c5fbd"), looks := false }, kinds := [], alts := [], laidByText := true, laidKinds := [.data, .listed, .data, .pinned], laidTests := true, laidLooks := .later }
def CmdGlobalCardSaid : Prop := Claim7.holds Tryd.pinned (.plain (OpenSpec.ofChange cmdGlobalSpec)) cmdGlobalCard

/-- THE TIED CARD OF 'emendatorlaw15.CmdRefuses'. -/
def cmdRefusesCard : Claim7 := { stood := { row := cmdRefusesRow, standIns := [], harness := (true, "0226549c70a4864ec525f61ca67d8a9d9fe20d3cf660d36debff7c70719c5fbd"), looks := false }, kinds := [], alts := [], laidByText := true, laidKinds := [.data, .listed, .data, .pinned], laidTests := true, laidLooks := .later }
def CmdRefusesCardSaid : Prop := Claim7.holds Tryd.pinned (.plain (OpenSpec.ofChange cmdRefusesSpec)) cmdRefusesCard

/-- THE SECOND FORM's CARD OF 'emendatorlaw15.CmdSigns'. -/
def cmdSignsUptoCard : Claim7 := { stood := { row := cmdSignsUptoRow, standIns := [], harness := (true, "0226549c70a4864ec525f61ca67d8a9d9fe20d3cf660d36debff7c70719c5fbd"), looks := false }, kinds := [], alts := [], laidByText := true, laidKinds := [.data, .listed, .data, .pinned], laidTests := true, laidLooks := .later }
def CmdSignsUptoCardSaid : Prop := Claim7.holds Tryd.pinned (.plain (OpenSpec.upto cmdSignsSpec)) cmdSignsUptoCard

/-- THE SECOND FORM's CARD OF 'emendatorlaw15.CmdWords'. -/
def cmdWordsUptoCard : Claim7 := { stood := { row := cmdWordsUptoRow, standIns := [], harness := (true, "0226549c70a4864ec525f61ca67d8a9d9fe20d3cf660d36debff7c70719c5fbd"), looks := false }, kinds := [], alts := [], laidByText := true, laidKinds := [.data, .listed, .data, .pinned], laidTests := true, laidLooks := .later }
def CmdWordsUptoCardSaid : Prop := Claim7.holds Tryd.pinned (.plain (OpenSpec.upto cmdWordsSpec)) cmdWordsUptoCard

/-- THE SECOND FORM's CARD OF 'emendatorlaw15.CmdBlanks'. -/
def cmdBlanksUptoCard : Claim7 := { stood := { row := cmdBlanksUptoRow, standIns := [], harness := (true, "0226549c70a4864ec525f61ca67d8a9d9fe20d3cf660d36debff7c70719c5fbd"), looks := false }, kinds := [], alts := [], laidByText := true, laidKinds := [.data, .listed, .data, .pinned], laidTests := true, laidLooks := .later }
def CmdBlanksUptoCardSaid : Prop := Claim7.holds Tryd.pinned (.plain (OpenSpec.upto cmdBlanksSpec)) cmdBlanksUptoCard

/-- THE SECOND FORM's CARD OF 'emendatorlaw15.CmdNames'. -/
def cmdNamesUptoCard : Claim7 := { stood := { row := cmdNamesUptoRow, standIns := [], harness := (true, "0226549c70a4864ec525f61ca67d8a9d9fe20d3cf660d36debff7c70719c5fbd"), looks := false }, kinds := [], alts := [], laidByText := true, laidKinds := [.data, .listed, .data, .pinned], laidTests := true, laidLooks := .later }
def CmdNamesUptoCardSaid : Prop := Claim7.holds Tryd.pinned (.plain (OpenSpec.upto cmdNamesSpec)) cmdNamesUptoCard

/-- THE SECOND FORM's CARD OF 'emendatorlaw15.CmdRange'. -/
def cmdRangeUptoCard : Claim7 := { stood := { row := cmdRangeUptoRow, standIns := [], harness := (true, "0226549c70a4864ec525f61ca67d8a9d9fe20d3cf660d36debff7c70719c5fbd"), looks := false }, kinds := [], alts := [], laidByText := true, laidKinds := [.data, .listed, .data, .pinned], laidTests := true, laidLooks := .later }
def CmdRangeUptoCardSaid : Prop := Claim7.holds Tryd.pinned (.plain (OpenSpec.upto cmdRangeSpec)) cmdRangeUptoCard

/-- THE SECOND FORM's CARD OF 'emendatorlaw15.CmdGlobal'. -/
def cmdGlobalUptoCard : Claim7 := { stood := { row := cmdGlobalUptoRow, standIns := [], harness := (true, "0226549c70a4864ec525f61ca67d8a9d9fe20d3cf660d36debff7c70719c5fbd"), looks := false }, kinds := [], alts := [], laidByText := true, laidKinds := [.data, .listed, .data, .pinned], laidTests := true, laidLooks := .later }
def CmdGlobalUptoCardSaid : Prop := Claim7.holds Tryd.pinned (.plain (OpenSpec.upto cmdGlobalSpec)) cmdGlobalUptoCard

/-- THE SECOND FORM's CARD OF 'emendatorlaw15.CmdRefuses'. -/
def cmdRefusesUptoCard : Claim7 := { stood := { row := cmdRefusesUptoRow, standIns := [], harness := (true, "0226549c70a4864ec525f61ca67d8a9d9fe20d3cf660d36debff7c70719c5fbd"), looks := false }, kinds := [], alts := [], laidByText := true, laidKinds := [.data, .listed, .data, .pinned], laidTests := true, laidLooks := .later }
def CmdRefusesUptoCardSaid : Prop := Claim7.holds Tryd.pinned (.plain (OpenSpec.upto cmdRefusesSpec)) cmdRefusesUptoCard
end Rows
end Go.Proofs.YthajagmccaaanaaDoor
