/-
  DERIVED. GIVEN WITH THE SEED: THE CARDS: each row of YtecmpmnidlfgnaaGreatDoorRows.lean that lists a variable, with what it lists TIED to the program's text (the seventh form; the later family's looks); each row that meets fmt, with fmt's text TOLD by the authors' own Lean function (tested against real Go, not proved from fmt's source: count such statements apart). THE CARD IS WHAT COUNTS. Prove the row's statement (the work); the ties are given (YtecmpmnidlfgnaaGreatDoorTie.lean); close each card by the builder's one call (the guide's Derived/Test/ToyasCard.lean, 'card_holds'). Laid BY PROGRAM, IN A SANDBOX (cutbox-door.mjs). By AI agents, Wed Nov 11 2026. No macro, syntax, notation, axiom, sorry.
-/
import Derived.Test.YtecmpmnidlfgnaaGreatDoorRows
import GoSem.ClaimSeven
namespace Go.Proofs.YtecmpmnidlfgnaaGreatDoor
namespace Rows

/-- THE TIED CARD OF 'daybooklaw24.DumpWords'. -/
def dumpWordsCard : Claim7 := { stood := { row := dumpWordsRow, standIns := [], harness := (true, "4952d4e2b76121808270363d56c4e4b0d0a7274f7cd770ce312ec44c590e37d8"), looks := true }, kinds := [], alts := [], laidByText := true, laidKinds := [.data, .data, .data, .data, .sentinel, .sentinel, .pinned], laidTests := true, laidLooks := .later }
def DumpWordsCardSaid : Prop := Claim7.holds Tryz.pinned (.plain (OpenSpec.ofChange dumpWordsSpec)) dumpWordsCard

/-- THE TIED CARD OF 'daybooklaw24.DumpLines'. -/
def dumpLinesCard : Claim7 := { stood := { row := dumpLinesRow, standIns := [], harness := (true, "4952d4e2b76121808270363d56c4e4b0d0a7274f7cd770ce312ec44c590e37d8"), looks := true }, kinds := [], alts := [], laidByText := true, laidKinds := [.data, .data, .data, .data, .sentinel, .sentinel, .pinned], laidTests := true, laidLooks := .later }
def DumpLinesCardSaid : Prop := Claim7.holds Tryz.pinned (.plain (OpenSpec.ofChange dumpLinesSpec)) dumpLinesCard

/-- THE TIED CARD OF 'daybooklaw24.DumpTexts'. -/
def dumpTextsCard : Claim7 := { stood := { row := dumpTextsRow, standIns := [], harness := (true, "4952d4e2b76121808270363d56c4e4b0d0a7274f7cd770ce312ec44c590e37d8"), looks := true }, kinds := [], alts := [], laidByText := true, laidKinds := [.data, .data, .data, .data, .sentinel, .sentinel, .pinned], laidTests := true, laidLooks := .later }
def DumpTextsCardSaid : Prop := Claim7.holds Tryz.pinned (.plain (OpenSpec.ofChange dumpTextsSpec)) dumpTextsCard

/-- THE TIED CARD OF 'daybooklaw24.DumpBack'. -/
def dumpBackCard : Claim7 := { stood := { row := dumpBackRow, standIns := [], harness := (true, "4952d4e2b76121808270363d56c4e4b0d0a7274f7cd770ce312ec44c590e37d8"), looks := true }, kinds := [], alts := [], laidByText := true, laidKinds := [.data, .data, .data, .data, .sentinel, .sentinel, .pinned], laidTests := true, laidLooks := .later }
def DumpBackCardSaid : Prop := Claim7.holds Tryz.pinned (.plain (OpenSpec.ofChange dumpBackSpec)) dumpBackCard

/-- THE TIED CARD OF 'daybooklaw25.ScriptLines'. -/
def scriptLinesCard : Claim7 := { stood := { row := scriptLinesRow, standIns := [], harness := (true, "4952d4e2b76121808270363d56c4e4b0d0a7274f7cd770ce312ec44c590e37d8"), looks := true }, kinds := [], alts := [], laidByText := true, laidKinds := [.data, .data, .data, .data, .sentinel, .sentinel, .pinned], laidTests := true, laidLooks := .later }
def ScriptLinesCardSaid : Prop := Claim7.holds Tryz.pinned (.plain (OpenSpec.ofChange scriptLinesSpec)) scriptLinesCard

/-- THE TIED CARD OF 'daybooklaw25.ScriptTexts'. -/
def scriptTextsCard : Claim7 := { stood := { row := scriptTextsRow, standIns := [], harness := (true, "4952d4e2b76121808270363d56c4e4b0d0a7274f7cd770ce312ec44c590e37d8"), looks := true }, kinds := [], alts := [], laidByText := true, laidKinds := [.data, .data, .data, .data, .sentinel, .sentinel, .pinned], laidTests := true, laidLooks := .later }
def ScriptTextsCardSaid : Prop := Claim7.holds Tryz.pinned (.plain (OpenSpec.ofChange scriptTextsSpec)) scriptTextsCard

/-- THE TIED CARD OF 'daybooklaw25.ScriptBack'. -/
def scriptBackCard : Claim7 := { stood := { row := scriptBackRow, standIns := [], harness := (true, "4952d4e2b76121808270363d56c4e4b0d0a7274f7cd770ce312ec44c590e37d8"), looks := true }, kinds := [], alts := [], laidByText := true, laidKinds := [.data, .data, .data, .data, .sentinel, .sentinel, .pinned], laidTests := true, laidLooks := .later }
def ScriptBackCardSaid : Prop := Claim7.holds Tryz.pinned (.plain (OpenSpec.ofChange scriptBackSpec)) scriptBackCard

/-- THE TIED CARD OF 'daybooklaw25.ScriptLong'. -/
def scriptLongCard : Claim7 := { stood := { row := scriptLongRow, standIns := [], harness := (true, "4952d4e2b76121808270363d56c4e4b0d0a7274f7cd770ce312ec44c590e37d8"), looks := true }, kinds := [], alts := [], laidByText := true, laidKinds := [.data, .data, .data, .data, .sentinel, .sentinel, .pinned], laidTests := true, laidLooks := .later }
def ScriptLongCardSaid : Prop := Claim7.holds Tryz.pinned (.plain (OpenSpec.ofChange scriptLongSpec)) scriptLongCard

/-- THE TIED CARD OF 'daybooklaw25.ScriptVerbs'. -/
def scriptVerbsCard : Claim7 := { stood := { row := scriptVerbsRow, standIns := [], harness := (true, "4952d4e2b76121808270363d56c4e4b0d0a7274f7cd770ce312ec44c590e37d8"), looks := true }, kinds := [], alts := [], laidByText := true, laidKinds := [.data, .data, .data, .data, .sentinel, .sentinel, .pinned], laidTests := true, laidLooks := .later }
def ScriptVerbsCardSaid : Prop := Claim7.holds Tryz.pinned (.plain (OpenSpec.ofChange scriptVerbsSpec)) scriptVerbsCard

/-- THE SECOND FORM's CARD OF 'daybooklaw24.DumpWords'. -/
def dumpWordsUptoCard : Claim7 := { stood := { row := dumpWordsUptoRow, standIns := [], harness := (true, "4952d4e2b76121808270363d56c4e4b0d0a7274f7cd770ce312ec44c590e37d8"), looks := true }, kinds := [], alts := [], laidByText := true, laidKinds := [.data, .data, .data, .data, .sentinel, .sentinel, .pinned], laidTests := true, laidLooks := .later }
def DumpWordsUptoCardSaid : Prop := Claim7.holds Tryz.pinned (.plain (OpenSpec.upto dumpWordsSpec)) dumpWordsUptoCard

/-- THE SECOND FORM's CARD OF 'daybooklaw24.DumpLines'. -/
def dumpLinesUptoCard : Claim7 := { stood := { row := dumpLinesUptoRow, standIns := [], harness := (true, "4952d4e2b76121808270363d56c4e4b0d0a7274f7cd770ce312ec44c590e37d8"), looks := true }, kinds := [], alts := [], laidByText := true, laidKinds := [.data, .data, .data, .data, .sentinel, .sentinel, .pinned], laidTests := true, laidLooks := .later }
def DumpLinesUptoCardSaid : Prop := Claim7.holds Tryz.pinned (.plain (OpenSpec.upto dumpLinesSpec)) dumpLinesUptoCard

/-- THE SECOND FORM's CARD OF 'daybooklaw24.DumpTexts'. -/
def dumpTextsUptoCard : Claim7 := { stood := { row := dumpTextsUptoRow, standIns := [], harness := (true, "4952d4e2b76121808270363d56c4e4b0d0a7274f7cd770ce312ec44c590e37d8"), looks := true }, kinds := [], alts := [], laidByText := true, laidKinds := [.data, .data, .data, .data, .sentinel, .sentinel, .pinned], laidTests := true, laidLooks := .later }
def DumpTextsUptoCardSaid : Prop := Claim7.holds Tryz.pinned (.plain (OpenSpec.upto dumpTextsSpec)) dumpTextsUptoCard

/-- THE SECOND FORM's CARD OF 'daybooklaw24.DumpBack'. -/
def dumpBackUptoCard : Claim7 := { stood := { row := dumpBackUptoRow, standIns := [], harness := (true, "4952d4e2b76121808270363d56c4e4b0d0a7274f7cd770ce312ec44c590e37d8"), looks := true }, kinds := [], alts := [], laidByText := true, laidKinds := [.data, .data, .data, .data, .sentinel, .sentinel, .pinned], laidTests := true, laidLooks := .later }
def DumpBackUptoCardSaid : Prop := Claim7.holds Tryz.pinned (.plain (OpenSpec.upto dumpBackSpec)) dumpBackUptoCard

/-- THE SECOND FORM's CARD OF 'daybooklaw25.ScriptLines'. -/
def scriptLinesUptoCard : Claim7 := { stood := { row := scriptLinesUptoRow, standIns := [], harness := (true, "4952d4e2b76121808270363d56c4e4b0d0a7274f7cd770ce312ec44c590e37d8"), looks := true }, kinds := [], alts := [], laidByText := true, laidKinds := [.data, .data, .data, .data, .sentinel, .sentinel, .pinned], laidTests := true, laidLooks := .later }
def ScriptLinesUptoCardSaid : Prop := Claim7.holds Tryz.pinned (.plain (OpenSpec.upto scriptLinesSpec)) scriptLinesUptoCard

/-- THE SECOND FORM's CARD OF 'daybooklaw25.ScriptTexts'. -/
def scriptTextsUptoCard : Claim7 := { stood := { row := scriptTextsUptoRow, standIns := [], harness := (true, "4952d4e2b76121808270363d56c4e4b0d0a7274f7cd770ce312ec44c590e37d8"), looks := true }, kinds := [], alts := [], laidByText := true, laidKinds := [.data, .data, .data, .data, .sentinel, .sentinel, .pinned], laidTests := true, laidLooks := .later }
def ScriptTextsUptoCardSaid : Prop := Claim7.holds Tryz.pinned (.plain (OpenSpec.upto scriptTextsSpec)) scriptTextsUptoCard

/-- THE SECOND FORM's CARD OF 'daybooklaw25.ScriptBack'. -/
def scriptBackUptoCard : Claim7 := { stood := { row := scriptBackUptoRow, standIns := [], harness := (true, "4952d4e2b76121808270363d56c4e4b0d0a7274f7cd770ce312ec44c590e37d8"), looks := true }, kinds := [], alts := [], laidByText := true, laidKinds := [.data, .data, .data, .data, .sentinel, .sentinel, .pinned], laidTests := true, laidLooks := .later }
def ScriptBackUptoCardSaid : Prop := Claim7.holds Tryz.pinned (.plain (OpenSpec.upto scriptBackSpec)) scriptBackUptoCard

/-- THE SECOND FORM's CARD OF 'daybooklaw25.ScriptLong'. -/
def scriptLongUptoCard : Claim7 := { stood := { row := scriptLongUptoRow, standIns := [], harness := (true, "4952d4e2b76121808270363d56c4e4b0d0a7274f7cd770ce312ec44c590e37d8"), looks := true }, kinds := [], alts := [], laidByText := true, laidKinds := [.data, .data, .data, .data, .sentinel, .sentinel, .pinned], laidTests := true, laidLooks := .later }
def ScriptLongUptoCardSaid : Prop := Claim7.holds Tryz.pinned (.plain (OpenSpec.upto scriptLongSpec)) scriptLongUptoCard

/-- THE SECOND FORM's CARD OF 'daybooklaw25.ScriptVerbs'. -/
def scriptVerbsUptoCard : Claim7 := { stood := { row := scriptVerbsUptoRow, standIns := [], harness := (true, "4952d4e2b76121808270363d56c4e4b0d0a7274f7cd770ce312ec44c590e37d8"), looks := true }, kinds := [], alts := [], laidByText := true, laidKinds := [.data, .data, .data, .data, .sentinel, .sentinel, .pinned], laidTests := true, laidLooks := .later }
def ScriptVerbsUptoCardSaid : Prop := Claim7.holds Tryz.pinned (.plain (OpenSpec.upto scriptVerbsSpec)) scriptVerbsUptoCard
end Rows
end Go.Proofs.YtecmpmnidlfgnaaGreatDoor
