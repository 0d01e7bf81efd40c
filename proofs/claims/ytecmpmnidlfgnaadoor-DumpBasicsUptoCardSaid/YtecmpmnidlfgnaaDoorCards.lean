/-
  DERIVED. GIVEN WITH THE SEED: THE CARDS: each row of YtecmpmnidlfgnaaDoorRows.lean that lists a variable, with what it lists TIED to the program's text (the seventh form; the later family's looks); each row that meets fmt, with fmt's text TOLD by the authors' own Lean function (tested against real Go, not proved from fmt's source: count such statements apart). THE CARD IS WHAT COUNTS. Prove the row's statement (the work); the ties are given (YtecmpmnidlfgnaaDoorTie.lean); close each card by the builder's one call (the guide's Derived/Test/ToyasCard.lean, 'card_holds'). Laid BY PROGRAM, IN A SANDBOX (cutbox-door.mjs). By AI agents, Wed Nov 11 2026. No macro, syntax, notation, axiom, sorry.
-/
import Derived.Test.YtecmpmnidlfgnaaDoorRows
import GoSem.ClaimSeven
namespace Go.Proofs.YtecmpmnidlfgnaaDoor
namespace Rows

/-- THE TIED CARD OF 'daybooklaw24.DumpStates'. -/
def dumpStatesCard : Claim7 := { stood := { row := dumpStatesRow, standIns := [], harness := (true, "895c5a0839307ecccb2f0e35441a33a02744ea7f7dfecc94226d3db2001f86ed"), looks := true }, kinds := [], alts := [], laidByText := true, laidKinds := [.data, .data, .data], laidTests := true, laidLooks := .later }
def DumpStatesCardSaid : Prop := Claim7.holds Tryd.pinned (.plain (OpenSpec.ofChange dumpStatesSpec)) dumpStatesCard

/-- THE TIED CARD OF 'daybooklaw24.DumpBasics'. -/
def dumpBasicsCard : Claim7 := { stood := { row := dumpBasicsRow, standIns := [], harness := (true, "895c5a0839307ecccb2f0e35441a33a02744ea7f7dfecc94226d3db2001f86ed"), looks := true }, kinds := [], alts := [], laidByText := true, laidKinds := [.data, .data, .data, .sentinel, .sentinel], laidTests := true, laidLooks := .later }
def DumpBasicsCardSaid : Prop := Claim7.holds Tryd.pinned (.plain (OpenSpec.ofChange dumpBasicsSpec)) dumpBasicsCard

/-- THE SECOND FORM's CARD OF 'daybooklaw24.DumpStates'. -/
def dumpStatesUptoCard : Claim7 := { stood := { row := dumpStatesUptoRow, standIns := [], harness := (true, "895c5a0839307ecccb2f0e35441a33a02744ea7f7dfecc94226d3db2001f86ed"), looks := true }, kinds := [], alts := [], laidByText := true, laidKinds := [.data, .data, .data], laidTests := true, laidLooks := .later }
def DumpStatesUptoCardSaid : Prop := Claim7.holds Tryd.pinned (.plain (OpenSpec.upto dumpStatesSpec)) dumpStatesUptoCard

/-- THE SECOND FORM's CARD OF 'daybooklaw24.DumpBasics'. -/
def dumpBasicsUptoCard : Claim7 := { stood := { row := dumpBasicsUptoRow, standIns := [], harness := (true, "895c5a0839307ecccb2f0e35441a33a02744ea7f7dfecc94226d3db2001f86ed"), looks := true }, kinds := [], alts := [], laidByText := true, laidKinds := [.data, .data, .data, .sentinel, .sentinel], laidTests := true, laidLooks := .later }
def DumpBasicsUptoCardSaid : Prop := Claim7.holds Tryd.pinned (.plain (OpenSpec.upto dumpBasicsSpec)) dumpBasicsUptoCard
end Rows
end Go.Proofs.YtecmpmnidlfgnaaDoor
