/-
  DERIVED. GIVEN WITH THE SEED: THE CARDS: each row of YtlobohpbgghleaaDoorRows.lean that lists a variable, with what it lists TIED to the program's text (the seventh form; the later family's looks); each row that meets fmt, with fmt's text TOLD by the authors' own Lean function (tested against real Go, not proved from fmt's source: count such statements apart). THE CARD IS WHAT COUNTS. Prove the row's statement (the work); the ties are given (YtlobohpbgghleaaDoorTie.lean); close each card by the builder's one call (the guide's Derived/Test/ToyasCard.lean, 'card_holds'). Laid BY PROGRAM, IN A SANDBOX (cutbox-door.mjs). By AI agents, Wed Nov 11 2026. No macro, syntax, notation, axiom, sorry.
-/
import Derived.Test.YtlobohpbgghleaaDoorRows
import GoSem.ClaimSeven
namespace Go.Proofs.YtlobohpbgghleaaDoor
namespace Rows

/-- THE TIED CARD OF 'daybooklaw24.DumpStates'. -/
def dumpStatesCard : Claim7 := { stood := { row := dumpStatesRow, standIns := [], harness := (true, "18659d86ab5330ec1a173319f182b92ddaa6a512103c025d266eae3efbab21a9"), looks := false }, kinds := [], alts := [], laidByText := true, laidKinds := [.data, .data, .data], laidTests := true, laidLooks := .later }
def DumpStatesCardSaid : Prop := Claim7.holds Tryd.pinned (.plain (OpenSpec.ofChange dumpStatesSpec)) dumpStatesCard

/-- THE SECOND FORM's CARD OF 'daybooklaw24.DumpStates'. -/
def dumpStatesUptoCard : Claim7 := { stood := { row := dumpStatesUptoRow, standIns := [], harness := (true, "18659d86ab5330ec1a173319f182b92ddaa6a512103c025d266eae3efbab21a9"), looks := false }, kinds := [], alts := [], laidByText := true, laidKinds := [.data, .data, .data], laidTests := true, laidLooks := .later }
def DumpStatesUptoCardSaid : Prop := Claim7.holds Tryd.pinned (.plain (OpenSpec.upto dumpStatesSpec)) dumpStatesUptoCard
end Rows
end Go.Proofs.YtlobohpbgghleaaDoor
