/-
  DERIVED. GIVEN WITH THE SEED: THE CARDS: each row of YtcglcphhfmkccaaGreatDoorRows.lean that lists a variable, with what it lists TIED to the program's text (the seventh form; the later family's looks); each row that meets fmt, with fmt's text TOLD by the authors' own Lean function (tested against real Go, not proved from fmt's source: count such statements apart). THE CARD IS WHAT COUNTS. Prove the row's statement (the work); the ties are given (YtcglcphhfmkccaaGreatDoorTie.lean); close each card by the builder's one call (the guide's Derived/Test/ToyasCard.lean, 'card_holds'). Laid BY PROGRAM, IN A SANDBOX (cutbox-door.mjs). By AI agents, Wed Nov 11 2026. No macro, syntax, notation, axiom, sorry.
-/
import Derived.Test.YtcglcphhfmkccaaGreatDoorRows
import GoSem.ClaimSeven
namespace Go.Proofs.YtcglcphhfmkccaaGreatDoor
namespace Rows

/-- THE TIED CARD OF 'daybooklaw18.RecoveryBroken'. -/
def recoveryBrokenCard : Claim7 := { stood := { row := recoveryBrokenRow, standIns := [], harness := (true, "7fa93705cd73f6a04f37d9bedb5d9e4b5d629e9f301dd73f8cfeae3d2972813c"), looks := true }, kinds := [], alts := [], laidByText := true, laidKinds := [.data], laidTests := true, laidLooks := .later }
def RecoveryBrokenCardSaid : Prop := Claim7.holds Tryz.pinned (.plain (OpenSpec.ofChange recoveryBrokenSpec)) recoveryBrokenCard

/-- THE SECOND FORM's CARD OF 'daybooklaw18.RecoveryBroken'. -/
def recoveryBrokenUptoCard : Claim7 := { stood := { row := recoveryBrokenUptoRow, standIns := [], harness := (true, "7fa93705cd73f6a04f37d9bedb5d9e4b5d629e9f301dd73f8cfeae3d2972813c"), looks := true }, kinds := [], alts := [], laidByText := true, laidKinds := [.data], laidTests := true, laidLooks := .later }
def RecoveryBrokenUptoCardSaid : Prop := Claim7.holds Tryz.pinned (.plain (OpenSpec.upto recoveryBrokenSpec)) recoveryBrokenUptoCard
end Rows
end Go.Proofs.YtcglcphhfmkccaaGreatDoor
