/-
  DERIVED. GIVEN WITH THE SEED: THE CARDS: each row of YtlobohpbgghleaaGreatDoorRows.lean that lists a variable, with what it lists TIED to the program's text (the seventh form; the later family's looks); each row that meets fmt, with fmt's text TOLD by the authors' own Lean function (tested against real Go, not proved from fmt's source: count such statements apart). THE CARD IS WHAT COUNTS. Prove the row's statement (the work); the ties are given (YtlobohpbgghleaaGreatDoorTie.lean); close each card by the builder's one call (the guide's Derived/Test/ToyasCard.lean, 'card_holds'). Laid BY PROGRAM, IN A SANDBOX (cutbox-door.mjs). By AI agents, Wed Nov 11 2026. No macro, syntax, notation, axiom, sorry.
-/
import Derived.Test.YtlobohpbgghleaaGreatDoorRows
import GoSem.ClaimSeven
namespace Go.Proofs.YtlobohpbgghleaaGreatDoor
namespace Rows

/-- THE TIED CARD OF 'daybooklaw18.RecoveryReads'. -/
def recoveryReadsCard : Claim7 := { stood := { row := recoveryReadsRow, standIns := [], harness := (true, "9dd6fbf541a187e3f8f21ce6f293ca1566b78b7548e58093f9b358c139e7062e"), looks := true }, kinds := [], alts := [], laidByText := true, laidKinds := [.data], laidTests := true, laidLooks := .later }
def RecoveryReadsCardSaid : Prop := Claim7.holds Tryz.pinned (.plain (OpenSpec.ofChange recoveryReadsSpec)) recoveryReadsCard

/-- THE TIED CARD OF 'daybooklaw18.RecoveryTwice'. -/
def recoveryTwiceCard : Claim7 := { stood := { row := recoveryTwiceRow, standIns := [], harness := (true, "9dd6fbf541a187e3f8f21ce6f293ca1566b78b7548e58093f9b358c139e7062e"), looks := true }, kinds := [], alts := [], laidByText := true, laidKinds := [.data], laidTests := true, laidLooks := .later }
def RecoveryTwiceCardSaid : Prop := Claim7.holds Tryz.pinned (.plain (OpenSpec.ofChange recoveryTwiceSpec)) recoveryTwiceCard

/-- THE TIED CARD OF 'daybooklaw18.RecoveryApplies'. -/
def recoveryAppliesCard : Claim7 := { stood := { row := recoveryAppliesRow, standIns := [], harness := (true, "9dd6fbf541a187e3f8f21ce6f293ca1566b78b7548e58093f9b358c139e7062e"), looks := true }, kinds := [], alts := [], laidByText := true, laidKinds := [.data], laidTests := true, laidLooks := .later }
def RecoveryAppliesCardSaid : Prop := Claim7.holds Tryz.pinned (.plain (OpenSpec.ofChange recoveryAppliesSpec)) recoveryAppliesCard

/-- THE TIED CARD OF 'daybooklaw18.RecoveryRuns'. -/
def recoveryRunsCard : Claim7 := { stood := { row := recoveryRunsRow, standIns := [], harness := (true, "9dd6fbf541a187e3f8f21ce6f293ca1566b78b7548e58093f9b358c139e7062e"), looks := true }, kinds := [], alts := [], laidByText := true, laidKinds := [.data], laidTests := true, laidLooks := .later }
def RecoveryRunsCardSaid : Prop := Claim7.holds Tryz.pinned (.plain (OpenSpec.ofChange recoveryRunsSpec)) recoveryRunsCard

/-- THE TIED CARD OF 'daybooklaw18.RecoveryBroken'. -/
def recoveryBrokenCard : Claim7 := { stood := { row := recoveryBrokenRow, standIns := [], harness := (true, "9dd6fbf541a187e3f8f21ce6f293ca1566b78b7548e58093f9b358c139e7062e"), looks := true }, kinds := [], alts := [], laidByText := true, laidKinds := [.data], laidTests := true, laidLooks := .later }
def RecoveryBrokenCardSaid : Prop := Claim7.holds Tryz.pinned (.plain (OpenSpec.ofChange recoveryBrokenSpec)) recoveryBrokenCard

/-- THE TIED CARD OF 'daybooklaw18.RecoveryPlans'. -/
def recoveryPlansCard : Claim7 := { stood := { row := recoveryPlansRow, standIns := [], harness := (true, "9dd6fbf541a187e3f8f21ce6f293ca1566b78b7548e58093f9b358c139e7062e"), looks := true }, kinds := [], alts := [], laidByText := true, laidKinds := [.data], laidTests := true, laidLooks := .later }
def RecoveryPlansCardSaid : Prop := Claim7.holds Tryz.pinned (.plain (OpenSpec.ofChange recoveryPlansSpec)) recoveryPlansCard

/-- THE SECOND FORM's CARD OF 'daybooklaw18.RecoveryReads'. -/
def recoveryReadsUptoCard : Claim7 := { stood := { row := recoveryReadsUptoRow, standIns := [], harness := (true, "9dd6fbf541a187e3f8f21ce6f293ca1566b78b7548e58093f9b358c139e7062e"), looks := true }, kinds := [], alts := [], laidByText := true, laidKinds := [.data], laidTests := true, laidLooks := .later }
def RecoveryReadsUptoCardSaid : Prop := Claim7.holds Tryz.pinned (.plain (OpenSpec.upto recoveryReadsSpec)) recoveryReadsUptoCard

/-- THE SECOND FORM's CARD OF 'daybooklaw18.RecoveryTwice'. -/
def recoveryTwiceUptoCard : Claim7 := { stood := { row := recoveryTwiceUptoRow, standIns := [], harness := (true, "9dd6fbf541a187e3f8f21ce6f293ca1566b78b7548e58093f9b358c139e7062e"), looks := true }, kinds := [], alts := [], laidByText := true, laidKinds := [.data], laidTests := true, laidLooks := .later }
def RecoveryTwiceUptoCardSaid : Prop := Claim7.holds Tryz.pinned (.plain (OpenSpec.upto recoveryTwiceSpec)) recoveryTwiceUptoCard

/-- THE SECOND FORM's CARD OF 'daybooklaw18.RecoveryApplies'. -/
def recoveryAppliesUptoCard : Claim7 := { stood := { row := recoveryAppliesUptoRow, standIns := [], harness := (true, "9dd6fbf541a187e3f8f21ce6f293ca1566b78b7548e58093f9b358c139e7062e"), looks := true }, kinds := [], alts := [], laidByText := true, laidKinds := [.data], laidTests := true, laidLooks := .later }
def RecoveryAppliesUptoCardSaid : Prop := Claim7.holds Tryz.pinned (.plain (OpenSpec.upto recoveryAppliesSpec)) recoveryAppliesUptoCard

/-- THE SECOND FORM's CARD OF 'daybooklaw18.RecoveryRuns'. -/
def recoveryRunsUptoCard : Claim7 := { stood := { row := recoveryRunsUptoRow, standIns := [], harness := (true, "9dd6fbf541a187e3f8f21ce6f293ca1566b78b7548e58093f9b358c139e7062e"), looks := true }, kinds := [], alts := [], laidByText := true, laidKinds := [.data], laidTests := true, laidLooks := .later }
def RecoveryRunsUptoCardSaid : Prop := Claim7.holds Tryz.pinned (.plain (OpenSpec.upto recoveryRunsSpec)) recoveryRunsUptoCard

/-- THE SECOND FORM's CARD OF 'daybooklaw18.RecoveryBroken'. -/
def recoveryBrokenUptoCard : Claim7 := { stood := { row := recoveryBrokenUptoRow, standIns := [], harness := (true, "9dd6fbf541a187e3f8f21ce6f293ca1566b78b7548e58093f9b358c139e7062e"), looks := true }, kinds := [], alts := [], laidByText := true, laidKinds := [.data], laidTests := true, laidLooks := .later }
def RecoveryBrokenUptoCardSaid : Prop := Claim7.holds Tryz.pinned (.plain (OpenSpec.upto recoveryBrokenSpec)) recoveryBrokenUptoCard

/-- THE SECOND FORM's CARD OF 'daybooklaw18.RecoveryPlans'. -/
def recoveryPlansUptoCard : Claim7 := { stood := { row := recoveryPlansUptoRow, standIns := [], harness := (true, "9dd6fbf541a187e3f8f21ce6f293ca1566b78b7548e58093f9b358c139e7062e"), looks := true }, kinds := [], alts := [], laidByText := true, laidKinds := [.data], laidTests := true, laidLooks := .later }
def RecoveryPlansUptoCardSaid : Prop := Claim7.holds Tryz.pinned (.plain (OpenSpec.upto recoveryPlansSpec)) recoveryPlansUptoCard
end Rows
end Go.Proofs.YtlobohpbgghleaaGreatDoor
