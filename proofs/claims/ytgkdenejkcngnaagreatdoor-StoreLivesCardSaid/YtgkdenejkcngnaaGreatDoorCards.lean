/-
  DERIVED. GIVEN WITH THE SEED: THE CARDS: each row of YtgkdenejkcngnaaGreatDoorRows.lean that lists a variable, with what it lists TIED to the program's text (the seventh form; the later family's looks); each row that meets fmt, with fmt's text TOLD by the authors' own Lean function (tested against real Go, not proved from fmt's source: count such statements apart). THE CARD IS WHAT COUNTS. Prove the row's statement (the work); the ties are given (YtgkdenejkcngnaaGreatDoorTie.lean); close each card by the builder's one call (the guide's Derived/Test/ToyasCard.lean, 'card_holds'). Laid BY PROGRAM, IN A SANDBOX (cutbox-door.mjs). By AI agents, Wed Nov 11 2026. No macro, syntax, notation, axiom, sorry.
-/
import Derived.Test.YtgkdenejkcngnaaGreatDoorRows
import GoSem.ClaimSeven
namespace Go.Proofs.YtgkdenejkcngnaaGreatDoor
namespace Rows

/-- THE TIED CARD OF 'daybooklaw19.StoreKeeps'. -/
def storeKeepsCard : Claim7 := { stood := { row := storeKeepsRow, standIns := [], harness := (true, "c55b845f035619059407a310c6662841e4d0e1f9ae5c3155478c6c6b420d1cce"), looks := true }, kinds := [], alts := [], laidByText := true, laidKinds := [.data, .data], laidTests := true, laidLooks := .later }
def StoreKeepsCardSaid : Prop := Claim7.holds Tryz.pinned (.plain (OpenSpec.ofChange storeKeepsSpec)) storeKeepsCard

/-- THE TIED CARD OF 'daybooklaw19.StoreNear'. -/
def storeNearCard : Claim7 := { stood := { row := storeNearRow, standIns := [], harness := (true, "c55b845f035619059407a310c6662841e4d0e1f9ae5c3155478c6c6b420d1cce"), looks := true }, kinds := [], alts := [], laidByText := true, laidKinds := [.data, .data], laidTests := true, laidLooks := .later }
def StoreNearCardSaid : Prop := Claim7.holds Tryz.pinned (.plain (OpenSpec.ofChange storeNearSpec)) storeNearCard

/-- THE TIED CARD OF 'daybooklaw19.StoreRefuses'. -/
def storeRefusesCard : Claim7 := { stood := { row := storeRefusesRow, standIns := [], harness := (true, "c55b845f035619059407a310c6662841e4d0e1f9ae5c3155478c6c6b420d1cce"), looks := true }, kinds := [], alts := [], laidByText := true, laidKinds := [.data, .data], laidTests := true, laidLooks := .later }
def StoreRefusesCardSaid : Prop := Claim7.holds Tryz.pinned (.plain (OpenSpec.ofChange storeRefusesSpec)) storeRefusesCard

/-- THE TIED CARD OF 'daybooklaw19.StoreLives'. -/
def storeLivesCard : Claim7 := { stood := { row := storeLivesRow, standIns := [], harness := (true, "c55b845f035619059407a310c6662841e4d0e1f9ae5c3155478c6c6b420d1cce"), looks := true }, kinds := [], alts := [], laidByText := true, laidKinds := [.data, .data], laidTests := true, laidLooks := .later }
def StoreLivesCardSaid : Prop := Claim7.holds Tryz.pinned (.plain (OpenSpec.ofChange storeLivesSpec)) storeLivesCard

/-- THE SECOND FORM's CARD OF 'daybooklaw19.StoreKeeps'. -/
def storeKeepsUptoCard : Claim7 := { stood := { row := storeKeepsUptoRow, standIns := [], harness := (true, "c55b845f035619059407a310c6662841e4d0e1f9ae5c3155478c6c6b420d1cce"), looks := true }, kinds := [], alts := [], laidByText := true, laidKinds := [.data, .data], laidTests := true, laidLooks := .later }
def StoreKeepsUptoCardSaid : Prop := Claim7.holds Tryz.pinned (.plain (OpenSpec.upto storeKeepsSpec)) storeKeepsUptoCard

/-- THE SECOND FORM's CARD OF 'daybooklaw19.StoreNear'. -/
def storeNearUptoCard : Claim7 := { stood := { row := storeNearUptoRow, standIns := [], harness := (true, "c55b845f035619059407a310c6662841e4d0e1f9ae5c3155478c6c6b420d1cce"), looks := true }, kinds := [], alts := [], laidByText := true, laidKinds := [.data, .data], laidTests := true, laidLooks := .later }
def StoreNearUptoCardSaid : Prop := Claim7.holds Tryz.pinned (.plain (OpenSpec.upto storeNearSpec)) storeNearUptoCard

/-- THE SECOND FORM's CARD OF 'daybooklaw19.StoreRefuses'. -/
def storeRefusesUptoCard : Claim7 := { stood := { row := storeRefusesUptoRow, standIns := [], harness := (true, "c55b845f035619059407a310c6662841e4d0e1f9ae5c3155478c6c6b420d1cce"), looks := true }, kinds := [], alts := [], laidByText := true, laidKinds := [.data, .data], laidTests := true, laidLooks := .later }
def StoreRefusesUptoCardSaid : Prop := Claim7.holds Tryz.pinned (.plain (OpenSpec.upto storeRefusesSpec)) storeRefusesUptoCard

/-- THE SECOND FORM's CARD OF 'daybooklaw19.StoreLives'. -/
def storeLivesUptoCard : Claim7 := { stood := { row := storeLivesUptoRow, standIns := [], harness := (true, "c55b845f035619059407a310c6662841e4d0e1f9ae5c3155478c6c6b420d1cce"), looks := true }, kinds := [], alts := [], laidByText := true, laidKinds := [.data, .data], laidTests := true, laidLooks := .later }
def StoreLivesUptoCardSaid : Prop := Claim7.holds Tryz.pinned (.plain (OpenSpec.upto storeLivesSpec)) storeLivesUptoCard
end Rows
end Go.Proofs.YtgkdenejkcngnaaGreatDoor
