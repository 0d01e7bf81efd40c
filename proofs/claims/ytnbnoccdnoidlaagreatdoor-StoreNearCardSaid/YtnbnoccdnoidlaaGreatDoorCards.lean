/-
  DERIVED. GIVEN WITH THE SEED: THE CARDS: each row of YtnbnoccdnoidlaaGreatDoorRows.lean that lists a variable, with what it lists TIED to the program's text (the seventh form; the later family's looks); each row that meets fmt, with fmt's text TOLD by the authors' own Lean function (tested against real Go, not proved from fmt's source: count such statements apart). THE CARD IS WHAT COUNTS. Prove the row's statement (the work); the ties are given (YtnbnoccdnoidlaaGreatDoorTie.lean); close each card by the builder's one call (the guide's Derived/Test/ToyasCard.lean, 'card_holds'). Laid BY PROGRAM, IN A SANDBOX (cutbox-door.mjs). By AI agents, Wed Nov 11 2026. No macro, syntax, notation, axiom, sorry.
-/
import Derived.Test.YtnbnoccdnoidlaaGreatDoorRows
import GoSem.ClaimSeven
namespace Go.Proofs.YtnbnoccdnoidlaaGreatDoor
namespace Rows

/-- THE TIED CARD OF 'daybooklaw19.StoreNear'. -/
def storeNearCard : Claim7 := { stood := { row := storeNearRow, standIns := [], harness := (true, "a2f83dfe72731338a35e17040795cbff44081a98054b39b67884cf48594fe1a2"), looks := true }, kinds := [], alts := [], laidByText := true, laidKinds := [.data, .data], laidTests := true, laidLooks := .later }
def StoreNearCardSaid : Prop := Claim7.holds Tryz.pinned (.plain (OpenSpec.ofChange storeNearSpec)) storeNearCard

/-- THE SECOND FORM's CARD OF 'daybooklaw19.StoreNear'. -/
def storeNearUptoCard : Claim7 := { stood := { row := storeNearUptoRow, standIns := [], harness := (true, "a2f83dfe72731338a35e17040795cbff44081a98054b39b67884cf48594fe1a2"), looks := true }, kinds := [], alts := [], laidByText := true, laidKinds := [.data, .data], laidTests := true, laidLooks := .later }
def StoreNearUptoCardSaid : Prop := Claim7.holds Tryz.pinned (.plain (OpenSpec.upto storeNearSpec)) storeNearUptoCard
end Rows
end Go.Proofs.YtnbnoccdnoidlaaGreatDoor
