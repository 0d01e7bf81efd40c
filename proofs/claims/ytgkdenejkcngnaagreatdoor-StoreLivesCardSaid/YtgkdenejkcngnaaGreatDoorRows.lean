/-
  NARROWER THAN 'FOR EVERY INPUT', by the rows' own cells (each row's printed sentence says how): StoreKeeps: laid · StoreNear: laid · StoreRefuses: laid · StoreLives: laid.
  DERIVED. THE GIVEN ROWS OF THIS SEAT. 4 by the template 'for every input the law returns true; each argument reads behind the call as it read before'; 0 by the template 'total and deterministic' (their statements: YtgkdenejkcngnaaGreatDoorTotals.lean).
  GIVEN WITH THE SEED: the statements are not yours to turn. If you find one false, say at which input.
  Laid BY PROGRAM, IN A SANDBOX (cutbox-rows.mjs): the forced cells as the released guide's own fill.sh prints them over the translation 0c2f3b54ed2340ee… (all of the seat's roots in one cut). By AI agents, Wed Nov 11 2026. No macro, syntax, notation, axiom, sorry.
-/
import Derived.Test.YtgkdenejkcngnaaGreatDoorChecked
import GoSem.Claim
import GoSem.ClaimJoined
import GoSem.ClaimMapViews
import Derived.JoinedTies
import Derived.KernelRfl
namespace Go.Proofs.YtgkdenejkcngnaaGreatDoor
/- THE CELL 'sum', in the pinned program and in every row, IS THE sha256 OF THE DUMP (.gsa) THAT YtgkdenejkcngnaaGreatDoorProg.lean LOADS. Nothing in Lean hashes anything: it is a label: what it is worth is what the hold of that sum in a sandbox is worth. -/
noncomputable def Tryz.pinned : Pinned := { name := "ytgkdenejkcngnaagreatdoor", sum := "0c2f3b54ed2340eecde69a8524644dec7ed389119cfe064cb94037c6db88da82", checked := Tryz.checked }
namespace Rows
def none {H : Type} : Left H := { results := [], args := [] }

/- WHAT THE LISTED PACKAGE-LEVEL VARIABLES READ AS WHEN THE CALL BEGINS. Each datum BY PROGRAM (the guide's laid-datum.mjs) off the statement by which the dump's own 'gosem.cut.vars' lays the variable. In a bare row this is a premise. The card (YtgkdenejkcngnaaGreatDoorCards.lean) ties it to the program's text. -/
def laid_daybook_crc_nibbles {H : Type} : DataW H := .agg [.lit (.int .u32 0), .lit (.int .u32 498536548), .lit (.int .u32 997073096), .lit (.int .u32 651767980), .lit (.int .u32 1994146192), .lit (.int .u32 1802195444), .lit (.int .u32 1303535960), .lit (.int .u32 1342533948), .lit (.int .u32 3988292384), .lit (.int .u32 4027552580), .lit (.int .u32 3604390888), .lit (.int .u32 3412177804), .lit (.int .u32 2607071920), .lit (.int .u32 2262029012), .lit (.int .u32 2685067896), .lit (.int .u32 3183342108)]
def laid_daybook_upcast_taxes {H : Type} : DataW H := .agg [.lit (.int .i64 0), .lit (.int .i64 1900), .lit (.int .i64 2000), .lit (.int .i64 700)]

/-- 'daybooklaw19.StoreKeeps': WHATEVER THE INPUT: true; the input reads as it did. -/
def storeKeepsSpec : ChangeSpec := { name := "storeKeeps", fn := fun _ => fun
  | [d1, d2] => { results := [.lit (.bool true)], args := [d1, d2] }
  | _ => none }
def storeKeepsRow : OpenClaim := { program := "ytgkdenejkcngnaagreatdoor", sum := "0c2f3b54ed2340eecde69a8524644dec7ed389119cfe064cb94037c6db88da82", func := "daybook/daybooklaw19.StoreKeeps", spec := "storeKeeps", unfollowed := true, recurses := true, named := ["daybook/crc.nibbles", "math/bits.divideError", "math/bits.overflowError", "daybook/upcast.taxes"], apart := false, laid := [("daybook/crc.nibbles", laid_daybook_crc_nibbles), ("daybook/upcast.taxes", laid_daybook_upcast_taxes)] }
def StoreKeepsSaid : Prop := storeKeepsRow.holds Tryz.pinned (OpenSpec.ofChange storeKeepsSpec)

/-- ITS FALSE NEIGHBOUR: 'it returns false'. Refute it at one input. -/
def storeKeepsWrong : ChangeSpec := { name := "storeKeeps", fn := fun _ => fun
  | [d1, d2] => { results := [.lit (.bool false)], args := [d1, d2] }
  | _ => none }
def StoreKeepsWrongFalsely : Prop := storeKeepsRow.holds Tryz.pinned (OpenSpec.ofChange storeKeepsWrong)

/-- 'daybooklaw19.StoreNear': WHATEVER THE INPUT: true; the input reads as it did. -/
def storeNearSpec : ChangeSpec := { name := "storeNear", fn := fun _ => fun
  | [d1, d2, d3] => { results := [.lit (.bool true)], args := [d1, d2, d3] }
  | _ => none }
def storeNearRow : OpenClaim := { program := "ytgkdenejkcngnaagreatdoor", sum := "0c2f3b54ed2340eecde69a8524644dec7ed389119cfe064cb94037c6db88da82", func := "daybook/daybooklaw19.StoreNear", spec := "storeNear", unfollowed := true, recurses := true, named := ["daybook/crc.nibbles", "math/bits.divideError", "math/bits.overflowError", "daybook/upcast.taxes"], apart := false, laid := [("daybook/crc.nibbles", laid_daybook_crc_nibbles), ("daybook/upcast.taxes", laid_daybook_upcast_taxes)] }
def StoreNearSaid : Prop := storeNearRow.holds Tryz.pinned (OpenSpec.ofChange storeNearSpec)

/-- ITS FALSE NEIGHBOUR: 'it returns false'. Refute it at one input. -/
def storeNearWrong : ChangeSpec := { name := "storeNear", fn := fun _ => fun
  | [d1, d2, d3] => { results := [.lit (.bool false)], args := [d1, d2, d3] }
  | _ => none }
def StoreNearWrongFalsely : Prop := storeNearRow.holds Tryz.pinned (OpenSpec.ofChange storeNearWrong)

/-- 'daybooklaw19.StoreRefuses': WHATEVER THE INPUT: true; the input reads as it did. -/
def storeRefusesSpec : ChangeSpec := { name := "storeRefuses", fn := fun _ => fun
  | [d1, d2, d3] => { results := [.lit (.bool true)], args := [d1, d2, d3] }
  | _ => none }
def storeRefusesRow : OpenClaim := { program := "ytgkdenejkcngnaagreatdoor", sum := "0c2f3b54ed2340eecde69a8524644dec7ed389119cfe064cb94037c6db88da82", func := "daybook/daybooklaw19.StoreRefuses", spec := "storeRefuses", unfollowed := true, recurses := true, named := ["daybook/crc.nibbles", "math/bits.divideError", "math/bits.overflowError", "daybook/upcast.taxes"], apart := false, laid := [("daybook/crc.nibbles", laid_daybook_crc_nibbles), ("daybook/upcast.taxes", laid_daybook_upcast_taxes)] }
def StoreRefusesSaid : Prop := storeRefusesRow.holds Tryz.pinned (OpenSpec.ofChange storeRefusesSpec)

/-- ITS FALSE NEIGHBOUR: 'it returns false'. Refute it at one input. -/
def storeRefusesWrong : ChangeSpec := { name := "storeRefuses", fn := fun _ => fun
  | [d1, d2, d3] => { results := [.lit (.bool false)], args := [d1, d2, d3] }
  | _ => none }
def StoreRefusesWrongFalsely : Prop := storeRefusesRow.holds Tryz.pinned (OpenSpec.ofChange storeRefusesWrong)

/-- 'daybooklaw19.StoreLives': WHATEVER THE INPUT: true; the input reads as it did. -/
def storeLivesSpec : ChangeSpec := { name := "storeLives", fn := fun _ => fun
  | [d1, d2, d3, d4] => { results := [.lit (.bool true)], args := [d1, d2, d3, d4] }
  | _ => none }
def storeLivesRow : OpenClaim := { program := "ytgkdenejkcngnaagreatdoor", sum := "0c2f3b54ed2340eecde69a8524644dec7ed389119cfe064cb94037c6db88da82", func := "daybook/daybooklaw19.StoreLives", spec := "storeLives", unfollowed := true, recurses := true, named := ["daybook/crc.nibbles", "math/bits.divideError", "math/bits.overflowError", "daybook/upcast.taxes"], apart := false, laid := [("daybook/crc.nibbles", laid_daybook_crc_nibbles), ("daybook/upcast.taxes", laid_daybook_upcast_taxes)] }
def StoreLivesSaid : Prop := storeLivesRow.holds Tryz.pinned (OpenSpec.ofChange storeLivesSpec)

/-- ITS FALSE NEIGHBOUR: 'it returns false'. Refute it at one input. -/
def storeLivesWrong : ChangeSpec := { name := "storeLives", fn := fun _ => fun
  | [d1, d2, d3, d4] => { results := [.lit (.bool false)], args := [d1, d2, d3, d4] }
  | _ => none }
def StoreLivesWrongFalsely : Prop := storeLivesRow.holds Tryz.pinned (OpenSpec.ofChange storeLivesWrong)

/- THE SECOND FORM. 'bulk': how many values and letters a reading holds, each counted each time it is reached (what is shared counts as often as it is met; a slice's spare places count too). A statement '..UptoSaid' is the law's where the arguments, and the package variables that the reading takes, are together of bulk at most 1048576: NARROWER than '..Said'. Prove '..Said' where nothing that the law and all that it calls make is longer than what came in: it says more and counts as full. Else prove '..UptoSaid'. A law counts once. -/
mutual
def uptoBulk {H : Type} : DataW H → Nat
  | .lit (.string bytes) => bytes.length + 1
  | .lit _ => 1
  | .nil => 1
  | .ptr d => uptoBulk d + 1
  | .slice elems spare => uptoBulkAll elems + uptoBulkAll spare + 1
  | .agg parts => uptoBulkAll parts + 1
  | .iface _ d => uptoBulk d + 1
  | .map entries => uptoBulkEntries entries + 1
  | .held _ => 1
def uptoBulkAll {H : Type} : List (DataW H) → Nat
  | [] => 0
  | d :: r => uptoBulk d + uptoBulkAll r
def uptoBulkEntries {H : Type} : List (Lit × DataW H) → Nat
  | [] => 0
  | x :: r => uptoBulkEntry x + uptoBulkEntries r
def uptoBulkEntry {H : Type} : Lit × DataW H → Nat
  | (.string bytes, d) => bytes.length + uptoBulk d + 1
  | (_, d) => uptoBulk d + 1
 end
def uptoSmall : (H : Type) → List (DataW H) → Bool := fun _ ds => decide (uptoBulkAll ds ≤ 1048576)
def OpenSpec.upto (s : _root_.Go.ChangeSpec) : _root_.Go.OpenSpec := { _root_.Go.OpenSpec.ofChange s with cond := some uptoSmall }

/-- 'daybooklaw19.StoreKeeps', WHERE WHAT IT READS IS OF BULK AT MOST 1048576: true; the input reads as it did. -/
def storeKeepsUptoRow : OpenClaim := { program := "ytgkdenejkcngnaagreatdoor", sum := "0c2f3b54ed2340eecde69a8524644dec7ed389119cfe064cb94037c6db88da82", func := "daybook/daybooklaw19.StoreKeeps", spec := "storeKeeps", unfollowed := true, recurses := true, named := ["daybook/crc.nibbles", "math/bits.divideError", "math/bits.overflowError", "daybook/upcast.taxes"], apart := false, laid := [("daybook/crc.nibbles", laid_daybook_crc_nibbles), ("daybook/upcast.taxes", laid_daybook_upcast_taxes)], narrowed := true }
def StoreKeepsUptoSaid : Prop := storeKeepsUptoRow.holds Tryz.pinned (OpenSpec.upto storeKeepsSpec)

/-- 'daybooklaw19.StoreNear', WHERE WHAT IT READS IS OF BULK AT MOST 1048576: true; the input reads as it did. -/
def storeNearUptoRow : OpenClaim := { program := "ytgkdenejkcngnaagreatdoor", sum := "0c2f3b54ed2340eecde69a8524644dec7ed389119cfe064cb94037c6db88da82", func := "daybook/daybooklaw19.StoreNear", spec := "storeNear", unfollowed := true, recurses := true, named := ["daybook/crc.nibbles", "math/bits.divideError", "math/bits.overflowError", "daybook/upcast.taxes"], apart := false, laid := [("daybook/crc.nibbles", laid_daybook_crc_nibbles), ("daybook/upcast.taxes", laid_daybook_upcast_taxes)], narrowed := true }
def StoreNearUptoSaid : Prop := storeNearUptoRow.holds Tryz.pinned (OpenSpec.upto storeNearSpec)

/-- 'daybooklaw19.StoreRefuses', WHERE WHAT IT READS IS OF BULK AT MOST 1048576: true; the input reads as it did. -/
def storeRefusesUptoRow : OpenClaim := { program := "ytgkdenejkcngnaagreatdoor", sum := "0c2f3b54ed2340eecde69a8524644dec7ed389119cfe064cb94037c6db88da82", func := "daybook/daybooklaw19.StoreRefuses", spec := "storeRefuses", unfollowed := true, recurses := true, named := ["daybook/crc.nibbles", "math/bits.divideError", "math/bits.overflowError", "daybook/upcast.taxes"], apart := false, laid := [("daybook/crc.nibbles", laid_daybook_crc_nibbles), ("daybook/upcast.taxes", laid_daybook_upcast_taxes)], narrowed := true }
def StoreRefusesUptoSaid : Prop := storeRefusesUptoRow.holds Tryz.pinned (OpenSpec.upto storeRefusesSpec)

/-- 'daybooklaw19.StoreLives', WHERE WHAT IT READS IS OF BULK AT MOST 1048576: true; the input reads as it did. -/
def storeLivesUptoRow : OpenClaim := { program := "ytgkdenejkcngnaagreatdoor", sum := "0c2f3b54ed2340eecde69a8524644dec7ed389119cfe064cb94037c6db88da82", func := "daybook/daybooklaw19.StoreLives", spec := "storeLives", unfollowed := true, recurses := true, named := ["daybook/crc.nibbles", "math/bits.divideError", "math/bits.overflowError", "daybook/upcast.taxes"], apart := false, laid := [("daybook/crc.nibbles", laid_daybook_crc_nibbles), ("daybook/upcast.taxes", laid_daybook_upcast_taxes)], narrowed := true }
def StoreLivesUptoSaid : Prop := storeLivesUptoRow.holds Tryz.pinned (OpenSpec.upto storeLivesSpec)

end Rows
end Go.Proofs.YtgkdenejkcngnaaGreatDoor
