/-
  NARROWER THAN 'FOR EVERY INPUT', by the rows' own cells (each row's printed sentence says how): RecoveryReads: laid · RecoveryTwice: laid · RecoveryApplies: laid · RecoveryRuns: laid · RecoveryBroken: laid · RecoveryPlans: laid.
  DERIVED. THE GIVEN ROWS OF THIS SEAT. 6 by the template 'for every input the law returns true; each argument reads behind the call as it read before'; 0 by the template 'total and deterministic' (their statements: YtlobohpbgghleaaGreatDoorTotals.lean).
  GIVEN WITH THE SEED: the statements are not yours to turn. If you find one false, say at which input.
  Laid BY PROGRAM, IN A SANDBOX (cutbox-rows.mjs): the forced cells as the released guide's own fill.sh prints them over the translation 00fa11333152a904… (all of the seat's roots in one cut). By AI agents, Wed Nov 11 2026. No macro, syntax, notation, axiom, sorry.
-/
import Derived.Test.YtlobohpbgghleaaGreatDoorChecked
import GoSem.Claim
import GoSem.ClaimJoined
import GoSem.ClaimMapViews
import Derived.JoinedTies
import Derived.KernelRfl
namespace Go.Proofs.YtlobohpbgghleaaGreatDoor
/- THE CELL 'sum', in the pinned program and in every row, IS THE sha256 OF THE DUMP (.gsa) THAT YtlobohpbgghleaaGreatDoorProg.lean LOADS. Nothing in Lean hashes anything: it is a label: what it is worth is what the hold of that sum in a sandbox is worth. -/
noncomputable def Tryz.pinned : Pinned := { name := "ytlobohpbgghleaagreatdoor", sum := "00fa11333152a904bdc19f3197c224c9c553eba5d40e80f68c5ff96bc1d1448f", checked := Tryz.checked }
namespace Rows
def none {H : Type} : Left H := { results := [], args := [] }

/- WHAT THE LISTED PACKAGE-LEVEL VARIABLES READ AS WHEN THE CALL BEGINS. Each datum BY PROGRAM (the guide's laid-datum.mjs) off the statement by which the dump's own 'gosem.cut.vars' lays the variable. In a bare row this is a premise. The card (YtlobohpbgghleaaGreatDoorCards.lean) ties it to the program's text. -/
def laid_daybook_crc_nibbles {H : Type} : DataW H := .agg [.lit (.int .u32 0), .lit (.int .u32 498536548), .lit (.int .u32 997073096), .lit (.int .u32 651767980), .lit (.int .u32 1994146192), .lit (.int .u32 1802195444), .lit (.int .u32 1303535960), .lit (.int .u32 1342533948), .lit (.int .u32 3988292384), .lit (.int .u32 4027552580), .lit (.int .u32 3604390888), .lit (.int .u32 3412177804), .lit (.int .u32 2607071920), .lit (.int .u32 2262029012), .lit (.int .u32 2685067896), .lit (.int .u32 3183342108)]

/-- 'daybooklaw18.RecoveryReads': WHATEVER THE INPUT: true; the input reads as it did. -/
def recoveryReadsSpec : ChangeSpec := { name := "recoveryReads", fn := fun _ => fun
  | [d1, d2] => { results := [.lit (.bool true)], args := [d1, d2] }
  | _ => none }
def recoveryReadsRow : OpenClaim := { program := "ytlobohpbgghleaagreatdoor", sum := "00fa11333152a904bdc19f3197c224c9c553eba5d40e80f68c5ff96bc1d1448f", func := "daybook/daybooklaw18.RecoveryReads", spec := "recoveryReads", unfollowed := true, recurses := true, named := ["daybook/crc.nibbles", "math/bits.divideError", "math/bits.overflowError"], apart := false, laid := [("daybook/crc.nibbles", laid_daybook_crc_nibbles)] }
def RecoveryReadsSaid : Prop := recoveryReadsRow.holds Tryz.pinned (OpenSpec.ofChange recoveryReadsSpec)

/-- ITS FALSE NEIGHBOUR: 'it returns false'. Refute it at one input. -/
def recoveryReadsWrong : ChangeSpec := { name := "recoveryReads", fn := fun _ => fun
  | [d1, d2] => { results := [.lit (.bool false)], args := [d1, d2] }
  | _ => none }
def RecoveryReadsWrongFalsely : Prop := recoveryReadsRow.holds Tryz.pinned (OpenSpec.ofChange recoveryReadsWrong)

/-- 'daybooklaw18.RecoveryTwice': WHATEVER THE INPUT: true; the input reads as it did. -/
def recoveryTwiceSpec : ChangeSpec := { name := "recoveryTwice", fn := fun _ => fun
  | [d1, d2] => { results := [.lit (.bool true)], args := [d1, d2] }
  | _ => none }
def recoveryTwiceRow : OpenClaim := { program := "ytlobohpbgghleaagreatdoor", sum := "00fa11333152a904bdc19f3197c224c9c553eba5d40e80f68c5ff96bc1d1448f", func := "daybook/daybooklaw18.RecoveryTwice", spec := "recoveryTwice", unfollowed := true, recurses := true, named := ["daybook/crc.nibbles", "math/bits.divideError", "math/bits.overflowError"], apart := false, laid := [("daybook/crc.nibbles", laid_daybook_crc_nibbles)] }
def RecoveryTwiceSaid : Prop := recoveryTwiceRow.holds Tryz.pinned (OpenSpec.ofChange recoveryTwiceSpec)

/-- ITS FALSE NEIGHBOUR: 'it returns false'. Refute it at one input. -/
def recoveryTwiceWrong : ChangeSpec := { name := "recoveryTwice", fn := fun _ => fun
  | [d1, d2] => { results := [.lit (.bool false)], args := [d1, d2] }
  | _ => none }
def RecoveryTwiceWrongFalsely : Prop := recoveryTwiceRow.holds Tryz.pinned (OpenSpec.ofChange recoveryTwiceWrong)

/-- 'daybooklaw18.RecoveryApplies': WHATEVER THE INPUT: true; the input reads as it did. -/
def recoveryAppliesSpec : ChangeSpec := { name := "recoveryApplies", fn := fun _ => fun
  | [d1, d2, d3, d4] => { results := [.lit (.bool true)], args := [d1, d2, d3, d4] }
  | _ => none }
def recoveryAppliesRow : OpenClaim := { program := "ytlobohpbgghleaagreatdoor", sum := "00fa11333152a904bdc19f3197c224c9c553eba5d40e80f68c5ff96bc1d1448f", func := "daybook/daybooklaw18.RecoveryApplies", spec := "recoveryApplies", unfollowed := true, recurses := true, named := ["daybook/crc.nibbles", "math/bits.divideError", "math/bits.overflowError"], apart := false, laid := [("daybook/crc.nibbles", laid_daybook_crc_nibbles)] }
def RecoveryAppliesSaid : Prop := recoveryAppliesRow.holds Tryz.pinned (OpenSpec.ofChange recoveryAppliesSpec)

/-- ITS FALSE NEIGHBOUR: 'it returns false'. Refute it at one input. -/
def recoveryAppliesWrong : ChangeSpec := { name := "recoveryApplies", fn := fun _ => fun
  | [d1, d2, d3, d4] => { results := [.lit (.bool false)], args := [d1, d2, d3, d4] }
  | _ => none }
def RecoveryAppliesWrongFalsely : Prop := recoveryAppliesRow.holds Tryz.pinned (OpenSpec.ofChange recoveryAppliesWrong)

/-- 'daybooklaw18.RecoveryRuns': WHATEVER THE INPUT: true; the input reads as it did. -/
def recoveryRunsSpec : ChangeSpec := { name := "recoveryRuns", fn := fun _ => fun
  | [d1, d2, d3] => { results := [.lit (.bool true)], args := [d1, d2, d3] }
  | _ => none }
def recoveryRunsRow : OpenClaim := { program := "ytlobohpbgghleaagreatdoor", sum := "00fa11333152a904bdc19f3197c224c9c553eba5d40e80f68c5ff96bc1d1448f", func := "daybook/daybooklaw18.RecoveryRuns", spec := "recoveryRuns", unfollowed := true, recurses := true, named := ["daybook/crc.nibbles", "math/bits.divideError", "math/bits.overflowError"], apart := false, laid := [("daybook/crc.nibbles", laid_daybook_crc_nibbles)] }
def RecoveryRunsSaid : Prop := recoveryRunsRow.holds Tryz.pinned (OpenSpec.ofChange recoveryRunsSpec)

/-- ITS FALSE NEIGHBOUR: 'it returns false'. Refute it at one input. -/
def recoveryRunsWrong : ChangeSpec := { name := "recoveryRuns", fn := fun _ => fun
  | [d1, d2, d3] => { results := [.lit (.bool false)], args := [d1, d2, d3] }
  | _ => none }
def RecoveryRunsWrongFalsely : Prop := recoveryRunsRow.holds Tryz.pinned (OpenSpec.ofChange recoveryRunsWrong)

/-- 'daybooklaw18.RecoveryBroken': WHATEVER THE INPUT: true; the input reads as it did. -/
def recoveryBrokenSpec : ChangeSpec := { name := "recoveryBroken", fn := fun _ => fun
  | [d1, d2, d3, d4] => { results := [.lit (.bool true)], args := [d1, d2, d3, d4] }
  | _ => none }
def recoveryBrokenRow : OpenClaim := { program := "ytlobohpbgghleaagreatdoor", sum := "00fa11333152a904bdc19f3197c224c9c553eba5d40e80f68c5ff96bc1d1448f", func := "daybook/daybooklaw18.RecoveryBroken", spec := "recoveryBroken", unfollowed := true, recurses := true, named := ["daybook/crc.nibbles", "math/bits.divideError", "math/bits.overflowError"], apart := false, laid := [("daybook/crc.nibbles", laid_daybook_crc_nibbles)] }
def RecoveryBrokenSaid : Prop := recoveryBrokenRow.holds Tryz.pinned (OpenSpec.ofChange recoveryBrokenSpec)

/-- ITS FALSE NEIGHBOUR: 'it returns false'. Refute it at one input. -/
def recoveryBrokenWrong : ChangeSpec := { name := "recoveryBroken", fn := fun _ => fun
  | [d1, d2, d3, d4] => { results := [.lit (.bool false)], args := [d1, d2, d3, d4] }
  | _ => none }
def RecoveryBrokenWrongFalsely : Prop := recoveryBrokenRow.holds Tryz.pinned (OpenSpec.ofChange recoveryBrokenWrong)

/-- 'daybooklaw18.RecoveryPlans': WHATEVER THE INPUT: true; the input reads as it did. -/
def recoveryPlansSpec : ChangeSpec := { name := "recoveryPlans", fn := fun _ => fun
  | [d1, d2, d3] => { results := [.lit (.bool true)], args := [d1, d2, d3] }
  | _ => none }
def recoveryPlansRow : OpenClaim := { program := "ytlobohpbgghleaagreatdoor", sum := "00fa11333152a904bdc19f3197c224c9c553eba5d40e80f68c5ff96bc1d1448f", func := "daybook/daybooklaw18.RecoveryPlans", spec := "recoveryPlans", unfollowed := true, recurses := true, named := ["daybook/crc.nibbles", "math/bits.divideError", "math/bits.overflowError"], apart := false, laid := [("daybook/crc.nibbles", laid_daybook_crc_nibbles)] }
def RecoveryPlansSaid : Prop := recoveryPlansRow.holds Tryz.pinned (OpenSpec.ofChange recoveryPlansSpec)

/-- ITS FALSE NEIGHBOUR: 'it returns false'. Refute it at one input. -/
def recoveryPlansWrong : ChangeSpec := { name := "recoveryPlans", fn := fun _ => fun
  | [d1, d2, d3] => { results := [.lit (.bool false)], args := [d1, d2, d3] }
  | _ => none }
def RecoveryPlansWrongFalsely : Prop := recoveryPlansRow.holds Tryz.pinned (OpenSpec.ofChange recoveryPlansWrong)

/- THE SECOND FORM. 'bulk': how many values and letters a reading holds, each counted each time it is reached (what is shared counts as often as it is met; a slice's spare places count too). A statement '..UptoSaid' is the law's where the arguments, and the package variables that the reading takes, are together of bulk at most 1048576: NARROWER than '..Said'. Prove '..Said' where nothing that the law and all that it calls make is longer than what came in: it says more and counts as full. Else prove '..UptoSaid'. A law counts once. -/
mutual
def uptoBulk {H : Type} : DataW H → Nat
  | .lit (.string bytes) => bytes.length + 1
  | .lit _ => 1
  | .nil => 1
  | .ptr d => uptoBulk d + 1
  | .slice elems spare => uptoBulkAll elems + uptoBulkAll spare + 1
  | .agg parts => uptoBulkAll parts + 1
  | .iface _ d => uptoBulk d + 1
  | .map entries => uptoBulkEntries entries + 1
  | .held _ => 1
def uptoBulkAll {H : Type} : List (DataW H) → Nat
  | [] => 0
  | d :: r => uptoBulk d + uptoBulkAll r
def uptoBulkEntries {H : Type} : List (Lit × DataW H) → Nat
  | [] => 0
  | x :: r => uptoBulkEntry x + uptoBulkEntries r
def uptoBulkEntry {H : Type} : Lit × DataW H → Nat
  | (.string bytes, d) => bytes.length + uptoBulk d + 1
  | (_, d) => uptoBulk d + 1
 end
def uptoSmall : (H : Type) → List (DataW H) → Bool := fun _ ds => decide (uptoBulkAll ds ≤ 1048576)
def OpenSpec.upto (s : _root_.Go.ChangeSpec) : _root_.Go.OpenSpec := { _root_.Go.OpenSpec.ofChange s with cond := some uptoSmall }

/-- 'daybooklaw18.RecoveryReads', WHERE WHAT IT READS IS OF BULK AT MOST 1048576: true; the input reads as it did. -/
def recoveryReadsUptoRow : OpenClaim := { program := "ytlobohpbgghleaagreatdoor", sum := "00fa11333152a904bdc19f3197c224c9c553eba5d40e80f68c5ff96bc1d1448f", func := "daybook/daybooklaw18.RecoveryReads", spec := "recoveryReads", unfollowed := true, recurses := true, named := ["daybook/crc.nibbles", "math/bits.divideError", "math/bits.overflowError"], apart := false, laid := [("daybook/crc.nibbles", laid_daybook_crc_nibbles)], narrowed := true }
def RecoveryReadsUptoSaid : Prop := recoveryReadsUptoRow.holds Tryz.pinned (OpenSpec.upto recoveryReadsSpec)

/-- 'daybooklaw18.RecoveryTwice', WHERE WHAT IT READS IS OF BULK AT MOST 1048576: true; the input reads as it did. -/
def recoveryTwiceUptoRow : OpenClaim := { program := "ytlobohpbgghleaagreatdoor", sum := "00fa11333152a904bdc19f3197c224c9c553eba5d40e80f68c5ff96bc1d1448f", func := "daybook/daybooklaw18.RecoveryTwice", spec := "recoveryTwice", unfollowed := true, recurses := true, named := ["daybook/crc.nibbles", "math/bits.divideError", "math/bits.overflowError"], apart := false, laid := [("daybook/crc.nibbles", laid_daybook_crc_nibbles)], narrowed := true }
def RecoveryTwiceUptoSaid : Prop := recoveryTwiceUptoRow.holds Tryz.pinned (OpenSpec.upto recoveryTwiceSpec)

/-- 'daybooklaw18.RecoveryApplies', WHERE WHAT IT READS IS OF BULK AT MOST 1048576: true; the input reads as it did. -/
def recoveryAppliesUptoRow : OpenClaim := { program := "ytlobohpbgghleaagreatdoor", sum := "00fa11333152a904bdc19f3197c224c9c553eba5d40e80f68c5ff96bc1d1448f", func := "daybook/daybooklaw18.RecoveryApplies", spec := "recoveryApplies", unfollowed := true, recurses := true, named := ["daybook/crc.nibbles", "math/bits.divideError", "math/bits.overflowError"], apart := false, laid := [("daybook/crc.nibbles", laid_daybook_crc_nibbles)], narrowed := true }
def RecoveryAppliesUptoSaid : Prop := recoveryAppliesUptoRow.holds Tryz.pinned (OpenSpec.upto recoveryAppliesSpec)

/-- 'daybooklaw18.RecoveryRuns', WHERE WHAT IT READS IS OF BULK AT MOST 1048576: true; the input reads as it did. -/
def recoveryRunsUptoRow : OpenClaim := { program := "ytlobohpbgghleaagreatdoor", sum := "00fa11333152a904bdc19f3197c224c9c553eba5d40e80f68c5ff96bc1d1448f", func := "daybook/daybooklaw18.RecoveryRuns", spec := "recoveryRuns", unfollowed := true, recurses := true, named := ["daybook/crc.nibbles", "math/bits.divideError", "math/bits.overflowError"], apart := false, laid := [("daybook/crc.nibbles", laid_daybook_crc_nibbles)], narrowed := true }
def RecoveryRunsUptoSaid : Prop := recoveryRunsUptoRow.holds Tryz.pinned (OpenSpec.upto recoveryRunsSpec)

/-- 'daybooklaw18.RecoveryBroken', WHERE WHAT IT READS IS OF BULK AT MOST 1048576: true; the input reads as it did. -/
def recoveryBrokenUptoRow : OpenClaim := { program := "ytlobohpbgghleaagreatdoor", sum := "00fa11333152a904bdc19f3197c224c9c553eba5d40e80f68c5ff96bc1d1448f", func := "daybook/daybooklaw18.RecoveryBroken", spec := "recoveryBroken", unfollowed := true, recurses := true, named := ["daybook/crc.nibbles", "math/bits.divideError", "math/bits.overflowError"], apart := false, laid := [("daybook/crc.nibbles", laid_daybook_crc_nibbles)], narrowed := true }
def RecoveryBrokenUptoSaid : Prop := recoveryBrokenUptoRow.holds Tryz.pinned (OpenSpec.upto recoveryBrokenSpec)

/-- 'daybooklaw18.RecoveryPlans', WHERE WHAT IT READS IS OF BULK AT MOST 1048576: true; the input reads as it did. -/
def recoveryPlansUptoRow : OpenClaim := { program := "ytlobohpbgghleaagreatdoor", sum := "00fa11333152a904bdc19f3197c224c9c553eba5d40e80f68c5ff96bc1d1448f", func := "daybook/daybooklaw18.RecoveryPlans", spec := "recoveryPlans", unfollowed := true, recurses := true, named := ["daybook/crc.nibbles", "math/bits.divideError", "math/bits.overflowError"], apart := false, laid := [("daybook/crc.nibbles", laid_daybook_crc_nibbles)], narrowed := true }
def RecoveryPlansUptoSaid : Prop := recoveryPlansUptoRow.holds Tryz.pinned (OpenSpec.upto recoveryPlansSpec)

end Rows
end Go.Proofs.YtlobohpbgghleaaGreatDoor
