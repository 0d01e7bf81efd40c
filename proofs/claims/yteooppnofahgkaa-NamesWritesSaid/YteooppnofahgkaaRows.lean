/-
  No cell of these rows narrows 'for every input' (looked for: loops, veiled, ifaces, maps, wideKeys, modest, calm, conditions, laid).
  DERIVED. THE GIVEN ROWS OF THIS SEAT. 5 by the template 'for every input the law returns true; each argument reads behind the call as it read before'; 0 by the template 'total and deterministic' (their statements: YteooppnofahgkaaTotals.lean).
  GIVEN WITH THE SEED: the statements are not yours to turn. If you find one false, say at which input.
  Laid BY PROGRAM, IN A SANDBOX (cutbox-rows.mjs): the forced cells as the released guide's own fill.sh prints them over the translation 169e7a63afdd50ef… (all of the seat's roots in one cut). By AI agents, Wed Nov 11 2026. No macro, syntax, notation, axiom, sorry.
-/
import Derived.Test.YteooppnofahgkaaChecked
import GoSem.Claim
import GoSem.ClaimJoined
import GoSem.ClaimMapViews
import Derived.JoinedTies
import Derived.KernelRfl
namespace Go.Proofs.Yteooppnofahgkaa
/- THE CELL 'sum', in the pinned program and in every row, IS THE sha256 OF THE DUMP (.gsa) THAT YteooppnofahgkaaProg.lean LOADS. Nothing in Lean hashes anything: it is a label: what it is worth is what the hold of that sum in a sandbox is worth. -/
noncomputable def Try.pinned : Pinned := { name := "yteooppnofahgkaa", sum := "169e7a63afdd50ef8ab43ce9f6d23d68aaab701633e4af2ee937ab0896e46edb", checked := Try.checked }
namespace Rows
def none {H : Type} : Left H := { results := [], args := [] }

/-- 'daybooklaw15.NamesWrites': WHATEVER THE INPUT: true; the input reads as it did. -/
def namesWritesSpec : ChangeSpec := { name := "namesWrites", fn := fun _ => fun
  | [d] => { results := [.lit (.bool true)], args := [d] }
  | _ => none }
def namesWritesRow : OpenClaim := { program := "yteooppnofahgkaa", sum := "169e7a63afdd50ef8ab43ce9f6d23d68aaab701633e4af2ee937ab0896e46edb", func := "daybook/daybooklaw15.NamesWrites", spec := "namesWrites", apart := false }
def NamesWritesSaid : Prop := namesWritesRow.holds Try.pinned (OpenSpec.ofChange namesWritesSpec)

/-- ITS FALSE NEIGHBOUR: 'it returns false'. Refute it at one input. -/
def namesWritesWrong : ChangeSpec := { name := "namesWrites", fn := fun _ => fun
  | [d] => { results := [.lit (.bool false)], args := [d] }
  | _ => none }
def NamesWritesWrongFalsely : Prop := namesWritesRow.holds Try.pinned (OpenSpec.ofChange namesWritesWrong)

/-- 'daybooklaw15.NamesOrder': WHATEVER THE INPUT: true; the input reads as it did. -/
def namesOrderSpec : ChangeSpec := { name := "namesOrder", fn := fun _ => fun
  | [d1, d2] => { results := [.lit (.bool true)], args := [d1, d2] }
  | _ => none }
def namesOrderRow : OpenClaim := { program := "yteooppnofahgkaa", sum := "169e7a63afdd50ef8ab43ce9f6d23d68aaab701633e4af2ee937ab0896e46edb", func := "daybook/daybooklaw15.NamesOrder", spec := "namesOrder", apart := false }
def NamesOrderSaid : Prop := namesOrderRow.holds Try.pinned (OpenSpec.ofChange namesOrderSpec)

/-- ITS FALSE NEIGHBOUR: 'it returns false'. Refute it at one input. -/
def namesOrderWrong : ChangeSpec := { name := "namesOrder", fn := fun _ => fun
  | [d1, d2] => { results := [.lit (.bool false)], args := [d1, d2] }
  | _ => none }
def NamesOrderWrongFalsely : Prop := namesOrderRow.holds Try.pinned (OpenSpec.ofChange namesOrderWrong)

/-- 'daybooklaw15.NamesParses': WHATEVER THE INPUT: true; the input reads as it did. -/
def namesParsesSpec : ChangeSpec := { name := "namesParses", fn := fun _ => fun
  | [d] => { results := [.lit (.bool true)], args := [d] }
  | _ => none }
def namesParsesRow : OpenClaim := { program := "yteooppnofahgkaa", sum := "169e7a63afdd50ef8ab43ce9f6d23d68aaab701633e4af2ee937ab0896e46edb", func := "daybook/daybooklaw15.NamesParses", spec := "namesParses", apart := false }
def NamesParsesSaid : Prop := namesParsesRow.holds Try.pinned (OpenSpec.ofChange namesParsesSpec)

/-- ITS FALSE NEIGHBOUR: 'it returns false'. Refute it at one input. -/
def namesParsesWrong : ChangeSpec := { name := "namesParses", fn := fun _ => fun
  | [d] => { results := [.lit (.bool false)], args := [d] }
  | _ => none }
def NamesParsesWrongFalsely : Prop := namesParsesRow.holds Try.pinned (OpenSpec.ofChange namesParsesWrong)

/-- 'daybooklaw15.NamesBack': WHATEVER THE INPUT: true; the input reads as it did. -/
def namesBackSpec : ChangeSpec := { name := "namesBack", fn := fun _ => fun
  | [d1, d2] => { results := [.lit (.bool true)], args := [d1, d2] }
  | _ => none }
def namesBackRow : OpenClaim := { program := "yteooppnofahgkaa", sum := "169e7a63afdd50ef8ab43ce9f6d23d68aaab701633e4af2ee937ab0896e46edb", func := "daybook/daybooklaw15.NamesBack", spec := "namesBack", apart := false }
def NamesBackSaid : Prop := namesBackRow.holds Try.pinned (OpenSpec.ofChange namesBackSpec)

/-- ITS FALSE NEIGHBOUR: 'it returns false'. Refute it at one input. -/
def namesBackWrong : ChangeSpec := { name := "namesBack", fn := fun _ => fun
  | [d1, d2] => { results := [.lit (.bool false)], args := [d1, d2] }
  | _ => none }
def NamesBackWrongFalsely : Prop := namesBackRow.holds Try.pinned (OpenSpec.ofChange namesBackWrong)

/-- 'daybooklaw15.NamesRight': WHATEVER THE INPUT: true; the input reads as it did. -/
def namesRightSpec : ChangeSpec := { name := "namesRight", fn := fun _ => fun
  | [d1, d2] => { results := [.lit (.bool true)], args := [d1, d2] }
  | _ => none }
def namesRightRow : OpenClaim := { program := "yteooppnofahgkaa", sum := "169e7a63afdd50ef8ab43ce9f6d23d68aaab701633e4af2ee937ab0896e46edb", func := "daybook/daybooklaw15.NamesRight", spec := "namesRight", apart := false }
def NamesRightSaid : Prop := namesRightRow.holds Try.pinned (OpenSpec.ofChange namesRightSpec)

/-- ITS FALSE NEIGHBOUR: 'it returns false'. Refute it at one input. -/
def namesRightWrong : ChangeSpec := { name := "namesRight", fn := fun _ => fun
  | [d1, d2] => { results := [.lit (.bool false)], args := [d1, d2] }
  | _ => none }
def NamesRightWrongFalsely : Prop := namesRightRow.holds Try.pinned (OpenSpec.ofChange namesRightWrong)

/- THE SECOND FORM. 'bulk': how many values and letters a reading holds, each counted each time it is reached (what is shared counts as often as it is met; a slice's spare places count too). A statement '..UptoSaid' is the law's where the arguments, and the package variables that the reading takes, are together of bulk at most 1048576: NARROWER than '..Said'. Prove '..Said' where nothing that the law and all that it calls make is longer than what came in: it says more and counts as full. Else prove '..UptoSaid'. A law counts once. -/
mutual
def uptoBulk {H : Type} : DataW H → Nat
  | .lit (.string bytes) => bytes.length + 1
  | .lit _ => 1
  | .nil => 1
  | .ptr d => uptoBulk d + 1
  | .slice elems spare => uptoBulkAll elems + uptoBulkAll spare + 1
  | .agg parts => uptoBulkAll parts + 1
  | .iface _ d => uptoBulk d + 1
  | .map entries => uptoBulkEntries entries + 1
  | .held _ => 1
def uptoBulkAll {H : Type} : List (DataW H) → Nat
  | [] => 0
  | d :: r => uptoBulk d + uptoBulkAll r
def uptoBulkEntries {H : Type} : List (Lit × DataW H) → Nat
  | [] => 0
  | x :: r => uptoBulkEntry x + uptoBulkEntries r
def uptoBulkEntry {H : Type} : Lit × DataW H → Nat
  | (.string bytes, d) => bytes.length + uptoBulk d + 1
  | (_, d) => uptoBulk d + 1
 end
def uptoSmall : (H : Type) → List (DataW H) → Bool := fun _ ds => decide (uptoBulkAll ds ≤ 1048576)
def OpenSpec.upto (s : _root_.Go.ChangeSpec) : _root_.Go.OpenSpec := { _root_.Go.OpenSpec.ofChange s with cond := some uptoSmall }

/-- 'daybooklaw15.NamesWrites', WHERE WHAT IT READS IS OF BULK AT MOST 1048576: true; the input reads as it did. -/
def namesWritesUptoRow : OpenClaim := { program := "yteooppnofahgkaa", sum := "169e7a63afdd50ef8ab43ce9f6d23d68aaab701633e4af2ee937ab0896e46edb", func := "daybook/daybooklaw15.NamesWrites", spec := "namesWrites", apart := false, narrowed := true }
def NamesWritesUptoSaid : Prop := namesWritesUptoRow.holds Try.pinned (OpenSpec.upto namesWritesSpec)

/-- 'daybooklaw15.NamesOrder', WHERE WHAT IT READS IS OF BULK AT MOST 1048576: true; the input reads as it did. -/
def namesOrderUptoRow : OpenClaim := { program := "yteooppnofahgkaa", sum := "169e7a63afdd50ef8ab43ce9f6d23d68aaab701633e4af2ee937ab0896e46edb", func := "daybook/daybooklaw15.NamesOrder", spec := "namesOrder", apart := false, narrowed := true }
def NamesOrderUptoSaid : Prop := namesOrderUptoRow.holds Try.pinned (OpenSpec.upto namesOrderSpec)

/-- 'daybooklaw15.NamesParses', WHERE WHAT IT READS IS OF BULK AT MOST 1048576: true; the input reads as it did. -/
def namesParsesUptoRow : OpenClaim := { program := "yteooppnofahgkaa", sum := "169e7a63afdd50ef8ab43ce9f6d23d68aaab701633e4af2ee937ab0896e46edb", func := "daybook/daybooklaw15.NamesParses", spec := "namesParses", apart := false, narrowed := true }
def NamesParsesUptoSaid : Prop := namesParsesUptoRow.holds Try.pinned (OpenSpec.upto namesParsesSpec)

/-- 'daybooklaw15.NamesBack', WHERE WHAT IT READS IS OF BULK AT MOST 1048576: true; the input reads as it did. -/
def namesBackUptoRow : OpenClaim := { program := "yteooppnofahgkaa", sum := "169e7a63afdd50ef8ab43ce9f6d23d68aaab701633e4af2ee937ab0896e46edb", func := "daybook/daybooklaw15.NamesBack", spec := "namesBack", apart := false, narrowed := true }
def NamesBackUptoSaid : Prop := namesBackUptoRow.holds Try.pinned (OpenSpec.upto namesBackSpec)

/-- 'daybooklaw15.NamesRight', WHERE WHAT IT READS IS OF BULK AT MOST 1048576: true; the input reads as it did. -/
def namesRightUptoRow : OpenClaim := { program := "yteooppnofahgkaa", sum := "169e7a63afdd50ef8ab43ce9f6d23d68aaab701633e4af2ee937ab0896e46edb", func := "daybook/daybooklaw15.NamesRight", spec := "namesRight", apart := false, narrowed := true }
def NamesRightUptoSaid : Prop := namesRightUptoRow.holds Try.pinned (OpenSpec.upto namesRightSpec)

end Rows
end Go.Proofs.Yteooppnofahgkaa
