/-
  No cell of these rows narrows 'for every input' (looked for: loops, veiled, ifaces, maps, wideKeys, modest, calm, conditions, laid).
  DERIVED. THE GIVEN ROWS OF THIS SEAT. 3 by the template 'for every input the law returns true; each argument reads behind the call as it read before'; 0 by the template 'total and deterministic' (their statements: YtkmlhfmffnbccaaTotals.lean).
  GIVEN WITH THE SEED: the statements are not yours to turn. If you find one false, say at which input.
  Laid BY PROGRAM, IN A SANDBOX (cutbox-rows.mjs): the forced cells as the released guide's own fill.sh prints them over the translation 691e538ffa50d66c… (all of the seat's roots in one cut). By AI agents, Wed Nov 11 2026. No macro, syntax, notation, axiom, sorry.
-/
import Derived.Test.YtkmlhfmffnbccaaChecked
import GoSem.Claim
import GoSem.ClaimJoined
import GoSem.ClaimMapViews
import Derived.JoinedTies
import Derived.KernelRfl
namespace Go.Proofs.Ytkmlhfmffnbccaa
/- THE CELL 'sum', in the pinned program and in every row, IS THE sha256 OF THE DUMP (.gsa) THAT YtkmlhfmffnbccaaProg.lean LOADS. Nothing in Lean hashes anything: it is a label: what it is worth is what the hold of that sum in a sandbox is worth. -/
noncomputable def Try.pinned : Pinned := { name := "ytkmlhfmffnbccaa", sum := "691e538ffa50d66c308c0ffd0705229dbc3de3d2bce8e921796ecc85e9c914a7", checked := Try.checked }
namespace Rows
def none {H : Type} : Left H := { results := [], args := [] }

/-- 'oakumlaw10.SplitWhole': WHATEVER THE INPUT: true; the input reads as it did. -/
def splitWholeSpec : ChangeSpec := { name := "splitWhole", fn := fun _ => fun
  | [d] => { results := [.lit (.bool true)], args := [d] }
  | _ => none }
def splitWholeRow : OpenClaim := { program := "ytkmlhfmffnbccaa", sum := "691e538ffa50d66c308c0ffd0705229dbc3de3d2bce8e921796ecc85e9c914a7", func := "oakum/oakumlaw10.SplitWhole", spec := "splitWhole", apart := false }
def SplitWholeSaid : Prop := splitWholeRow.holds Try.pinned (OpenSpec.ofChange splitWholeSpec)

/-- ITS FALSE NEIGHBOUR: 'it returns false'. Refute it at one input. -/
def splitWholeWrong : ChangeSpec := { name := "splitWhole", fn := fun _ => fun
  | [d] => { results := [.lit (.bool false)], args := [d] }
  | _ => none }
def SplitWholeWrongFalsely : Prop := splitWholeRow.holds Try.pinned (OpenSpec.ofChange splitWholeWrong)

/-- 'oakumlaw10.SplitNames': WHATEVER THE INPUT: true; the input reads as it did. -/
def splitNamesSpec : ChangeSpec := { name := "splitNames", fn := fun _ => fun
  | [d] => { results := [.lit (.bool true)], args := [d] }
  | _ => none }
def splitNamesRow : OpenClaim := { program := "ytkmlhfmffnbccaa", sum := "691e538ffa50d66c308c0ffd0705229dbc3de3d2bce8e921796ecc85e9c914a7", func := "oakum/oakumlaw10.SplitNames", spec := "splitNames", apart := false }
def SplitNamesSaid : Prop := splitNamesRow.holds Try.pinned (OpenSpec.ofChange splitNamesSpec)

/-- ITS FALSE NEIGHBOUR: 'it returns false'. Refute it at one input. -/
def splitNamesWrong : ChangeSpec := { name := "splitNames", fn := fun _ => fun
  | [d] => { results := [.lit (.bool false)], args := [d] }
  | _ => none }
def SplitNamesWrongFalsely : Prop := splitNamesRow.holds Try.pinned (OpenSpec.ofChange splitNamesWrong)

/-- 'oakumlaw10.SplitLast': WHATEVER THE INPUT: true; the input reads as it did. -/
def splitLastSpec : ChangeSpec := { name := "splitLast", fn := fun _ => fun
  | [d] => { results := [.lit (.bool true)], args := [d] }
  | _ => none }
def splitLastRow : OpenClaim := { program := "ytkmlhfmffnbccaa", sum := "691e538ffa50d66c308c0ffd0705229dbc3de3d2bce8e921796ecc85e9c914a7", func := "oakum/oakumlaw10.SplitLast", spec := "splitLast", apart := false }
def SplitLastSaid : Prop := splitLastRow.holds Try.pinned (OpenSpec.ofChange splitLastSpec)

/-- ITS FALSE NEIGHBOUR: 'it returns false'. Refute it at one input. -/
def splitLastWrong : ChangeSpec := { name := "splitLast", fn := fun _ => fun
  | [d] => { results := [.lit (.bool false)], args := [d] }
  | _ => none }
def SplitLastWrongFalsely : Prop := splitLastRow.holds Try.pinned (OpenSpec.ofChange splitLastWrong)

/- THE SECOND FORM. 'bulk': how many values and letters a reading holds, each counted each time it is reached (what is shared counts as often as it is met; a slice's spare places count too). A statement '..UptoSaid' is the law's where the arguments, and the package variables that the reading takes, are together of bulk at most 1048576: NARROWER than '..Said'. Prove '..Said' where nothing that the law and all that it calls make is longer than what came in: it says more and counts as full. Else prove '..UptoSaid'. A law counts once. -/
mutual
def uptoBulk {H : Type} : DataW H → Nat
  | .lit (.string bytes) => bytes.length + 1
  | .lit _ => 1
  | .nil => 1
  | .ptr d => uptoBulk d + 1
  | .slice elems spare => uptoBulkAll elems + uptoBulkAll spare + 1
  | .agg parts => uptoBulkAll parts + 1
  | .iface _ d => uptoBulk d + 1
  | .map entries => uptoBulkEntries entries + 1
  | .held _ => 1
def uptoBulkAll {H : Type} : List (DataW H) → Nat
  | [] => 0
  | d :: r => uptoBulk d + uptoBulkAll r
def uptoBulkEntries {H : Type} : List (Lit × DataW H) → Nat
  | [] => 0
  | x :: r => uptoBulkEntry x + uptoBulkEntries r
def uptoBulkEntry {H : Type} : Lit × DataW H → Nat
  | (.string bytes, d) => bytes.length + uptoBulk d + 1
  | (_, d) => uptoBulk d + 1
 end
def uptoSmall : (H : Type) → List (DataW H) → Bool := fun _ ds => decide (uptoBulkAll ds ≤ 1048576)
def OpenSpec.upto (s : _root_.Go.ChangeSpec) : _root_.Go.OpenSpec := { _root_.Go.OpenSpec.ofChange s with cond := some uptoSmall }

/-- 'oakumlaw10.SplitWhole', WHERE WHAT IT READS IS OF BULK AT MOST 1048576: true; the input reads as it did. -/
def splitWholeUptoRow : OpenClaim := { program := "ytkmlhfmffnbccaa", sum := "691e538ffa50d66c308c0ffd0705229dbc3de3d2bce8e921796ecc85e9c914a7", func := "oakum/oakumlaw10.SplitWhole", spec := "splitWhole", apart := false, narrowed := true }
def SplitWholeUptoSaid : Prop := splitWholeUptoRow.holds Try.pinned (OpenSpec.upto splitWholeSpec)

/-- 'oakumlaw10.SplitNames', WHERE WHAT IT READS IS OF BULK AT MOST 1048576: true; the input reads as it did. -/
def splitNamesUptoRow : OpenClaim := { program := "ytkmlhfmffnbccaa", sum := "691e538ffa50d66c308c0ffd0705229dbc3de3d2bce8e921796ecc85e9c914a7", func := "oakum/oakumlaw10.SplitNames", spec := "splitNames", apart := false, narrowed := true }
def SplitNamesUptoSaid : Prop := splitNamesUptoRow.holds Try.pinned (OpenSpec.upto splitNamesSpec)

/-- 'oakumlaw10.SplitLast', WHERE WHAT IT READS IS OF BULK AT MOST 1048576: true; the input reads as it did. -/
def splitLastUptoRow : OpenClaim := { program := "ytkmlhfmffnbccaa", sum := "691e538ffa50d66c308c0ffd0705229dbc3de3d2bce8e921796ecc85e9c914a7", func := "oakum/oakumlaw10.SplitLast", spec := "splitLast", apart := false, narrowed := true }
def SplitLastUptoSaid : Prop := splitLastUptoRow.holds Try.pinned (OpenSpec.upto splitLastSpec)

end Rows
end Go.Proofs.Ytkmlhfmffnbccaa
