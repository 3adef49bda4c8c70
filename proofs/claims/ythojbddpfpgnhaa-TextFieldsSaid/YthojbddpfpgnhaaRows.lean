/-
  No cell of these rows narrows 'for every input' (looked for: loops, veiled, ifaces, maps, wideKeys, modest, calm, conditions, laid).
  DERIVED. THE GIVEN ROWS OF THIS SEAT. 4 by the template 'for every input the law returns true; each argument reads behind the call as it read before'; 0 by the template 'total and deterministic' (their statements: YthojbddpfpgnhaaTotals.lean).
  GIVEN WITH THE SEED: the statements are not yours to turn. If you find one false, say at which input.
  Laid BY PROGRAM, IN A SANDBOX (cutbox-rows.mjs): the forced cells as the released guide's own fill.sh prints them over the translation 45106e95c9e502d3… (all of the seat's roots in one cut). By AI agents, Wed Nov 11 2026. No macro, syntax, notation, axiom, sorry.
-/
import Derived.Test.YthojbddpfpgnhaaChecked
import GoSem.Claim
import GoSem.ClaimJoined
import GoSem.ClaimMapViews
import Derived.JoinedTies
import Derived.KernelRfl
namespace Go.Proofs.Ythojbddpfpgnhaa
/- THE CELL 'sum', in the pinned program and in every row, IS THE sha256 OF THE DUMP (.gsa) THAT YthojbddpfpgnhaaProg.lean LOADS. Nothing in Lean hashes anything: it is a label: what it is worth is what the hold of that sum in a sandbox is worth. -/
noncomputable def Try.pinned : Pinned := { name := "ythojbddpfpgnhaa", sum := "45106e95c9e502d379b2e5c1448c87c4d848a469b1ca0bf73a2da2fff936ab91", checked := Try.checked }
namespace Rows
def none {H : Type} : Left H := { results := [], args := [] }

/-- 'oakumlaw02.TextQuotes': WHATEVER THE INPUT: true; the input reads as it did. -/
def textQuotesSpec : ChangeSpec := { name := "textQuotes", fn := fun _ => fun
  | [d1, d2] => { results := [.lit (.bool true)], args := [d1, d2] }
  | _ => none }
def textQuotesRow : OpenClaim := { program := "ythojbddpfpgnhaa", sum := "45106e95c9e502d379b2e5c1448c87c4d848a469b1ca0bf73a2da2fff936ab91", func := "oakum/oakumlaw02.TextQuotes", spec := "textQuotes", inPlace := ["internal/abi.NoEscape"], apart := false }
def TextQuotesSaid : Prop := textQuotesRow.holds Try.pinned (OpenSpec.ofChange textQuotesSpec)

/-- ITS FALSE NEIGHBOUR: 'it returns false'. Refute it at one input. -/
def textQuotesWrong : ChangeSpec := { name := "textQuotes", fn := fun _ => fun
  | [d1, d2] => { results := [.lit (.bool false)], args := [d1, d2] }
  | _ => none }
def TextQuotesWrongFalsely : Prop := textQuotesRow.holds Try.pinned (OpenSpec.ofChange textQuotesWrong)

/-- 'oakumlaw02.TextBlocks': WHATEVER THE INPUT: true; the input reads as it did. -/
def textBlocksSpec : ChangeSpec := { name := "textBlocks", fn := fun _ => fun
  | [d] => { results := [.lit (.bool true)], args := [d] }
  | _ => none }
def textBlocksRow : OpenClaim := { program := "ythojbddpfpgnhaa", sum := "45106e95c9e502d379b2e5c1448c87c4d848a469b1ca0bf73a2da2fff936ab91", func := "oakum/oakumlaw02.TextBlocks", spec := "textBlocks", inPlace := ["internal/abi.NoEscape"], apart := false }
def TextBlocksSaid : Prop := textBlocksRow.holds Try.pinned (OpenSpec.ofChange textBlocksSpec)

/-- ITS FALSE NEIGHBOUR: 'it returns false'. Refute it at one input. -/
def textBlocksWrong : ChangeSpec := { name := "textBlocks", fn := fun _ => fun
  | [d] => { results := [.lit (.bool false)], args := [d] }
  | _ => none }
def TextBlocksWrongFalsely : Prop := textBlocksRow.holds Try.pinned (OpenSpec.ofChange textBlocksWrong)

/-- 'oakumlaw02.TextBack': WHATEVER THE INPUT: true; the input reads as it did. -/
def textBackSpec : ChangeSpec := { name := "textBack", fn := fun _ => fun
  | [d1, d2, d3] => { results := [.lit (.bool true)], args := [d1, d2, d3] }
  | _ => none }
def textBackRow : OpenClaim := { program := "ythojbddpfpgnhaa", sum := "45106e95c9e502d379b2e5c1448c87c4d848a469b1ca0bf73a2da2fff936ab91", func := "oakum/oakumlaw02.TextBack", spec := "textBack", inPlace := ["internal/abi.NoEscape", "internal/bytealg.IndexByteString", "internal/bytealg.IndexByte"], apart := false }
def TextBackSaid : Prop := textBackRow.holds Try.pinned (OpenSpec.ofChange textBackSpec)

/-- ITS FALSE NEIGHBOUR: 'it returns false'. Refute it at one input. -/
def textBackWrong : ChangeSpec := { name := "textBack", fn := fun _ => fun
  | [d1, d2, d3] => { results := [.lit (.bool false)], args := [d1, d2, d3] }
  | _ => none }
def TextBackWrongFalsely : Prop := textBackRow.holds Try.pinned (OpenSpec.ofChange textBackWrong)

/-- 'oakumlaw02.TextFields': WHATEVER THE INPUT: true; the input reads as it did. -/
def textFieldsSpec : ChangeSpec := { name := "textFields", fn := fun _ => fun
  | [d1, d2, d3] => { results := [.lit (.bool true)], args := [d1, d2, d3] }
  | _ => none }
def textFieldsRow : OpenClaim := { program := "ythojbddpfpgnhaa", sum := "45106e95c9e502d379b2e5c1448c87c4d848a469b1ca0bf73a2da2fff936ab91", func := "oakum/oakumlaw02.TextFields", spec := "textFields", inPlace := ["internal/abi.NoEscape", "internal/bytealg.IndexByteString", "internal/bytealg.IndexByte"], apart := false }
def TextFieldsSaid : Prop := textFieldsRow.holds Try.pinned (OpenSpec.ofChange textFieldsSpec)

/-- ITS FALSE NEIGHBOUR: 'it returns false'. Refute it at one input. -/
def textFieldsWrong : ChangeSpec := { name := "textFields", fn := fun _ => fun
  | [d1, d2, d3] => { results := [.lit (.bool false)], args := [d1, d2, d3] }
  | _ => none }
def TextFieldsWrongFalsely : Prop := textFieldsRow.holds Try.pinned (OpenSpec.ofChange textFieldsWrong)

/- THE SECOND FORM. 'bulk': how many values and letters a reading holds, each counted each time it is reached (what is shared counts as often as it is met; a slice's spare places count too). A statement '..UptoSaid' is the law's where the arguments, and the package variables that the reading takes, are together of bulk at most 1048576: NARROWER than '..Said'. Prove '..Said' where nothing that the law and all that it calls make is longer than what came in: it says more and counts as full. Else prove '..UptoSaid'. A law counts once. -/
mutual
def uptoBulk {H : Type} : DataW H → Nat
  | .lit (.string bytes) => bytes.length + 1
  | .lit _ => 1
  | .nil => 1
  | .ptr d => uptoBulk d + 1
  | .slice elems spare => uptoBulkAll elems + uptoBulkAll spare + 1
  | .agg parts => uptoBulkAll parts + 1
  | .iface _ d => uptoBulk d + 1
  | .map entries => uptoBulkEntries entries + 1
  | .held _ => 1
def uptoBulkAll {H : Type} : List (DataW H) → Nat
  | [] => 0
  | d :: r => uptoBulk d + uptoBulkAll r
def uptoBulkEntries {H : Type} : List (Lit × DataW H) → Nat
  | [] => 0
  | x :: r => uptoBulkEntry x + uptoBulkEntries r
def uptoBulkEntry {H : Type} : Lit × DataW H → Nat
  | (.string bytes, d) => bytes.length + uptoBulk d + 1
  | (_, d) => uptoBulk d + 1
 end
def uptoSmall : (H : Type) → List (DataW H) → Bool := fun _ ds => decide (uptoBulkAll ds ≤ 1048576)
def OpenSpec.upto (s : _root_.Go.ChangeSpec) : _root_.Go.OpenSpec := { _root_.Go.OpenSpec.ofChange s with cond := some uptoSmall }

/-- 'oakumlaw02.TextQuotes', WHERE WHAT IT READS IS OF BULK AT MOST 1048576: true; the input reads as it did. -/
def textQuotesUptoRow : OpenClaim := { program := "ythojbddpfpgnhaa", sum := "45106e95c9e502d379b2e5c1448c87c4d848a469b1ca0bf73a2da2fff936ab91", func := "oakum/oakumlaw02.TextQuotes", spec := "textQuotes", inPlace := ["internal/abi.NoEscape"], apart := false, narrowed := true }
def TextQuotesUptoSaid : Prop := textQuotesUptoRow.holds Try.pinned (OpenSpec.upto textQuotesSpec)

/-- 'oakumlaw02.TextBlocks', WHERE WHAT IT READS IS OF BULK AT MOST 1048576: true; the input reads as it did. -/
def textBlocksUptoRow : OpenClaim := { program := "ythojbddpfpgnhaa", sum := "45106e95c9e502d379b2e5c1448c87c4d848a469b1ca0bf73a2da2fff936ab91", func := "oakum/oakumlaw02.TextBlocks", spec := "textBlocks", inPlace := ["internal/abi.NoEscape"], apart := false, narrowed := true }
def TextBlocksUptoSaid : Prop := textBlocksUptoRow.holds Try.pinned (OpenSpec.upto textBlocksSpec)

/-- 'oakumlaw02.TextBack', WHERE WHAT IT READS IS OF BULK AT MOST 1048576: true; the input reads as it did. -/
def textBackUptoRow : OpenClaim := { program := "ythojbddpfpgnhaa", sum := "45106e95c9e502d379b2e5c1448c87c4d848a469b1ca0bf73a2da2fff936ab91", func := "oakum/oakumlaw02.TextBack", spec := "textBack", inPlace := ["internal/abi.NoEscape", "internal/bytealg.IndexByteString", "internal/bytealg.IndexByte"], apart := false, narrowed := true }
def TextBackUptoSaid : Prop := textBackUptoRow.holds Try.pinned (OpenSpec.upto textBackSpec)

/-- 'oakumlaw02.TextFields', WHERE WHAT IT READS IS OF BULK AT MOST 1048576: true; the input reads as it did. -/
def textFieldsUptoRow : OpenClaim := { program := "ythojbddpfpgnhaa", sum := "45106e95c9e502d379b2e5c1448c87c4d848a469b1ca0bf73a2da2fff936ab91", func := "oakum/oakumlaw02.TextFields", spec := "textFields", inPlace := ["internal/abi.NoEscape", "internal/bytealg.IndexByteString", "internal/bytealg.IndexByte"], apart := false, narrowed := true }
def TextFieldsUptoSaid : Prop := textFieldsUptoRow.holds Try.pinned (OpenSpec.upto textFieldsSpec)

end Rows
end Go.Proofs.Ythojbddpfpgnhaa
