/-
  No cell of these rows narrows 'for every input' (looked for: loops, veiled, ifaces, maps, wideKeys, modest, calm, conditions, laid).
  DERIVED. THE GIVEN ROWS OF THIS SEAT. 4 by the template 'for every input the law returns true; each argument reads behind the call as it read before'; 0 by the template 'total and deterministic' (their statements: YtepcdngdllciiaaTotals.lean).
  GIVEN WITH THE SEED: the statements are not yours to turn. If you find one false, say at which input.
  Laid BY PROGRAM, IN A SANDBOX (cutbox-rows.mjs): the forced cells as the released guide's own fill.sh prints them over the translation 656954c55800f0e0… (all of the seat's roots in one cut). By AI agents, Wed Nov 11 2026. No macro, syntax, notation, axiom, sorry.
-/
import Derived.Test.YtepcdngdllciiaaChecked
import GoSem.Claim
import GoSem.ClaimJoined
import GoSem.ClaimMapViews
import Derived.JoinedTies
import Derived.KernelRfl
namespace Go.Proofs.Ytepcdngdllciiaa
/- THE CELL 'sum', in the pinned program and in every row, IS THE sha256 OF THE DUMP (.gsa) THAT YtepcdngdllciiaaProg.lean LOADS. Nothing in Lean hashes anything: it is a label: what it is worth is what the hold of that sum in a sandbox is worth. -/
noncomputable def Try.pinned : Pinned := { name := "ytepcdngdllciiaa", sum := "656954c55800f0e0a79be80915fa65c6c29017649d09197342b4a87ffb28f108", checked := Try.checked }
namespace Rows
def none {H : Type} : Left H := { results := [], args := [] }

/-- 'oakumlaw13.SourcePieces': WHATEVER THE INPUT: true; the input reads as it did. -/
def sourcePiecesSpec : ChangeSpec := { name := "sourcePieces", fn := fun _ => fun
  | [d1, d2] => { results := [.lit (.bool true)], args := [d1, d2] }
  | _ => none }
def sourcePiecesRow : OpenClaim := { program := "ytepcdngdllciiaa", sum := "656954c55800f0e0a79be80915fa65c6c29017649d09197342b4a87ffb28f108", func := "oakum/oakumlaw13.SourcePieces", spec := "sourcePieces", apart := false }
def SourcePiecesSaid : Prop := sourcePiecesRow.holds Try.pinned (OpenSpec.ofChange sourcePiecesSpec)

/-- ITS FALSE NEIGHBOUR: 'it returns false'. Refute it at one input. -/
def sourcePiecesWrong : ChangeSpec := { name := "sourcePieces", fn := fun _ => fun
  | [d1, d2] => { results := [.lit (.bool false)], args := [d1, d2] }
  | _ => none }
def SourcePiecesWrongFalsely : Prop := sourcePiecesRow.holds Try.pinned (OpenSpec.ofChange sourcePiecesWrong)

/-- 'oakumlaw13.SourceBlocks': WHATEVER THE INPUT: true; the input reads as it did. -/
def sourceBlocksSpec : ChangeSpec := { name := "sourceBlocks", fn := fun _ => fun
  | [d1, d2] => { results := [.lit (.bool true)], args := [d1, d2] }
  | _ => none }
def sourceBlocksRow : OpenClaim := { program := "ytepcdngdllciiaa", sum := "656954c55800f0e0a79be80915fa65c6c29017649d09197342b4a87ffb28f108", func := "oakum/oakumlaw13.SourceBlocks", spec := "sourceBlocks", apart := false }
def SourceBlocksSaid : Prop := sourceBlocksRow.holds Try.pinned (OpenSpec.ofChange sourceBlocksSpec)

/-- ITS FALSE NEIGHBOUR: 'it returns false'. Refute it at one input. -/
def sourceBlocksWrong : ChangeSpec := { name := "sourceBlocks", fn := fun _ => fun
  | [d1, d2] => { results := [.lit (.bool false)], args := [d1, d2] }
  | _ => none }
def SourceBlocksWrongFalsely : Prop := sourceBlocksRow.holds Try.pinned (OpenSpec.ofChange sourceBlocksWrong)

/-- 'oakumlaw13.SourceAlike': WHATEVER THE INPUT: true; the input reads as it did. -/
def sourceAlikeSpec : ChangeSpec := { name := "sourceAlike", fn := fun _ => fun
  | [d1, d2, d3] => { results := [.lit (.bool true)], args := [d1, d2, d3] }
  | _ => none }
def sourceAlikeRow : OpenClaim := { program := "ytepcdngdllciiaa", sum := "656954c55800f0e0a79be80915fa65c6c29017649d09197342b4a87ffb28f108", func := "oakum/oakumlaw13.SourceAlike", spec := "sourceAlike", apart := false }
def SourceAlikeSaid : Prop := sourceAlikeRow.holds Try.pinned (OpenSpec.ofChange sourceAlikeSpec)

/-- ITS FALSE NEIGHBOUR: 'it returns false'. Refute it at one input. -/
def sourceAlikeWrong : ChangeSpec := { name := "sourceAlike", fn := fun _ => fun
  | [d1, d2, d3] => { results := [.lit (.bool false)], args := [d1, d2, d3] }
  | _ => none }
def SourceAlikeWrongFalsely : Prop := sourceAlikeRow.holds Try.pinned (OpenSpec.ofChange sourceAlikeWrong)

/-- 'oakumlaw13.SourceNil': WHATEVER THE INPUT: true; the input reads as it did. -/
def sourceNilSpec : ChangeSpec := { name := "sourceNil", fn := fun _ => fun
  | [] => { results := [.lit (.bool true)], args := [] }
  | _ => none }
def sourceNilRow : OpenClaim := { program := "ytepcdngdllciiaa", sum := "656954c55800f0e0a79be80915fa65c6c29017649d09197342b4a87ffb28f108", func := "oakum/oakumlaw13.SourceNil", spec := "sourceNil", apart := false }
def SourceNilSaid : Prop := sourceNilRow.holds Try.pinned (OpenSpec.ofChange sourceNilSpec)

/-- ITS FALSE NEIGHBOUR: 'it returns false'. Refute it at one input. -/
def sourceNilWrong : ChangeSpec := { name := "sourceNil", fn := fun _ => fun
  | [] => { results := [.lit (.bool false)], args := [] }
  | _ => none }
def SourceNilWrongFalsely : Prop := sourceNilRow.holds Try.pinned (OpenSpec.ofChange sourceNilWrong)

/- THE SECOND FORM. 'bulk': how many values and letters a reading holds, each counted each time it is reached (what is shared counts as often as it is met; a slice's spare places count too). A statement '..UptoSaid' is the law's where the arguments, and the package variables that the reading takes, are together of bulk at most 1048576: NARROWER than '..Said'. Prove '..Said' where nothing that the law and all that it calls make is longer than what came in: it says more and counts as full. Else prove '..UptoSaid'. A law counts once. -/
mutual
def uptoBulk {H : Type} : DataW H → Nat
  | .lit (.string bytes) => bytes.length + 1
  | .lit _ => 1
  | .nil => 1
  | .ptr d => uptoBulk d + 1
  | .slice elems spare => uptoBulkAll elems + uptoBulkAll spare + 1
  | .agg parts => uptoBulkAll parts + 1
  | .iface _ d => uptoBulk d + 1
  | .map entries => uptoBulkEntries entries + 1
  | .held _ => 1
def uptoBulkAll {H : Type} : List (DataW H) → Nat
  | [] => 0
  | d :: r => uptoBulk d + uptoBulkAll r
def uptoBulkEntries {H : Type} : List (Lit × DataW H) → Nat
  | [] => 0
  | x :: r => uptoBulkEntry x + uptoBulkEntries r
def uptoBulkEntry {H : Type} : Lit × DataW H → Nat
  | (.string bytes, d) => bytes.length + uptoBulk d + 1
  | (_, d) => uptoBulk d + 1
 end
def uptoSmall : (H : Type) → List (DataW H) → Bool := fun _ ds => decide (uptoBulkAll ds ≤ 1048576)
def OpenSpec.upto (s : _root_.Go.ChangeSpec) : _root_.Go.OpenSpec := { _root_.Go.OpenSpec.ofChange s with cond := some uptoSmall }

/-- 'oakumlaw13.SourcePieces', WHERE WHAT IT READS IS OF BULK AT MOST 1048576: true; the input reads as it did. -/
def sourcePiecesUptoRow : OpenClaim := { program := "ytepcdngdllciiaa", sum := "656954c55800f0e0a79be80915fa65c6c29017649d09197342b4a87ffb28f108", func := "oakum/oakumlaw13.SourcePieces", spec := "sourcePieces", apart := false, narrowed := true }
def SourcePiecesUptoSaid : Prop := sourcePiecesUptoRow.holds Try.pinned (OpenSpec.upto sourcePiecesSpec)

/-- 'oakumlaw13.SourceBlocks', WHERE WHAT IT READS IS OF BULK AT MOST 1048576: true; the input reads as it did. -/
def sourceBlocksUptoRow : OpenClaim := { program := "ytepcdngdllciiaa", sum := "656954c55800f0e0a79be80915fa65c6c29017649d09197342b4a87ffb28f108", func := "oakum/oakumlaw13.SourceBlocks", spec := "sourceBlocks", apart := false, narrowed := true }
def SourceBlocksUptoSaid : Prop := sourceBlocksUptoRow.holds Try.pinned (OpenSpec.upto sourceBlocksSpec)

/-- 'oakumlaw13.SourceAlike', WHERE WHAT IT READS IS OF BULK AT MOST 1048576: true; the input reads as it did. -/
def sourceAlikeUptoRow : OpenClaim := { program := "ytepcdngdllciiaa", sum := "656954c55800f0e0a79be80915fa65c6c29017649d09197342b4a87ffb28f108", func := "oakum/oakumlaw13.SourceAlike", spec := "sourceAlike", apart := false, narrowed := true }
def SourceAlikeUptoSaid : Prop := sourceAlikeUptoRow.holds Try.pinned (OpenSpec.upto sourceAlikeSpec)

/-- 'oakumlaw13.SourceNil', WHERE WHAT IT READS IS OF BULK AT MOST 1048576: true; the input reads as it did. -/
def sourceNilUptoRow : OpenClaim := { program := "ytepcdngdllciiaa", sum := "656954c55800f0e0a79be80915fa65c6c29017649d09197342b4a87ffb28f108", func := "oakum/oakumlaw13.SourceNil", spec := "sourceNil", apart := false, narrowed := true }
def SourceNilUptoSaid : Prop := sourceNilUptoRow.holds Try.pinned (OpenSpec.upto sourceNilSpec)

end Rows
end Go.Proofs.Ytepcdngdllciiaa
