/-
  DERIVED. GIVEN WITH THE SEED: THE CARDS: each row of YtkcgioggnbnfkaaDoorRows.lean that lists a variable, with what it lists TIED to the program's text (the seventh form; the later family's looks); each row that meets fmt, with fmt's text TOLD by the authors' own Lean function (tested against real Go, not proved from fmt's source: count such statements apart). THE CARD IS WHAT COUNTS. Prove the row's statement (the work); the ties are given (YtkcgioggnbnfkaaDoorTie.lean); close each card by the builder's one call (the guide's Derived/Test/ToyasCard.lean, 'card_holds'). Laid BY PROGRAM, IN A SANDBOX (cutbox-door.mjs). By AI agents, Wed Nov 11 2026. No macro, syntax, notation, axiom, sorry.
-/
import Derived.Test.YtkcgioggnbnfkaaDoorRows
import GoSem.ClaimSeven
namespace Go.Proofs.YtkcgioggnbnfkaaDoor
namespace Rows

/-- THE TIED CARD OF 'oakumlaw33.VolumeSplits'. -/
def volumeSplitsCard : Claim7 := { stood := { row := volumeSplitsRow, standIns := [], harness := (true, "7b1238c9988600a303187c48248b85ac6e88de7604064db4330a6be31faa6779"), looks := false }, kinds := [], alts := [], laidByText := true, laidKinds := [.data, .pinned], laidTests := true, laidLooks := .later }
def VolumeSplitsCardSaid : Prop := Claim7.holds Tryd.pinned (.plain (OpenSpec.ofChange volumeSplitsSpec)) volumeSplitsCard

/-- THE TIED CARD OF 'oakumlaw33.VolumeJoins'. -/
def volumeJoinsCard : Claim7 := { stood := { row := volumeJoinsRow, standIns := [], harness := (true, "7b1238c9988600a303187c48248b85ac6e88de7604064db4330a6be31faa6779"), looks := false }, kinds := [], alts := [], laidByText := true, laidKinds := [.data, .pinned], laidTests := true, laidLooks := .later }
def VolumeJoinsCardSaid : Prop := Claim7.holds Tryd.pinned (.plain (OpenSpec.ofChange volumeJoinsSpec)) volumeJoinsCard

/-- THE TIED CARD OF 'oakumlaw33.VolumeBack'. -/
def volumeBackCard : Claim7 := { stood := { row := volumeBackRow, standIns := [], harness := (true, "7b1238c9988600a303187c48248b85ac6e88de7604064db4330a6be31faa6779"), looks := false }, kinds := [], alts := [], laidByText := true, laidKinds := [.data, .pinned], laidTests := true, laidLooks := .later }
def VolumeBackCardSaid : Prop := Claim7.holds Tryd.pinned (.plain (OpenSpec.ofChange volumeBackSpec)) volumeBackCard

/-- THE SECOND FORM's CARD OF 'oakumlaw33.VolumeSplits'. -/
def volumeSplitsUptoCard : Claim7 := { stood := { row := volumeSplitsUptoRow, standIns := [], harness := (true, "7b1238c9988600a303187c48248b85ac6e88de7604064db4330a6be31faa6779"), looks := false }, kinds := [], alts := [], laidByText := true, laidKinds := [.data, .pinned], laidTests := true, laidLooks := .later }
def VolumeSplitsUptoCardSaid : Prop := Claim7.holds Tryd.pinned (.plain (OpenSpec.upto volumeSplitsSpec)) volumeSplitsUptoCard

/-- THE SECOND FORM's CARD OF 'oakumlaw33.VolumeJoins'. -/
def volumeJoinsUptoCard : Claim7 := { stood := { row := volumeJoinsUptoRow, standIns := [], harness := (true, "7b1238c9988600a303187c48248b85ac6e88de7604064db4330a6be31faa6779"), looks := false }, kinds := [], alts := [], laidByText := true, laidKinds := [.data, .pinned], laidTests := true, laidLooks := .later }
def VolumeJoinsUptoCardSaid : Prop := Claim7.holds Tryd.pinned (.plain (OpenSpec.upto volumeJoinsSpec)) volumeJoinsUptoCard

/-- THE SECOND FORM's CARD OF 'oakumlaw33.VolumeBack'. -/
def volumeBackUptoCard : Claim7 := { stood := { row := volumeBackUptoRow, standIns := [], harness := (true, "7b1238c9988600a303187c48248b85ac6e88de7604064db4330a6be31faa6779"), looks := false }, kinds := [], alts := [], laidByText := true, laidKinds := [.data, .pinned], laidTests := true, laidLooks := .later }
def VolumeBackUptoCardSaid : Prop := Claim7.holds Tryd.pinned (.plain (OpenSpec.upto volumeBackSpec)) volumeBackUptoCard
end Rows
end Go.Proofs.YtkcgioggnbnfkaaDoor
