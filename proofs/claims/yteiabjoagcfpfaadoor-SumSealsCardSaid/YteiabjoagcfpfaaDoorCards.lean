/-
  DERIVED. GIVEN WITH THE SEED: THE CARDS: each row of YteiabjoagcfpfaaDoorRows.lean that lists a variable, with what it lists TIED to the program's text (the seventh form; the later family's looks); each row that meets fmt, with fmt's text TOLD by the authors' own Lean function (tested against real Go, not proved from fmt's source: count such statements apart). THE CARD IS WHAT COUNTS. Prove the row's statement (the work); the ties are given (YteiabjoagcfpfaaDoorTie.lean); close each card by the builder's one call (the guide's Derived/Test/ToyasCard.lean, 'card_holds'). Laid BY PROGRAM, IN A SANDBOX (cutbox-door.mjs). By AI agents, Wed Nov 11 2026. No macro, syntax, notation, axiom, sorry.
-/
import Derived.Test.YteiabjoagcfpfaaDoorRows
import GoSem.ClaimSeven
namespace Go.Proofs.YteiabjoagcfpfaaDoor
namespace Rows

/-- THE TIED CARD OF 'oakumlaw03.SumChecks'. -/
def sumChecksCard : Claim7 := { stood := { row := sumChecksRow, standIns := [], harness := (true, "55628fe9473cc106b97e79ca253bcafa4959ca5e582da69e7d89194152b3b096"), looks := false }, kinds := [], alts := [], laidByText := true, laidKinds := [.data, .data, .data, .data, .pinned], laidTests := true, laidLooks := .later }
def SumChecksCardSaid : Prop := Claim7.holds Tryd.pinned (.plain (OpenSpec.ofChange sumChecksSpec)) sumChecksCard

/-- THE TIED CARD OF 'oakumlaw03.SumSeals'. -/
def sumSealsCard : Claim7 := { stood := { row := sumSealsRow, standIns := [], harness := (true, "55628fe9473cc106b97e79ca253bcafa4959ca5e582da69e7d89194152b3b096"), looks := false }, kinds := [], alts := [], laidByText := true, laidKinds := [.data, .data, .data, .data, .pinned], laidTests := true, laidLooks := .later }
def SumSealsCardSaid : Prop := Claim7.holds Tryd.pinned (.plain (OpenSpec.ofChange sumSealsSpec)) sumSealsCard

/-- THE SECOND FORM's CARD OF 'oakumlaw03.SumChecks'. -/
def sumChecksUptoCard : Claim7 := { stood := { row := sumChecksUptoRow, standIns := [], harness := (true, "55628fe9473cc106b97e79ca253bcafa4959ca5e582da69e7d89194152b3b096"), looks := false }, kinds := [], alts := [], laidByText := true, laidKinds := [.data, .data, .data, .data, .pinned], laidTests := true, laidLooks := .later }
def SumChecksUptoCardSaid : Prop := Claim7.holds Tryd.pinned (.plain (OpenSpec.upto sumChecksSpec)) sumChecksUptoCard

/-- THE SECOND FORM's CARD OF 'oakumlaw03.SumSeals'. -/
def sumSealsUptoCard : Claim7 := { stood := { row := sumSealsUptoRow, standIns := [], harness := (true, "55628fe9473cc106b97e79ca253bcafa4959ca5e582da69e7d89194152b3b096"), looks := false }, kinds := [], alts := [], laidByText := true, laidKinds := [.data, .data, .data, .data, .pinned], laidTests := true, laidLooks := .later }
def SumSealsUptoCardSaid : Prop := Claim7.holds Tryd.pinned (.plain (OpenSpec.upto sumSealsSpec)) sumSealsUptoCard
end Rows
end Go.Proofs.YteiabjoagcfpfaaDoor
