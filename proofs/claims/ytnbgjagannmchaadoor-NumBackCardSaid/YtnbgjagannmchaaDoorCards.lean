/-
  DERIVED. GIVEN WITH THE SEED: THE CARDS: each row of YtnbgjagannmchaaDoorRows.lean that lists a variable, with what it lists TIED to the program's text (the seventh form; the later family's looks); each row that meets fmt, with fmt's text TOLD by the authors' own Lean function (tested against real Go, not proved from fmt's source: count such statements apart). THE CARD IS WHAT COUNTS. Prove the row's statement (the work); the ties are given (YtnbgjagannmchaaDoorTie.lean); close each card by the builder's one call (the guide's Derived/Test/ToyasCard.lean, 'card_holds'). Laid BY PROGRAM, IN A SANDBOX (cutbox-door.mjs). By AI agents, Wed Nov 11 2026. No macro, syntax, notation, axiom, sorry.
-/
import Derived.Test.YtnbgjagannmchaaDoorRows
import GoSem.ClaimSeven
namespace Go.Proofs.YtnbgjagannmchaaDoor
namespace Rows

/-- THE TIED CARD OF 'oakumlaw01.NumPuts'. -/
def numPutsCard : Claim7 := { stood := { row := numPutsRow, standIns := [], harness := (true, "c1c4733a3d8e8eaf4b775de406c7d7f1ced4964469f3f6b75a294a5eeefe87d6"), looks := false }, kinds := [], alts := [], laidByText := true, laidKinds := [.data, .pinned], laidTests := true, laidLooks := .later }
def NumPutsCardSaid : Prop := Claim7.holds Tryd.pinned (.plain (OpenSpec.ofChange numPutsSpec)) numPutsCard

/-- THE TIED CARD OF 'oakumlaw01.NumPads'. -/
def numPadsCard : Claim7 := { stood := { row := numPadsRow, standIns := [], harness := (true, "c1c4733a3d8e8eaf4b775de406c7d7f1ced4964469f3f6b75a294a5eeefe87d6"), looks := false }, kinds := [], alts := [], laidByText := true, laidKinds := [.data, .pinned], laidTests := true, laidLooks := .later }
def NumPadsCardSaid : Prop := Claim7.holds Tryd.pinned (.plain (OpenSpec.ofChange numPadsSpec)) numPadsCard

/-- THE TIED CARD OF 'oakumlaw01.NumGets'. -/
def numGetsCard : Claim7 := { stood := { row := numGetsRow, standIns := [], harness := (true, "c1c4733a3d8e8eaf4b775de406c7d7f1ced4964469f3f6b75a294a5eeefe87d6"), looks := false }, kinds := [], alts := [], laidByText := true, laidKinds := [.data, .pinned], laidTests := true, laidLooks := .later }
def NumGetsCardSaid : Prop := Claim7.holds Tryd.pinned (.plain (OpenSpec.ofChange numGetsSpec)) numGetsCard

/-- THE TIED CARD OF 'oakumlaw01.NumBack'. -/
def numBackCard : Claim7 := { stood := { row := numBackRow, standIns := [], harness := (true, "c1c4733a3d8e8eaf4b775de406c7d7f1ced4964469f3f6b75a294a5eeefe87d6"), looks := false }, kinds := [], alts := [], laidByText := true, laidKinds := [.data, .pinned], laidTests := true, laidLooks := .later }
def NumBackCardSaid : Prop := Claim7.holds Tryd.pinned (.plain (OpenSpec.ofChange numBackSpec)) numBackCard

/-- THE SECOND FORM's CARD OF 'oakumlaw01.NumPuts'. -/
def numPutsUptoCard : Claim7 := { stood := { row := numPutsUptoRow, standIns := [], harness := (true, "c1c4733a3d8e8eaf4b775de406c7d7f1ced4964469f3f6b75a294a5eeefe87d6"), looks := false }, kinds := [], alts := [], laidByText := true, laidKinds := [.data, .pinned], laidTests := true, laidLooks := .later }
def NumPutsUptoCardSaid : Prop := Claim7.holds Tryd.pinned (.plain (OpenSpec.upto numPutsSpec)) numPutsUptoCard

/-- THE SECOND FORM's CARD OF 'oakumlaw01.NumPads'. -/
def numPadsUptoCard : Claim7 := { stood := { row := numPadsUptoRow, standIns := [], harness := (true, "c1c4733a3d8e8eaf4b775de406c7d7f1ced4964469f3f6b75a294a5eeefe87d6"), looks := false }, kinds := [], alts := [], laidByText := true, laidKinds := [.data, .pinned], laidTests := true, laidLooks := .later }
def NumPadsUptoCardSaid : Prop := Claim7.holds Tryd.pinned (.plain (OpenSpec.upto numPadsSpec)) numPadsUptoCard

/-- THE SECOND FORM's CARD OF 'oakumlaw01.NumGets'. -/
def numGetsUptoCard : Claim7 := { stood := { row := numGetsUptoRow, standIns := [], harness := (true, "c1c4733a3d8e8eaf4b775de406c7d7f1ced4964469f3f6b75a294a5eeefe87d6"), looks := false }, kinds := [], alts := [], laidByText := true, laidKinds := [.data, .pinned], laidTests := true, laidLooks := .later }
def NumGetsUptoCardSaid : Prop := Claim7.holds Tryd.pinned (.plain (OpenSpec.upto numGetsSpec)) numGetsUptoCard

/-- THE SECOND FORM's CARD OF 'oakumlaw01.NumBack'. -/
def numBackUptoCard : Claim7 := { stood := { row := numBackUptoRow, standIns := [], harness := (true, "c1c4733a3d8e8eaf4b775de406c7d7f1ced4964469f3f6b75a294a5eeefe87d6"), looks := false }, kinds := [], alts := [], laidByText := true, laidKinds := [.data, .pinned], laidTests := true, laidLooks := .later }
def NumBackUptoCardSaid : Prop := Claim7.holds Tryd.pinned (.plain (OpenSpec.upto numBackSpec)) numBackUptoCard
end Rows
end Go.Proofs.YtnbgjagannmchaaDoor
