/-
  DERIVED. GIVEN WITH THE SEED: THE CARDS: each row of YtoabboeongbloaaDoorRows.lean that lists a variable, with what it lists TIED to the program's text (the seventh form; the later family's looks); each row that meets fmt, with fmt's text TOLD by the authors' own Lean function (tested against real Go, not proved from fmt's source: count such statements apart). THE CARD IS WHAT COUNTS. Prove the row's statement (the work); the ties are given (YtoabboeongbloaaDoorTie.lean); close each card by the builder's one call (the guide's Derived/Test/ToyasCard.lean, 'card_holds'). Laid BY PROGRAM, IN A SANDBOX (cutbox-door.mjs). By AI agents, Wed Nov 11 2026. No macro, syntax, notation, axiom, sorry.
-/
import Derived.Test.YtoabboeongbloaaDoorRows
import GoSem.ClaimSeven
namespace Go.Proofs.YtoabboeongbloaaDoor
namespace Rows

/-- THE TIED CARD OF 'oakumlaw06.HeadMakes'. -/
def headMakesCard : Claim7 := { stood := { row := headMakesRow, standIns := [], harness := (true, "7cc3e169a1b962f54fd9304e64eba5ee4dfc5ef9300d1c5191bf08de0d730ee3"), looks := false }, kinds := [], alts := [], laidByText := true, laidKinds := [.data, .data, .data, .data, .pinned], laidTests := true, laidLooks := .later }
def HeadMakesCardSaid : Prop := Claim7.holds Tryd.pinned (.plain (OpenSpec.ofChange headMakesSpec)) headMakesCard

/-- THE TIED CARD OF 'oakumlaw06.HeadGets'. -/
def headGetsCard : Claim7 := { stood := { row := headGetsRow, standIns := [], harness := (true, "7cc3e169a1b962f54fd9304e64eba5ee4dfc5ef9300d1c5191bf08de0d730ee3"), looks := false }, kinds := [], alts := [], laidByText := true, laidKinds := [.data, .data, .data, .data, .pinned], laidTests := true, laidLooks := .later }
def HeadGetsCardSaid : Prop := Claim7.holds Tryd.pinned (.plain (OpenSpec.ofChange headGetsSpec)) headGetsCard

/-- THE TIED CARD OF 'oakumlaw06.HeadNumbers'. -/
def headNumbersCard : Claim7 := { stood := { row := headNumbersRow, standIns := [], harness := (true, "7cc3e169a1b962f54fd9304e64eba5ee4dfc5ef9300d1c5191bf08de0d730ee3"), looks := false }, kinds := [], alts := [], laidByText := true, laidKinds := [.data, .data, .data, .data, .pinned], laidTests := true, laidLooks := .later }
def HeadNumbersCardSaid : Prop := Claim7.holds Tryd.pinned (.plain (OpenSpec.ofChange headNumbersSpec)) headNumbersCard

/-- THE TIED CARD OF 'oakumlaw06.HeadBack'. -/
def headBackCard : Claim7 := { stood := { row := headBackRow, standIns := [], harness := (true, "7cc3e169a1b962f54fd9304e64eba5ee4dfc5ef9300d1c5191bf08de0d730ee3"), looks := false }, kinds := [], alts := [], laidByText := true, laidKinds := [.data, .data, .data, .data, .pinned], laidTests := true, laidLooks := .later }
def HeadBackCardSaid : Prop := Claim7.holds Tryd.pinned (.plain (OpenSpec.ofChange headBackSpec)) headBackCard

/-- THE SECOND FORM's CARD OF 'oakumlaw06.HeadMakes'. -/
def headMakesUptoCard : Claim7 := { stood := { row := headMakesUptoRow, standIns := [], harness := (true, "7cc3e169a1b962f54fd9304e64eba5ee4dfc5ef9300d1c5191bf08de0d730ee3"), looks := false }, kinds := [], alts := [], laidByText := true, laidKinds := [.data, .data, .data, .data, .pinned], laidTests := true, laidLooks := .later }
def HeadMakesUptoCardSaid : Prop := Claim7.holds Tryd.pinned (.plain (OpenSpec.upto headMakesSpec)) headMakesUptoCard

/-- THE SECOND FORM's CARD OF 'oakumlaw06.HeadGets'. -/
def headGetsUptoCard : Claim7 := { stood := { row := headGetsUptoRow, standIns := [], harness := (true, "7cc3e169a1b962f54fd9304e64eba5ee4dfc5ef9300d1c5191bf08de0d730ee3"), looks := false }, kinds := [], alts := [], laidByText := true, laidKinds := [.data, .data, .data, .data, .pinned], laidTests := true, laidLooks := .later }
def HeadGetsUptoCardSaid : Prop := Claim7.holds Tryd.pinned (.plain (OpenSpec.upto headGetsSpec)) headGetsUptoCard

/-- THE SECOND FORM's CARD OF 'oakumlaw06.HeadNumbers'. -/
def headNumbersUptoCard : Claim7 := { stood := { row := headNumbersUptoRow, standIns := [], harness := (true, "7cc3e169a1b962f54fd9304e64eba5ee4dfc5ef9300d1c5191bf08de0d730ee3"), looks := false }, kinds := [], alts := [], laidByText := true, laidKinds := [.data, .data, .data, .data, .pinned], laidTests := true, laidLooks := .later }
def HeadNumbersUptoCardSaid : Prop := Claim7.holds Tryd.pinned (.plain (OpenSpec.upto headNumbersSpec)) headNumbersUptoCard

/-- THE SECOND FORM's CARD OF 'oakumlaw06.HeadBack'. -/
def headBackUptoCard : Claim7 := { stood := { row := headBackUptoRow, standIns := [], harness := (true, "7cc3e169a1b962f54fd9304e64eba5ee4dfc5ef9300d1c5191bf08de0d730ee3"), looks := false }, kinds := [], alts := [], laidByText := true, laidKinds := [.data, .data, .data, .data, .pinned], laidTests := true, laidLooks := .later }
def HeadBackUptoCardSaid : Prop := Claim7.holds Tryd.pinned (.plain (OpenSpec.upto headBackSpec)) headBackUptoCard
end Rows
end Go.Proofs.YtoabboeongbloaaDoor
