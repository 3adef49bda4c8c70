/-
  DERIVED. GIVEN WITH THE SEED: THE CARDS: each row of YtkjglhehlkjfgaaDoorRows.lean that lists a variable, with what it lists TIED to the program's text (the seventh form; the later family's looks); each row that meets fmt, with fmt's text TOLD by the authors' own Lean function (tested against real Go, not proved from fmt's source: count such statements apart). THE CARD IS WHAT COUNTS. Prove the row's statement (the work); the ties are given (YtkjglhehlkjfgaaDoorTie.lean); close each card by the builder's one call (the guide's Derived/Test/ToyasCard.lean, 'card_holds'). Laid BY PROGRAM, IN A SANDBOX (cutbox-door.mjs). By AI agents, Wed Nov 11 2026. No macro, syntax, notation, axiom, sorry.
-/
import Derived.Test.YtkjglhehlkjfgaaDoorRows
import GoSem.ClaimSeven
namespace Go.Proofs.YtkjglhehlkjfgaaDoor
namespace Rows

/-- THE TIED CARD OF 'oakumlaw22.CivilSeconds'. -/
def civilSecondsCard : Claim7 := { stood := { row := civilSecondsRow, standIns := [], harness := (true, "57c9b78d7ebde363ea5c10c59a15e8ed1d5cf05e2b33dfef3267b29d6062c91a"), looks := true }, kinds := [], alts := [], laidByText := true, laidKinds := [.data, .data, .data, .sentinel, .sentinel], laidTests := true, laidLooks := .later }
def CivilSecondsCardSaid : Prop := Claim7.holds Tryd.pinned (.plain (OpenSpec.ofChange civilSecondsSpec)) civilSecondsCard

/-- THE TIED CARD OF 'oakumlaw22.CivilParses'. -/
def civilParsesCard : Claim7 := { stood := { row := civilParsesRow, standIns := [], harness := (true, "57c9b78d7ebde363ea5c10c59a15e8ed1d5cf05e2b33dfef3267b29d6062c91a"), looks := true }, kinds := [], alts := [], laidByText := true, laidKinds := [.data, .data, .data, .sentinel, .sentinel], laidTests := true, laidLooks := .later }
def CivilParsesCardSaid : Prop := Claim7.holds Tryd.pinned (.plain (OpenSpec.ofChange civilParsesSpec)) civilParsesCard

/-- THE TIED CARD OF 'oakumlaw22.CivilNext'. -/
def civilNextCard : Claim7 := { stood := { row := civilNextRow, standIns := [], harness := (true, "57c9b78d7ebde363ea5c10c59a15e8ed1d5cf05e2b33dfef3267b29d6062c91a"), looks := true }, kinds := [], alts := [], laidByText := true, laidKinds := [.data, .data, .data, .sentinel, .sentinel], laidTests := true, laidLooks := .later }
def CivilNextCardSaid : Prop := Claim7.holds Tryd.pinned (.plain (OpenSpec.ofChange civilNextSpec)) civilNextCard

/-- THE TIED CARD OF 'oakumlaw22.CivilOf'. -/
def civilOfCard : Claim7 := { stood := { row := civilOfRow, standIns := [], harness := (true, "57c9b78d7ebde363ea5c10c59a15e8ed1d5cf05e2b33dfef3267b29d6062c91a"), looks := true }, kinds := [], alts := [], laidByText := true, laidKinds := [.data, .data, .data, .sentinel, .sentinel], laidTests := true, laidLooks := .later }
def CivilOfCardSaid : Prop := Claim7.holds Tryd.pinned (.plain (OpenSpec.ofChange civilOfSpec)) civilOfCard

/-- THE SECOND FORM's CARD OF 'oakumlaw22.CivilSeconds'. -/
def civilSecondsUptoCard : Claim7 := { stood := { row := civilSecondsUptoRow, standIns := [], harness := (true, "57c9b78d7ebde363ea5c10c59a15e8ed1d5cf05e2b33dfef3267b29d6062c91a"), looks := true }, kinds := [], alts := [], laidByText := true, laidKinds := [.data, .data, .data, .sentinel, .sentinel], laidTests := true, laidLooks := .later }
def CivilSecondsUptoCardSaid : Prop := Claim7.holds Tryd.pinned (.plain (OpenSpec.upto civilSecondsSpec)) civilSecondsUptoCard

/-- THE SECOND FORM's CARD OF 'oakumlaw22.CivilParses'. -/
def civilParsesUptoCard : Claim7 := { stood := { row := civilParsesUptoRow, standIns := [], harness := (true, "57c9b78d7ebde363ea5c10c59a15e8ed1d5cf05e2b33dfef3267b29d6062c91a"), looks := true }, kinds := [], alts := [], laidByText := true, laidKinds := [.data, .data, .data, .sentinel, .sentinel], laidTests := true, laidLooks := .later }
def CivilParsesUptoCardSaid : Prop := Claim7.holds Tryd.pinned (.plain (OpenSpec.upto civilParsesSpec)) civilParsesUptoCard

/-- THE SECOND FORM's CARD OF 'oakumlaw22.CivilNext'. -/
def civilNextUptoCard : Claim7 := { stood := { row := civilNextUptoRow, standIns := [], harness := (true, "57c9b78d7ebde363ea5c10c59a15e8ed1d5cf05e2b33dfef3267b29d6062c91a"), looks := true }, kinds := [], alts := [], laidByText := true, laidKinds := [.data, .data, .data, .sentinel, .sentinel], laidTests := true, laidLooks := .later }
def CivilNextUptoCardSaid : Prop := Claim7.holds Tryd.pinned (.plain (OpenSpec.upto civilNextSpec)) civilNextUptoCard

/-- THE SECOND FORM's CARD OF 'oakumlaw22.CivilOf'. -/
def civilOfUptoCard : Claim7 := { stood := { row := civilOfUptoRow, standIns := [], harness := (true, "57c9b78d7ebde363ea5c10c59a15e8ed1d5cf05e2b33dfef3267b29d6062c91a"), looks := true }, kinds := [], alts := [], laidByText := true, laidKinds := [.data, .data, .data, .sentinel, .sentinel], laidTests := true, laidLooks := .later }
def CivilOfUptoCardSaid : Prop := Claim7.holds Tryd.pinned (.plain (OpenSpec.upto civilOfSpec)) civilOfUptoCard
end Rows
end Go.Proofs.YtkjglhehlkjfgaaDoor
