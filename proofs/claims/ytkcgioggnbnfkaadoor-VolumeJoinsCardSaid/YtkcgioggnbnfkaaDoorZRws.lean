/- Slices of slices of numbers: laws over any program. -/
import Derived.Test.YtkcgioggnbnfkaaDoorZWWords
import Derived.Test.YtkcgioggnbnfkaaDoorZWLast
import Derived.Test.YtkcgioggnbnfkaaDoorZWMore
import Derived.Test.YtkcgioggnbnfkaaDoorZHKit
import Derived.Test.YtkcgioggnbnfkaaDoorZKA
set_option linter.unusedVariables false
set_option linter.unusedSimpArgs false
namespace Go.Proofs.YtkcgioggnbnfkaaDoorW.Rws
open Go.RowKit Go.Proofs.YtkcgioggnbnfkaaDoorW.PrintWords Go.Proofs.YtkcgioggnbnfkaaDoorW.PrintLast Go.Proofs.YtkcgioggnbnfkaaDoorW.PrintMore Go.Proofs.YtkcgioggnbnfkaaDoorW.HKit Go.Proofs.YtkcgioggnbnfkaaDoorW.Mv

/-- A slice of slices of whole numbers that came in. -/
def RowsAt (k : IntKind) (w : World) (A : Option Addr) (c : Nat) (xss : List (List Int)) : Prop :=
  (A = none → xss.length = 0 ∧ c = 0) ∧ xss.length ≤ c ∧ c ≤ 9223372036854775807 ∧ (0 < xss.length → ∃ a, A = some a) ∧ ∀ a, A = some a → ∀ r, ∀ h : r < xss.length, ∃ Ar Cr, w.cell? (a.add r) = some (.slice Ar (xss[r]).length Cr) ∧ (xss[r]).length ≤ Cr ∧
    (Ar = none → (xss[r]).length = 0 ∧ Cr = 0) ∧ Kd.C (Kd.int k) w Ar (xss[r]).length xss[r] ∧ (∀ x ∈ xss[r], (Lit.int k x).wf = true) ∧ Cr ≤ 140737488351232
theorem RowsAt.at_ {k : IntKind} {w : World} {A : Option Addr} {c : Nat} {xss : List (List Int)} (h : RowsAt k w A c xss) (r : Nat) (hr : r < xss.length) : ∃ a Ar Cr, A = some a ∧ w.cell? (a.add r) = some (.slice Ar (xss[r]).length Cr) ∧ (xss[r]).length ≤ Cr ∧
    (Ar = none → (xss[r]).length = 0 ∧ Cr = 0) ∧ Kd.C (Kd.int k) w Ar (xss[r]).length xss[r] ∧ (∀ x ∈ xss[r], (Lit.int k x).wf = true) ∧ Cr ≤ 140737488351232 := by
  obtain ⟨h1, h2, h3, h4, h5⟩ := h
  obtain ⟨a, ha⟩ := h4 (by omega)
  obtain ⟨Ar, Cr, kk⟩ := h5 a ha r hr
  exact ⟨a, Ar, Cr, ha, kk⟩
/-- So many numbers in all rows. -/
def total (xss : List (List Int)) : Nat := (xss.map List.length).sum
theorem total_append (xss yss : List (List Int)) : total (xss ++ yss) = total xss + total yss := by simp [total]
end Go.Proofs.YtkcgioggnbnfkaaDoorW.Rws
