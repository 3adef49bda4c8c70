/- Laws over any program: a slice of slices of whole numbers that came in. -/
import Derived.Test.YtddchfjdekfekaaWWords
import Derived.Test.YtddchfjdekfekaaWLast
import Derived.Test.YtddchfjdekfekaaWMore
import Derived.Test.YtddchfjdekfekaaHKit
import Derived.Test.YtddchfjdekfekaaMv
set_option linter.unusedVariables false
set_option linter.unusedSimpArgs false
namespace Go.Proofs.YtddchfjdekfekaaW.Rws
open Go.RowKit Go.Proofs.YtddchfjdekfekaaW.PrintWords Go.Proofs.YtddchfjdekfekaaW.PrintLast Go.Proofs.YtddchfjdekfekaaW.PrintMore Go.Proofs.YtddchfjdekfekaaW.HKit Go.Proofs.YtddchfjdekfekaaW.Mv

/-- A slice of slices of whole numbers that came in. -/
def RowsAt (k : IntKind) (w : World) (A : Option Addr) (c : Nat) (xss : List (List Int)) : Prop :=
  (A = none → xss.length = 0 ∧ c = 0) ∧ xss.length ≤ c ∧ c ≤ 9223372036854775807 ∧ (0 < xss.length → ∃ a, A = some a) ∧ ∀ a, A = some a → ∀ r, ∀ h : r < xss.length, ∃ Ar Cr, w.cell? (a.add r) = some (.slice Ar (xss[r]).length Cr) ∧ (xss[r]).length ≤ Cr ∧
    (Ar = none → (xss[r]).length = 0 ∧ Cr = 0) ∧ Kd.C (Kd.int k) w Ar (xss[r]).length xss[r] ∧ (∀ x ∈ xss[r], (Lit.int k x).wf = true) ∧ Cr ≤ 140737488351232
theorem RowsAt.below {k : IntKind} {w w' : World} {A : Option Addr} {c : Nat} {xss : List (List Int)} (h : RowsAt k w A c xss) (hb : Below w.heap.size w w') : RowsAt k w' A c xss := by
  obtain ⟨h1, h2, h3, h4, h5⟩ := h
  refine ⟨h1, h2, h3, h4, fun a ha r hr => ?_⟩
  obtain ⟨Ar, Cr, k1, k2, k3, k4, k5⟩ := h5 a ha r hr
  exact ⟨Ar, Cr, pw_cell_below hb k1, k2, k3, Kd.C_below k4 hb, k5⟩
theorem RowsAt.at_ {k : IntKind} {w : World} {A : Option Addr} {c : Nat} {xss : List (List Int)} (h : RowsAt k w A c xss) (r : Nat) (hr : r < xss.length) : ∃ a Ar Cr, A = some a ∧ w.cell? (a.add r) = some (.slice Ar (xss[r]).length Cr) ∧ (xss[r]).length ≤ Cr ∧
    (Ar = none → (xss[r]).length = 0 ∧ Cr = 0) ∧ Kd.C (Kd.int k) w Ar (xss[r]).length xss[r] ∧ (∀ x ∈ xss[r], (Lit.int k x).wf = true) ∧ Cr ≤ 140737488351232 := by
  obtain ⟨h1, h2, h3, h4, h5⟩ := h
  obtain ⟨a, ha⟩ := h4 (by omega)
  obtain ⟨Ar, Cr, kk⟩ := h5 a ha r hr
  exact ⟨a, Ar, Cr, ha, kk⟩
/-- So many numbers in all rows. -/
def total (xss : List (List Int)) : Nat := (xss.map List.length).sum
theorem total_append (xss yss : List (List Int)) : total (xss ++ yss) = total xss + total yss := by simp [total]

end Go.Proofs.YtddchfjdekfekaaW.Rws
