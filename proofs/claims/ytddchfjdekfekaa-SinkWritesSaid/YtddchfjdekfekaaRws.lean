/- Laws over any program: a slice of slices of whole numbers that came in. -/
import Derived.Test.YtddchfjdekfekaaWWords
import Derived.Test.YtddchfjdekfekaaWLast
import Derived.Test.YtddchfjdekfekaaWMore
import Derived.Test.YtddchfjdekfekaaHKit
import Derived.Test.YtddchfjdekfekaaMv
set_option linter.unusedVariables false
set_option linter.unusedSimpArgs false
namespace Go.Proofs.YtddchfjdekfekaaW.Rws
open Go.RowKit Go.Proofs.YtddchfjdekfekaaW.PrintWords Go.Proofs.YtddchfjdekfekaaW.PrintLast Go.Proofs.YtddchfjdekfekaaW.PrintMore Go.Proofs.YtddchfjdekfekaaW.HKit Go.Proofs.YtddchfjdekfekaaW.Mv

/-- A slice of slices of whole numbers that came in. -/
def RowsAt (k : IntKind) (w : World) (A : Option Addr) (c : Nat) (xss : List (List Int)) : Prop :=
  (A = none → xss.length = 0 ∧ c = 0) ∧ xss.length ≤ c ∧ c ≤ 9223372036854775807 ∧ (0 < xss.length → ∃ a, A = some a) ∧ ∀ a, A = some a → ∀ r, ∀ h : r < xss.length, ∃ Ar Cr, w.cell? (a.add r) = some (.slice Ar (xss[r]).length Cr) ∧ (xss[r]).length ≤ Cr ∧
    (Ar = none → (xss[r]).length = 0 ∧ Cr = 0) ∧ Kd.C (Kd.int k) w Ar (xss[r]).length xss[r] ∧ (∀ x ∈ xss[r], (Lit.int k x).wf = true) ∧ Cr ≤ 140737488351232
theorem RowsAt.below {k : IntKind} {w w' : World} {A : Option Addr} {c : Nat} {xss : List (List Int)} (h : RowsAt k w A c xss) (hb : Below w.heap.size w w') : RowsAt k w' A c xss := by
  obtain ⟨h1, h2, h3, h4, h5⟩ := h
  refine ⟨h1, h2, h3, h4, fun a ha r hr => ?_⟩
  obtain ⟨Ar, Cr, k1, k2, k3, k4, k5⟩ := h5 a ha r hr
  exact ⟨Ar, Cr, pw_cell_below hb k1, k2, k3, Kd.C_below k4 hb, k5⟩
theorem RowsAt.at_ {k : IntKind} {w : World} {A : Option Addr} {c : Nat} {xss : List (List Int)} (h : RowsAt k w A c xss) (r : Nat) (hr : r < xss.length) : ∃ a Ar Cr, A = some a ∧ w.cell? (a.add r) = some (.slice Ar (xss[r]).length Cr) ∧ (xss[r]).length ≤ Cr ∧
    (Ar = none → (xss[r]).length = 0 ∧ Cr = 0) ∧ Kd.C (Kd.int k) w Ar (xss[r]).length xss[r] ∧ (∀ x ∈ xss[r], (Lit.int k x).wf = true) ∧ Cr ≤ 140737488351232 := by
  obtain ⟨h1, h2, h3, h4, h5⟩ := h
  obtain ⟨a, ha⟩ := h4 (by omega)
  obtain ⟨Ar, Cr, kk⟩ := h5 a ha r hr
  exact ⟨a, Ar, Cr, ha, kk⟩
/-- So many numbers in all rows. -/
def total (xss : List (List Int)) : Nat := (xss.map List.length).sum
theorem total_append (xss yss : List (List Int)) : total (xss ++ yss) = total xss + total yss := by simp [total]
/-- A row of slices of the call's own is such a slice of slices. -/
theorem rows_of_own {k : IntKind} {W : World} {b e : Nat} {v : Value} {xss : List (List Int)} {cs : List Value} (ho : W.ownsRow b e 1 v xss.length cs)
    (hx : ∀ r, ∀ h : r < xss.length, ∃ Ar Cr, cs[r]? = some (.slice Ar (xss[r]).length Cr) ∧ (xss[r]).length ≤ Cr ∧ (Ar = none → (xss[r]).length = 0 ∧ Cr = 0) ∧ Kd.C (Kd.int k) W Ar (xss[r]).length xss[r] ∧ (∀ x ∈ xss[r], (Lit.int k x).wf = true) ∧ Cr ≤ 140737488351232) :
    ∃ A c, v = .slice A xss.length c ∧ RowsAt k W A c xss := by
  rcases ho.2 with ⟨rfl, h0⟩ | ⟨g, cap, cur, rfl, hg, hh, hnc, hcm, _⟩
  · obtain rfl : xss = [] := List.eq_nil_of_length_eq_zero h0
    exact ⟨none, 0, rfl, fun _ => ⟨rfl, rfl⟩, Nat.le_refl _, by decide, fun h => absurd h (Nat.lt_irrefl _), fun a ha r hr => absurd hr (Nat.not_lt_zero _)⟩
  · refine ⟨some ⟨g, 0, none⟩, cap, rfl, fun h => (by cases h), hnc, hcm, fun _ => ⟨_, rfl⟩, fun a ha r hr => ?_⟩
    injection ha with ha
    subst ha
    obtain ⟨Ar, Cr, h1, h2⟩ := hx r hr
    exact ⟨Ar, Cr, ho.cells (g := g) rfl r _ h1, h2⟩

end Go.Proofs.YtddchfjdekfekaaW.Rws
