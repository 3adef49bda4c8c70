/- Laws over any program: a slice of bools that came in. -/
import Derived.Test.YtddchfjdekfekaaWWords
import Derived.Test.YtddchfjdekfekaaWLast
import Derived.Test.YtddchfjdekfekaaWMore
import Derived.Test.YtddchfjdekfekaaHKit
import Derived.Deep.Grids
set_option linter.unusedVariables false
set_option linter.unusedSimpArgs false
namespace Go.Proofs.YtddchfjdekfekaaW.Bls
open Go.RowKit Go.Proofs.YtddchfjdekfekaaW.PrintWords Go.Proofs.YtddchfjdekfekaaW.PrintLast Go.Proofs.YtddchfjdekfekaaW.PrintMore Go.Proofs.YtddchfjdekfekaaW.HKit

/-- A slice of bools that came in. -/
def BoolsAt (w : World) (A : Option Addr) (c : Nat) (bs : List Bool) : Prop :=
  bs.length ≤ c ∧ c ≤ 9223372036854775807 ∧ (0 < bs.length → ∃ a, A = some a) ∧ ∀ a, A = some a → ∀ r, ∀ h : r < bs.length, w.cell? (a.add r) = some (.bool bs[r])
theorem BoolsAt.below {w w' : World} {A : Option Addr} {c : Nat} {bs : List Bool} (h : BoolsAt w A c bs) (hb : Below w.heap.size w w') : BoolsAt w' A c bs :=
  ⟨h.1, h.2.1, h.2.2.1, fun a ha r hr => pw_cell_below hb (h.2.2.2 a ha r hr)⟩
theorem BoolsAt.at_ {w : World} {A : Option Addr} {c : Nat} {bs : List Bool} (h : BoolsAt w A c bs) (r : Nat) (hr : r < bs.length) : ∃ a, A = some a ∧ w.cell? (a.add r) = some (.bool bs[r]) := by
  obtain ⟨a, ha⟩ := h.2.2.1 (by omega)
  exact ⟨a, ha, h.2.2.2 a ha r hr⟩
theorem bools_open {H : Type} {enc : TypeId × Value → H} {P : Program} {w : World} {base : Nat} {held : Bool} {t e : TypeId} {a : Option Addr} {len cap : Nat} {d : DataW H} {ps : List MemPlace}
    (ht : P.underlying t = some (.slice e)) (he : P.underlying e = some .bool) (ce : P.cellsOf e = 1) (h : DataW.Trod enc P w base (fun _ => true) held t (.slice a len cap) d ps) : ∃ bs : List Bool, bs.length = len ∧ BoolsAt w a cap bs := by
  obtain ⟨fuel, hf⟩ := h
  rcases Go.Deep.open_bools ht he ce hf with ⟨hcs, _⟩ | ⟨x, l, c, B, hcs, _, hl, hm, _, hr⟩
  · simp [Value.cells] at hcs
    obtain ⟨rfl, rfl, rfl⟩ := hcs
    exact ⟨[], rfl, Nat.le_refl _, by decide, fun h => absurd h (Nat.lt_irrefl _), fun a ha r hr => absurd hr (Nat.not_lt_zero _)⟩
  · simp [Value.cells] at hcs
    obtain ⟨rfl, rfl, rfl⟩ := hcs
    have hlen : ((List.range len).map B).length = len := by simp
    refine ⟨(List.range len).map B, hlen, by rw [hlen]; exact hl, hm, fun _ => ⟨x, rfl⟩, fun a' ha r hrr => ?_⟩
    injection ha with ha
    subst ha
    rw [hlen] at hrr
    rw [hr r (by omega)]
    simp

end Go.Proofs.YtddchfjdekfekaaW.Bls
