/- Slices of strings that come in. -/
import Derived.Test.YtfoenpdfmhmkiaaWWords
import Derived.Test.YtfoenpdfmhmkiaaWLast
import Derived.Test.YtfoenpdfmhmkiaaWMore
import Derived.Test.YtfoenpdfmhmkiaaHKit
import Derived.SliceStrings
set_option linter.unusedVariables false
set_option linter.unusedSimpArgs false
namespace Go.Proofs.YtfoenpdfmhmkiaaW.Strs
open Go.RowKit Go.Proofs.YtfoenpdfmhmkiaaW.PrintWords Go.Proofs.YtfoenpdfmhmkiaaW.PrintLast Go.Proofs.YtfoenpdfmhmkiaaW.PrintMore Go.Proofs.YtfoenpdfmhmkiaaW.HKit

/-- A slice of strings that came in. -/
def StrsAt (w : World) (A : Option Addr) (c : Nat) (xs : List ByteArray) : Prop :=
  xs.length ≤ c ∧ c ≤ 9223372036854775807 ∧ (0 < xs.length → ∃ a, A = some a) ∧ (∀ a, A = some a → ∀ r, ∀ h : r < xs.length, w.cell? (a.add r) = some (.string xs[r])) ∧ ∀ s ∈ xs, s.size ≤ 9223372036854775807
theorem StrsAt.below {w w' : World} {A : Option Addr} {c : Nat} {xs : List ByteArray} (h : StrsAt w A c xs) (hb : Below w.heap.size w w') : StrsAt w' A c xs :=
  ⟨h.1, h.2.1, h.2.2.1, fun a ha r hr => pw_cell_below hb (h.2.2.2.1 a ha r hr), h.2.2.2.2⟩
theorem StrsAt.at_ {w : World} {A : Option Addr} {c : Nat} {xs : List ByteArray} (h : StrsAt w A c xs) (r : Nat) (hr : r < xs.length) : ∃ a, A = some a ∧ w.cell? (a.add r) = some (.string xs[r]) := by
  obtain ⟨a, ha⟩ := h.2.2.1 (by omega)
  exact ⟨a, ha, h.2.2.2.1 a ha r hr⟩
theorem strs_open {H : Type} {enc : TypeId × Value → H} {P : Program} {w : World} {base : Nat} {held : Bool} {t e : TypeId} {a : Option Addr} {len cap : Nat} {d : DataW H} {ps : List MemPlace}
    (ht : P.underlying t = some (.slice e)) (he : P.underlying e = some .string) (ce : P.cellsOf e = 1) (h : DataW.Trod enc P w base (fun _ => true) held t (.slice a len cap) d ps) : ∃ xs : List ByteArray, xs.length = len ∧ StrsAt w a cap xs := by
  obtain ⟨fuel, hf⟩ := h
  rcases Go.ChangeShapes.open_strings ht he ce hf with ⟨hcs, _⟩ | ⟨x, l, c, ss, hcs, _, hl, hm, hn, _, hr, hz⟩
  · simp [Value.cells] at hcs
    obtain ⟨rfl, rfl, rfl⟩ := hcs
    exact ⟨[], rfl, Nat.le_refl _, by decide, fun h => absurd h (Nat.lt_irrefl _), fun a ha r hr => absurd hr (Nat.not_lt_zero _), fun s hs => absurd hs (by simp)⟩
  · simp [Value.cells] at hcs
    obtain ⟨rfl, rfl, rfl⟩ := hcs
    have hn' : ss.length = cap := by simpa using hn
    have hlen : (ss.take len).length = len := by rw [List.length_take]; omega
    refine ⟨ss.take len, hlen, by rw [hlen]; exact hl, hm, fun _ => ⟨x, rfl⟩, fun a' ha r hrr => ?_, fun s hs => hz s (List.mem_of_mem_take hs)⟩
    injection ha with ha
    subst ha
    rw [hlen] at hrr
    rw [hr r (by omega)]
    congr 2
    simp [List.getD_eq_getElem?_getD, List.getElem?_eq_getElem (show r < ss.length by omega)]

end Go.Proofs.YtfoenpdfmhmkiaaW.Strs
