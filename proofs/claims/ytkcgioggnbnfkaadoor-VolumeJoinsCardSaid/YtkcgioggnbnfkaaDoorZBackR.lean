/- The law VolumeBack: rows of volumes, their order changed. -/
import Derived.Test.YtkcgioggnbnfkaaDoorZJoinW
import Derived.Test.YtkcgioggnbnfkaaDoorZWS
set_option linter.unusedVariables false
set_option linter.unusedSimpArgs false
namespace Go.Proofs.YtkcgioggnbnfkaaDoor.BackP
end Go.Proofs.YtkcgioggnbnfkaaDoor.BackP
namespace Go.Proofs.YtkcgioggnbnfkaaDoor.BackR
open Go Go.RowKit Go.Proofs.YtkcgioggnbnfkaaDoorW.PrintWords Go.Proofs.YtkcgioggnbnfkaaDoorW.PrintLast Go.Proofs.YtkcgioggnbnfkaaDoorW.PrintMore Go.Proofs.YtkcgioggnbnfkaaDoorW.Mv Go.Proofs.YtkcgioggnbnfkaaDoorW.HKit Go.Proofs.YtkcgioggnbnfkaaDoorW.But Go.Proofs.YtkcgioggnbnfkaaDoorW.App Go.Proofs.YtkcgioggnbnfkaaDoorW.Rwb Go.Proofs.YtkcgioggnbnfkaaDoorW.Mps Go.Proofs.YtkcgioggnbnfkaaDoor.PVolumeJoins Go.Proofs.YtkcgioggnbnfkaaDoor.CrcA Go.Proofs.YtkcgioggnbnfkaaDoor.Crc Go.Proofs.YtkcgioggnbnfkaaDoor.NumP Go.Proofs.YtkcgioggnbnfkaaDoor.NumG Go.Proofs.YtkcgioggnbnfkaaDoor.Num Go.Proofs.YtkcgioggnbnfkaaDoor.Lab Go.Proofs.YtkcgioggnbnfkaaDoor.Read Go.Proofs.YtkcgioggnbnfkaaDoor.Open Go.Proofs.YtkcgioggnbnfkaaDoor.Vol Go.Proofs.YtkcgioggnbnfkaaDoor.Spl Go.Proofs.YtkcgioggnbnfkaaDoor.SetW Go.Proofs.YtkcgioggnbnfkaaDoor.WS Go.Proofs.YtkcgioggnbnfkaaDoor.JoinW Go.Proofs.YtkcgioggnbnfkaaDoor.BackP
/-- The cells of a row hold slices that read these bytes, in this world. -/
def PR (w : World) (cs : List Value) (P : List (List Int)) : Prop := cs.length = P.length ∧ ∀ r, ∀ h : r < cs.length, ∀ h2 : r < P.length, ∃ Ar Cr, cs[r] = .slice Ar P[r].length Cr ∧ P[r].length ≤ Cr ∧ Kd.C (Kd.int .u8) w Ar P[r].length P[r]
theorem PR.snoc {w : World} {cs : List Value} {P : List (List Int)} (h : PR w cs P) (A : Option Addr) (c : Nat) (x : List Int) (hc : x.length ≤ c) (hC : Kd.C (Kd.int .u8) w A x.length x) : PR w (cs ++ [.slice A x.length c]) (P ++ [x]) := by
  refine ⟨by simp [h.1], fun r hr h2 => ?_⟩
  by_cases hlt : r < cs.length
  · have h3 : r < P.length := by rw [← h.1]; exact hlt
    rw [List.getElem_append_left hlt, List.getElem_append_left h3]
    exact h.2 r hlt h3
  · have h1 : r = cs.length := by simp at hr; omega
    have h5 : (P ++ [x])[r]'h2 = x := by
      rw [List.getElem_append_right (by rw [h1, h.1]; exact Nat.le_refl _)]
      simp
    have h4 : (cs ++ [Value.slice A x.length c])[r]'hr = .slice A x.length c := by
      rw [List.getElem_append_right (by omega)]
      simp
    rw [h4, h5]
    exact ⟨A, c, rfl, hc, hC⟩
/-- A row of the call's own, of such cells. -/
theorem PR.rows {B b : Nat} {w W : World} {v : Value} {cs : List Value} {P : List (List Int)} (h : PR w cs P) (hv : W.ownsRow b 22 1 v P.length cs) (hb : Below w.heap.size w W) : ∃ A c, v = .slice A P.length c ∧ RowsB W A c P := by
  rcases hv.2 with ⟨rfl, h0⟩ | ⟨g, cap, cur, rfl, hg, hh, hnc, hcm, _⟩
  · obtain rfl : P = [] := List.eq_nil_of_length_eq_zero h0
    exact ⟨none, 0, rfl, Nat.le_refl _, by decide, fun h => absurd h (Nat.lt_irrefl _), fun a ha r hr => absurd hr (Nat.not_lt_zero _)⟩
  · refine ⟨some ⟨g, 0, none⟩, cap, rfl, hnc, hcm, fun _ => ⟨_, rfl⟩, fun a ha r hr => ?_⟩
    injection ha with ha
    subst ha
    have hr1 : r < cs.length := by rw [h.1]; exact hr
    obtain ⟨Ar, Cr, h1, h2, h3⟩ := h.2 r hr1 hr
    exact ⟨Ar, Cr, by have := hv.cells (g := g) rfl r cs[r] (List.getElem?_eq_getElem hr1); rw [this, h1], h2, Kd.C_below h3 hb⟩
end Go.Proofs.YtkcgioggnbnfkaaDoor.BackR
