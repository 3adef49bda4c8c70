/- Slices of slices of numbers that came in: laws over any program. -/
import Derived.Test.YtkcgioggnbnfkaaDoorZWWords
import Derived.Test.YtkcgioggnbnfkaaDoorZWLast
import Derived.Test.YtkcgioggnbnfkaaDoorZWMore
import Derived.Test.YtkcgioggnbnfkaaDoorZHKit
import Derived.Test.YtkcgioggnbnfkaaDoorZRws
import Derived.Deep.Matrix
import Derived.SizedLaws
import Derived.ChangeSlices
set_option linter.unusedVariables false
set_option linter.unusedSimpArgs false
namespace Go.Proofs.YtkcgioggnbnfkaaDoorW.RwsO
open Go.RowKit Go.Proofs.YtkcgioggnbnfkaaDoorW.PrintWords Go.Proofs.YtkcgioggnbnfkaaDoorW.PrintLast Go.Proofs.YtkcgioggnbnfkaaDoorW.PrintMore Go.Proofs.YtkcgioggnbnfkaaDoorW.HKit Go.Proofs.YtkcgioggnbnfkaaDoorW.Rws

theorem weights_all {H : Type} {P : Program} {e : TypeId} {d : DataW H} {n : Nat} : ∀ {l : List (DataW H)}, d ∈ l → n ∈ d.weights P e → n ∈ DataW.weightsAll P e l
  | x :: l, hd, hn => by
    simp only [DataW.weightsAll, List.mem_append]
    rcases List.mem_cons.1 hd with rfl | hd
    · exact .inl hn
    · exact .inr (weights_all hd hn)
  | [], hd, _ => by simp at hd
/-- A slice of slices of whole numbers that came in, opened. -/
theorem rows_open {H : Type} {enc : TypeId × Value → H} {P : Program} {w : World} {base : Nat} {held : Bool} {t e q : TypeId} {k : IntKind} {a : Option Addr} {len cap : Nat} {d : DataW H} {ps : List MemPlace} {ts : List TypeId} {ds : List (DataW H)} {j : Nat}
    (ht : P.underlying t = some (.slice e)) (he : P.underlying e = some (.slice q)) (hq : P.underlying q = some (.int k)) (ce : P.cellsOf e = 1) (cq : P.cellsOf q = 1) (hB : 1 ≤ P.bytesOf q)
    (hsz : (DataW.weightsEach P ts ds).all (· ≤ reachBytes) = true) (hts : ts[j]? = some t) (hds : ds[j]? = some d) (h : DataW.Trod enc P w base (fun _ => true) held t (.slice a len cap) d ps) :
    ∃ xss : List (List Int), xss.length = len ∧ RowsAt k w a cap xss := by
  obtain ⟨fuel, hf⟩ := h
  rcases Go.Deep.open_int_rows ht he hq ce cq hf with ⟨hcs, _⟩ | ⟨x, l, c, A, L, C, Z, hcs, _, hl, hm, hx, hr⟩
  · simp [Value.cells] at hcs
    obtain ⟨rfl, rfl, rfl⟩ := hcs
    exact ⟨[], rfl, fun _ => ⟨rfl, rfl⟩, Nat.le_refl _, by decide, fun h => absurd h (Nat.lt_irrefl _), fun a ha r hr => absurd hr (Nat.not_lt_zero _)⟩
  · simp [Value.cells] at hcs
    obtain ⟨rfl, rfl, rfl⟩ := hcs
    have hlen : ((List.range len).map fun r => (Z r).take (L r)).length = len := by simp
    refine ⟨(List.range len).map fun r => (Z r).take (L r), hlen, fun h => by simp at h, by rw [hlen]; exact hl, hm, fun _ => ⟨x, rfl⟩, ?_⟩
    intro a' ha r hrr
    injection ha with ha
    subst ha
    have hr' : r < len := by rw [hlen] at hrr; exact hrr
    obtain ⟨h1, h2, h3, h4, h5, h6, h7⟩ := hr r (by omega)
    have hg : ((List.range len).map fun r => (Z r).take (L r))[r] = (Z r).take (L r) := by simp
    have htl : ((Z r).take (L r)).length = L r := by rw [List.length_take]; omega
    rw [hg, htl]
    have hCr : C r ≤ 140737488351232 := by
      rcases hAr : A r with _ | ar
      · rw [h6 hAr]; omega
      · obtain ⟨hx, _⟩ := Prod.mk.inj hx
        have hin : (Go.Deep.intRow (H := H) k (A r) (L r) (Z r)) ∈ (List.range len).map fun r => Go.Deep.intRow (H := H) k (A r) (L r) (Z r) := List.mem_map.2 ⟨r, List.mem_range.2 hr', rfl⟩
        have hw : (C r) * P.bytesOf q ∈ (Go.Deep.intRow (H := H) k (A r) (L r) (Z r)).weights P e := by
          rw [hAr]
          simp only [Go.Deep.intRow, DataW.weights, he, List.mem_cons]
          left
          congr 1
          simp [Go.ChangeShapes.lits, h4]
          omega
        have hin2 : (C r) * P.bytesOf q ∈ d.weights P t := by
          rw [hx]
          simp only [DataW.weights, ht, List.mem_cons, List.mem_append]
          exact .inr (.inl (weights_all hin hw))
        have := List.all_eq_true.1 hsz _ (DataW.weights_mem_each hts hds _ hin2)
        have h8 : C r * P.bytesOf q ≤ reachBytes := by simpa using this
        have h9 : C r * 1 ≤ C r * P.bytesOf q := Nat.mul_le_mul_left _ hB
        have h10 : reachBytes = 140737488351232 := by decide
        omega
    refine ⟨A r, C r, h1, h2, fun h => ⟨by have := h6 h; omega, h6 h⟩, ?_, fun y hy => h5 y (List.mem_of_mem_take hy), hCr⟩
    refine Kd.C_of_reads (enc := Value.int k) (d := (0 : Int)) (h1 := fun _ => rfl) ⟨htl, by omega, fun hp => ?_⟩
    rcases hAr : A r with _ | ar
    · have := h6 hAr; omega
    · refine ⟨ar, rfl, fun j hj => ?_⟩
      rw [(h7 ar hAr).2 j (by omega)]
      congr 2
      simp [List.getD_eq_getElem?_getD, List.getElem?_take, hj]

end Go.Proofs.YtkcgioggnbnfkaaDoorW.RwsO
