/- A date that came in, by value. -/
import Derived.Test.YtkjglhehlkjfgaaDoorHandD
import Derived.Deep.Fields
import Derived.ChangeArms
import Derived.WideShapes
set_option linter.unusedVariables false
set_option linter.unusedSimpArgs false
namespace Go.Proofs.YtkjglhehlkjfgaaDoor.Hand
open Go.RowKit
/-- A struct by value that came in, each field one cell: its cells, and each field's own reading. -/
theorem agg_open {H : Type} {enc : TypeId × Value → H} {P : Program} {w : World} {base b0 : Nat} {spare : Nat → Bool} {held : Bool} {r : Reach} {t : TypeId} {fs : Array Field} {v : Value} {d : DataW H} {p : List MemPlace}
    (hs : P.underlying t = some (.struct fs)) (hone : Go.Deep.oneCellFields P fs = true) (hC : P.cellsOf t = fs.size) (hv : Value.okWide P w r b0 t v) (h : DataW.Trod enc P w base spare held t v d p) :
    ∃ cs : Array Value, v = .agg cs ∧ cs.size = fs.size ∧ ∀ (i : Nat) (f : Field), fs[i]? = some f → ∃ u y n, cs[i]? = some u ∧ DataW.trod enc P w base spare held n f.type [u] = some y := by
  obtain ⟨cs, rfl, hsz⟩ := Go.WideShapes.okWide_struct hs hv
  rw [hC] at hsz
  refine ⟨cs, rfl, hsz, fun i f hf => ?_⟩
  obtain ⟨fuel, hf'⟩ := h
  obtain ⟨xs, n, _, hx, hc, hlen, hg⟩ := DataW.trod_struct hs hf'
  obtain ⟨ho, hk⟩ := Go.Deep.hone_of hone i f hf
  have hi : i < fs.size := (Array.getElem?_eq_some_iff.1 hf).1
  have hic : i < cs.size := by omega
  have h1 := hg i f hf
  rw [ho, hk] at h1
  have hone1 : ((Value.agg cs).cells.toList.drop i).take 1 = [cs[i]'hic] := by
    show (cs.toList.drop i).take 1 = _
    rw [List.drop_eq_getElem_cons (by simpa using hic)]
    simp
  rw [hone1] at h1
  have hxi : i < xs.length := by omega
  exact ⟨cs[i]'hic, xs[i]'hxi, n, Array.getElem?_eq_getElem hic, h1.trans (List.getElem?_eq_getElem hxi)⟩
theorem wf_bd {n : Int} (h : (Lit.int .i64 n).wf = true) : -9223372036854775808 ≤ n ∧ n ≤ 9223372036854775807 := by
  simp [Lit.wf, IntKind.min, IntKind.max, IntKind.signed, IntKind.bits] at h
  omega
set_option maxRecDepth 100000 in
theorem date_open {H : Type} {enc : TypeId × Value → H} {w : World} {base b0 : Nat} {spare : Nat → Bool} {held : Bool} {r : Reach} {v : Value} {d : DataW H} {p : List MemPlace}
    (hv : Value.okWide Tryd.prog w r b0 23 v) (h : DataW.Trod enc Tryd.prog w base spare held 23 v d p) :
    ∃ Y M D h m s : Int, v = .agg #[.int .i64 Y, .int .i64 M, .int .i64 D, .int .i64 h, .int .i64 m, .int .i64 s] ∧ (-9223372036854775808 ≤ Y ∧ Y ≤ 9223372036854775807) := by
  obtain ⟨cs, rfl, hsz, hf⟩ := agg_open Tryd.underlying23 (by kernel_rfl) (by kernel_rfl) hv h
  obtain ⟨u0, y0, n0, c0, t0⟩ := hf 0 _ rfl
  obtain ⟨u1, y1, n1, c1, t1⟩ := hf 1 _ rfl
  obtain ⟨u2, y2, n2, c2, t2⟩ := hf 2 _ rfl
  obtain ⟨u3, y3, n3, c3, t3⟩ := hf 3 _ rfl
  obtain ⟨u4, y4, n4, c4, t4⟩ := hf 4 _ rfl
  obtain ⟨u5, y5, n5, c5, t5⟩ := hf 5 _ rfl
  obtain ⟨a0, e0, _, w0⟩ := DataW.trod_int Tryd.underlying2 t0
  obtain ⟨a1, e1, _, _⟩ := DataW.trod_int Tryd.underlying2 t1
  obtain ⟨a2, e2, _, _⟩ := DataW.trod_int Tryd.underlying2 t2
  obtain ⟨a3, e3, _, _⟩ := DataW.trod_int Tryd.underlying2 t3
  obtain ⟨a4, e4, _, _⟩ := DataW.trod_int Tryd.underlying2 t4
  obtain ⟨a5, e5, _, _⟩ := DataW.trod_int Tryd.underlying2 t5
  injection e0 with e0; injection e1 with e1; injection e2 with e2; injection e3 with e3; injection e4 with e4; injection e5 with e5
  subst e0 e1 e2 e3 e4 e5
  refine ⟨a0, a1, a2, a3, a4, a5, ?_, wf_bd w0⟩
  congr 1
  apply Array.ext_getElem?
  intro i
  match i with
  | 0 => exact c0
  | 1 => exact c1
  | 2 => exact c2
  | 3 => exact c3
  | 4 => exact c4
  | 5 => exact c5
  | k + 6 =>
    rw [Array.getElem?_eq_none (by rw [hsz]; simp), Array.getElem?_eq_none (by simp)]
end Go.Proofs.YtkjglhehlkjfgaaDoor.Hand
