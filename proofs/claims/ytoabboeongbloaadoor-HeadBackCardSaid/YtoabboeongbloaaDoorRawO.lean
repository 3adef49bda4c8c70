/- A header that came in, by value. -/
import Derived.Test.YtoabboeongbloaaDoorMK
import Derived.Deep.Fields
import Derived.ChangeArms
import Derived.WideShapes
import Derived.SizedLaws
set_option linter.unusedVariables false
set_option linter.unusedSimpArgs false
namespace Go.Proofs.YtoabboeongbloaaDoor.Maker
open Go.RowKit
/-- A struct by value that came in, each field one cell: its cells, each field's own reading, and the datum. -/
theorem agg_open {H : Type} {enc : TypeId × Value → H} {P : Program} {w : World} {base b0 : Nat} {spare : Nat → Bool} {held : Bool} {r : Reach} {t : TypeId} {fs : Array Field} {v : Value} {d : DataW H} {p : List MemPlace}
    (hs : P.underlying t = some (.struct fs)) (hone : Go.Deep.oneCellFields P fs = true) (hC : P.cellsOf t = fs.size) (hv : Value.okWide P w r b0 t v) (h : DataW.Trod enc P w base spare held t v d p) :
    ∃ (cs : Array Value) (ds : List (DataW H)), v = .agg cs ∧ cs.size = fs.size ∧ d = .agg ds ∧ ∀ (i : Nat) (f : Field), fs[i]? = some f → ∃ u y n, cs[i]? = some u ∧ ds[i]? = some y.1 ∧ DataW.trod enc P w base spare held n f.type [u] = some y := by
  obtain ⟨cs, rfl, hsz⟩ := Go.WideShapes.okWide_struct hs hv
  rw [hC] at hsz
  obtain ⟨fuel, hf'⟩ := h
  obtain ⟨xs, n, _, hx, hc, hlen, hg⟩ := DataW.trod_struct hs hf'
  have hd : d = .agg (xs.map (·.1)) := congrArg Prod.fst hx
  refine ⟨cs, xs.map (·.1), rfl, hsz, hd, fun i f hf => ?_⟩
  obtain ⟨ho, hk⟩ := Go.Deep.hone_of hone i f hf
  have hi : i < fs.size := (Array.getElem?_eq_some_iff.1 hf).1
  have hic : i < cs.size := by omega
  have h1 := hg i f hf
  rw [ho, hk] at h1
  have hone1 : ((Value.agg cs).cells.toList.drop i).take 1 = [cs[i]'hic] := by
    show (cs.toList.drop i).take 1 = _
    rw [List.drop_eq_getElem_cons (by simpa using hic)]
    simp
  rw [hone1] at h1
  have hxi : i < xs.length := by omega
  exact ⟨cs[i]'hic, xs[i]'hxi, n, Array.getElem?_eq_getElem hic, by rw [List.getElem?_map, List.getElem?_eq_getElem hxi]; rfl, h1.trans (List.getElem?_eq_getElem hxi)⟩
theorem wf_bd {n : Int} (h : (Lit.int .i64 n).wf = true) : -9223372036854775808 ≤ n ∧ n ≤ 9223372036854775807 := by
  simp [Lit.wf, IntKind.min, IntKind.max, IntKind.signed, IntKind.bits] at h
  omega
theorem wf_b8 {n : Int} (h : (Lit.int .u8 n).wf = true) : 0 ≤ n ∧ n ≤ 255 := by
  simp [Lit.wf, IntKind.min, IntKind.max, IntKind.signed, IntKind.bits] at h
  omega
def RawIn (r : Raw) : Prop := (0 ≤ r.flag ∧ r.flag ≤ 255) ∧ (-9223372036854775808 ≤ r.mark ∧ r.mark ≤ 9223372036854775807) ∧ (∀ n, n = r.mode ∨ n = r.uid ∨ n = r.gid ∨ n = r.size ∨ n = r.time ∨ n = r.major ∨ n = r.minor → -9223372036854775808 ≤ n ∧ n ≤ 9223372036854775807) ∧ (r.name.size ≤ 140737488355328 ∧ r.link.size ≤ 140737488355328 ∧ r.pre.size ≤ 140737488355328 ∧ r.user.size ≤ 140737488355328 ∧ r.group.size ≤ 140737488355328)
theorem sized_part {H : Type} {P : Program} {ts : List TypeId} {ds : List (DataW H)} {fs : Array Field} {parts : List (DataW H)} {t : TypeId} {j i : Nat} {f : Field} {bytes : List UInt8} (h : (DataW.weightsEach P ts ds).all (· ≤ reachBytes) = true) (ht : ts[j]? = some t) (hd : ds[j]? = some (.agg parts)) (hu : P.underlying t = some (.struct fs)) (hf : fs[i]? = some f) (hp : parts[i]? = some (.lit (.string bytes))) : bytes.length ≤ reachBytes := by
  have h1 : bytes.length ∈ DataW.weightsEach P (fs.toList.map (·.type)) parts := DataW.weights_mem_each (j := i) (t := f.type) (by simp [hf]) hp _ (by simp [DataW.weights])
  have := List.all_eq_true.1 h _ (DataW.weights_mem_each ht hd bytes.length (by simpa [DataW.weights, hu] using h1))
  simpa using this
set_option maxRecDepth 100000 in
set_option maxHeartbeats 1000000 in
theorem raw_open {H : Type} {enc : TypeId × Value → H} {w : World} {base b0 : Nat} {spare : Nat → Bool} {held : Bool} {q : Reach} {v : Value} {d : DataW H} {p : List MemPlace} {ts : List TypeId} {ds : List (DataW H)} {j : Nat}
    (hsz : (DataW.weightsEach Tryd.prog ts ds).all (· ≤ reachBytes) = true) (htj : ts[j]? = some 23) (hdj : ds[j]? = some d) (hv : Value.okWide Tryd.prog w q b0 23 v) (h : DataW.Trod enc Tryd.prog w base spare held 23 v d p) :
    ∃ r : Raw, v = .agg (rawC r) ∧ RawIn r := by
  obtain ⟨cs, parts, rfl, hsc, rfl, hf⟩ := agg_open Tryd.underlying23 (by kernel_rfl) (by kernel_rfl) hv h
  obtain ⟨u0, y0, n0, c0, q0, t0⟩ := hf 0 _ rfl
  obtain ⟨u1, y1, n1, c1, q1, t1⟩ := hf 1 _ rfl
  obtain ⟨u2, y2, n2, c2, q2, t2⟩ := hf 2 _ rfl
  obtain ⟨u3, y3, n3, c3, q3, t3⟩ := hf 3 _ rfl
  obtain ⟨u4, y4, n4, c4, q4, t4⟩ := hf 4 _ rfl
  obtain ⟨u5, y5, n5, c5, q5, t5⟩ := hf 5 _ rfl
  obtain ⟨u6, y6, n6, c6, q6, t6⟩ := hf 6 _ rfl
  obtain ⟨u7, y7, n7, c7, q7, t7⟩ := hf 7 _ rfl
  obtain ⟨u8, y8, n8, c8, q8, t8⟩ := hf 8 _ rfl
  obtain ⟨u9, y9, n9, c9, q9, t9⟩ := hf 9 _ rfl
  obtain ⟨u10, y10, n10, c10, q10, t10⟩ := hf 10 _ rfl
  obtain ⟨u11, y11, n11, c11, q11, t11⟩ := hf 11 _ rfl
  obtain ⟨u12, y12, n12, c12, q12, t12⟩ := hf 12 _ rfl
  obtain ⟨u13, y13, n13, c13, q13, t13⟩ := hf 13 _ rfl
  obtain ⟨a0, e0, x0, w0⟩ := DataW.trod_int Tryd.underlying3 t0
  obtain ⟨a1, e1, x1, w1⟩ := DataW.trod_int Tryd.underlying5 t1
  obtain ⟨a2, e2, x2, w2⟩ := DataW.trod_string Tryd.underlying9 t2
  obtain ⟨a3, e3, x3, w3⟩ := DataW.trod_string Tryd.underlying9 t3
  obtain ⟨a4, e4, x4, w4⟩ := DataW.trod_string Tryd.underlying9 t4
  obtain ⟨a5, e5, x5, w5⟩ := DataW.trod_string Tryd.underlying9 t5
  obtain ⟨a6, e6, x6, w6⟩ := DataW.trod_string Tryd.underlying9 t6
  obtain ⟨a7, e7, x7, w7⟩ := DataW.trod_int Tryd.underlying2 t7
  obtain ⟨a8, e8, x8, w8⟩ := DataW.trod_int Tryd.underlying2 t8
  obtain ⟨a9, e9, x9, w9⟩ := DataW.trod_int Tryd.underlying2 t9
  obtain ⟨a10, e10, x10, w10⟩ := DataW.trod_int Tryd.underlying2 t10
  obtain ⟨a11, e11, x11, w11⟩ := DataW.trod_int Tryd.underlying2 t11
  obtain ⟨a12, e12, x12, w12⟩ := DataW.trod_int Tryd.underlying2 t12
  obtain ⟨a13, e13, x13, w13⟩ := DataW.trod_int Tryd.underlying2 t13
  injection e0 with e0
  injection e1 with e1
  injection e2 with e2
  injection e3 with e3
  injection e4 with e4
  injection e5 with e5
  injection e6 with e6
  injection e7 with e7
  injection e8 with e8
  injection e9 with e9
  injection e10 with e10
  injection e11 with e11
  injection e12 with e12
  injection e13 with e13
  subst e0 e1 e2 e3 e4 e5 e6 e7 e8 e9 e10 e11 e12 e13
  have z2 : a2.size ≤ 140737488355328 := by
    have hz := sized_part hsz htj hdj Tryd.underlying23 (i := 2) rfl (bytes := a2.data.toList) (by rw [q2, x2])
    have h0 := reachBytes_lt
    rw [Array.length_toList] at hz
    have h1 : a2.size ≤ reachBytes := hz
    omega
  have z3 : a3.size ≤ 140737488355328 := by
    have hz := sized_part hsz htj hdj Tryd.underlying23 (i := 3) rfl (bytes := a3.data.toList) (by rw [q3, x3])
    have h0 := reachBytes_lt
    rw [Array.length_toList] at hz
    have h1 : a3.size ≤ reachBytes := hz
    omega
  have z4 : a4.size ≤ 140737488355328 := by
    have hz := sized_part hsz htj hdj Tryd.underlying23 (i := 4) rfl (bytes := a4.data.toList) (by rw [q4, x4])
    have h0 := reachBytes_lt
    rw [Array.length_toList] at hz
    have h1 : a4.size ≤ reachBytes := hz
    omega
  have z5 : a5.size ≤ 140737488355328 := by
    have hz := sized_part hsz htj hdj Tryd.underlying23 (i := 5) rfl (bytes := a5.data.toList) (by rw [q5, x5])
    have h0 := reachBytes_lt
    rw [Array.length_toList] at hz
    have h1 : a5.size ≤ reachBytes := hz
    omega
  have z6 : a6.size ≤ 140737488355328 := by
    have hz := sized_part hsz htj hdj Tryd.underlying23 (i := 6) rfl (bytes := a6.data.toList) (by rw [q6, x6])
    have h0 := reachBytes_lt
    rw [Array.length_toList] at hz
    have h1 : a6.size ≤ reachBytes := hz
    omega
  refine ⟨⟨a0, a1, a2, a3, a4, a5, a6, a7, a8, a9, a10, a11, a12, a13⟩, ?_, wf_b8 w1, wf_bd w0, ?_, z2, z3, z4, z5, z6⟩
  · unfold rawC
    congr 1
    apply Array.ext_getElem?
    intro i
    match i with
    | 0 => exact c0
    | 1 => exact c1
    | 2 => exact c2
    | 3 => exact c3
    | 4 => exact c4
    | 5 => exact c5
    | 6 => exact c6
    | 7 => exact c7
    | 8 => exact c8
    | 9 => exact c9
    | 10 => exact c10
    | 11 => exact c11
    | 12 => exact c12
    | 13 => exact c13
    | k + 14 => rw [Array.getElem?_eq_none (by rw [hsc]; simp), Array.getElem?_eq_none (by simp)]
  · rintro n (h | h | h | h | h | h | h) <;> subst h
    · exact wf_bd w7
    · exact wf_bd w8
    · exact wf_bd w9
    · exact wf_bd w10
    · exact wf_bd w11
    · exact wf_bd w12
    · exact wf_bd w13
set_option maxRecDepth 100000 in
theorem raw_open0 {H : Type} {enc : TypeId × Value → H} {w : World} {base b0 : Nat} {spare : Nat → Bool} {held : Bool} {q : Reach} {v : Value} {d : DataW H} {p : List MemPlace} {ts : List TypeId} {ds : List (DataW H)}
    (hsz : (DataW.weightsEach Tryd.prog ts ds).all (· ≤ reachBytes) = true) (htj : ts[0]? = some 23) (hdj : ds[0]? = some d) (hv : Value.okWide Tryd.prog w q b0 23 v) (h : DataW.Trod enc Tryd.prog w base spare held 23 v d p) :
    ∃ r : Raw, v = .agg (rawC r) ∧ RawIn r := raw_open (j := 0) hsz htj hdj hv h
end Go.Proofs.YtoabboeongbloaaDoor.Maker
