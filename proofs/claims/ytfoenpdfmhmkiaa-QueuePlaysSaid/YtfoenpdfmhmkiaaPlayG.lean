/- An act of any kind; a list of acts that came in; a new queue of any room. Conditions stand with each. -/
import Derived.Test.YtfoenpdfmhmkiaaPlayF00
import Derived.Test.YtfoenpdfmhmkiaaPlayF01
import Derived.Test.YtfoenpdfmhmkiaaPlayF10
import Derived.Test.YtfoenpdfmhmkiaaPlayF11
import Derived.Test.YtfoenpdfmhmkiaaPlayF20
import Derived.Test.YtfoenpdfmhmkiaaPlayF21
import Derived.Test.YtfoenpdfmhmkiaaPlayF30
import Derived.Test.YtfoenpdfmhmkiaaPlayF31
import Derived.Test.YtfoenpdfmhmkiaaPlayF40
import Derived.Test.YtfoenpdfmhmkiaaPlayF41
import Derived.Deep.Slices
import Derived.Deep.Strs
set_option linter.unusedVariables false
set_option linter.unusedSimpArgs false
namespace Go.Proofs.YtfoenpdfmhmkiaaPlay
open Go.RowKit Go.Proofs.YtfoenpdfmhmkiaaW.PrintWords Go.Proofs.YtfoenpdfmhmkiaaW.PrintLast Go.Proofs.YtfoenpdfmhmkiaaW.PrintMore Go.Proofs.YtfoenpdfmhmkiaaW.HKit Go.Proofs.YtfoenpdfmhmkiaaW.Mv Go.Proofs.YtfoenpdfmhmkiaaW.But Go.Proofs.Ytfoenpdfmhmkiaa.PQueuePlays
open Go.Proofs.YtfoenpdfmhmkiaaLone (newJ)
theorem act_calls (w : World) (o0 o1 : Option (Nat × Nat)) (m0 m1 : Nat) (l0 l1 : List Int) (v0 v1 : Value) (K X : Int) (S : Bool) (ha : Apart o0 o1) (q0 : QAt w o0 m0 l0) (q1 : QAt w o1 m1 l1) (r0 : RV w v0 l0) (r1 : RV w v1 l1) (hK : 0 ≤ K ∧ K ≤ 255) :
    Calls Try.prog 13 #[.agg #[qv o0, qv o1], .agg #[v0, .int .i64 (m0 : Int), v1, .int .i64 (m1 : Int)], .agg #[.int .u8 K, .int .i64 X, .bool S]] w (APost w o0 o1 m0 m1) := by
  have h5 : K % 5 = 0 ∨ K % 5 = 1 ∨ K % 5 = 2 ∨ K % 5 = 3 ∨ K % 5 = 4 := by omega
  cases S with
  | false =>
    rcases h5 with h | h | h | h | h
    · exact act_00 w o0 o1 m0 m1 l0 l1 v0 v1 K X ha q0 q1 r0 r1 hK h
    · exact act_10 w o0 o1 m0 m1 l0 l1 v0 v1 K X ha q0 q1 r0 r1 hK h
    · exact act_20 w o0 o1 m0 m1 l0 l1 v0 v1 K X ha q0 q1 r0 r1 hK h
    · exact act_30 w o0 o1 m0 m1 l0 l1 v0 v1 K X ha q0 q1 r0 r1 hK h
    · exact act_40 w o0 o1 m0 m1 l0 l1 v0 v1 K X ha q0 q1 r0 r1 hK h
  | true =>
    rcases h5 with h | h | h | h | h
    · exact act_01 w o0 o1 m0 m1 l0 l1 v0 v1 K X ha q0 q1 r0 r1 hK h
    · exact act_11 w o0 o1 m0 m1 l0 l1 v0 v1 K X ha q0 q1 r0 r1 hK h
    · exact act_21 w o0 o1 m0 m1 l0 l1 v0 v1 K X ha q0 q1 r0 r1 hK h
    · exact act_31 w o0 o1 m0 m1 l0 l1 v0 v1 K X ha q0 q1 r0 r1 hK h
    · exact act_41 w o0 o1 m0 m1 l0 l1 v0 v1 K X ha q0 q1 r0 r1 hK h
theorem wf8 {n : Int} (h : (Lit.int .u8 n).wf = true) : 0 ≤ n ∧ n ≤ 255 := by
  simp [Lit.wf, IntKind.min, IntKind.max, IntKind.signed, IntKind.bits] at h
  omega
/-- A list of acts that is read. -/
def ActsAt (w : World) (A : Option Addr) (c : Nat) (xs : List (Int × Int × Bool)) : Prop :=
  xs.length ≤ c ∧ c ≤ 9223372036854775807 ∧ ∀ r, ∀ h : r < xs.length, (0 ≤ xs[r].1 ∧ xs[r].1 ≤ 255) ∧ ∃ a, A = some a ∧ w.cell? (a.add (r * 3)) = some (.int .u8 xs[r].1) ∧ w.cell? (a.add (r * 3 + 1)) = some (.int .i64 xs[r].2.1) ∧ w.cell? (a.add (r * 3 + 2)) = some (.bool xs[r].2.2)
theorem ActsAt.below {w w' : World} {A : Option Addr} {c : Nat} {xs : List (Int × Int × Bool)} (h : ActsAt w A c xs) (hb : Below w.heap.size w w') : ActsAt w' A c xs :=
  ⟨h.1, h.2.1, fun r hr => ⟨(h.2.2 r hr).1, by
    obtain ⟨a, ha, h1, h2, h3⟩ := (h.2.2 r hr).2
    exact ⟨a, ha, pw_cell_below hb h1, pw_cell_below hb h2, pw_cell_below hb h3⟩⟩⟩
theorem acts_open {H : Type} {enc : TypeId × Value → H} {w : World} {base : Nat} {held : Bool} {a : Option Addr} {len cap : Nat} {d : DataW H} {ps : List MemPlace}
    (h : DataW.Trod enc Try.prog w base (fun _ => true) held 31 (.slice a len cap) d ps) : ∃ xs : List (Int × Int × Bool), xs.length = len ∧ ActsAt w a cap xs := by
  obtain ⟨fuel, hf⟩ := h
  rcases Go.Deep.open_slice Try.underlying31 hf with ⟨hcs, _⟩ | ⟨x, l, c, m, n, D, Pl, hcs, _, hl, hm, hmm, _, hr⟩
  · simp [Value.cells] at hcs
    obtain ⟨rfl, rfl, rfl⟩ := hcs
    exact ⟨[], rfl, Nat.le_refl _, by decide, fun r hr => absurd hr (Nat.not_lt_zero _)⟩
  · simp [Value.cells] at hcs
    obtain ⟨rfl, rfl, rfl⟩ := hcs
    have hc3 : Try.prog.cellsOf 43 = 3 := by kernel_rfl
    rw [hc3] at hr
    obtain ⟨V, hV⟩ := Go.Deep.choose_lt (n := len) (α := Int × Int × Bool) (p := fun i v => (0 ≤ v.1 ∧ v.1 ≤ 255) ∧ w.cell? (x.add (i * 3)) = some (.int .u8 v.1) ∧ w.cell? (x.add (i * 3 + 1)) = some (.int .i64 v.2.1) ∧ w.cell? (x.add (i * 3 + 2)) = some (.bool v.2.2)) (fun i hi => by
      obtain ⟨cs', h1, h2⟩ := hr i (by rw [hmm]; simpa using Nat.lt_of_lt_of_le hi hl)
      obtain ⟨_, hlen, hcell⟩ := World.cells?_some h1
      obtain ⟨y0, y1, y2, k, _, _, t0, t1, t2⟩ := Go.Deep.trod_struct3 Try.underlying43 h2
      match cs', hlen with
      | [c0, c1, c2], _ =>
        obtain ⟨K, e0, _, hw⟩ := DataW.trod_int Try.underlying5 t0
        obtain ⟨X, e1, _, _⟩ := DataW.trod_int Try.underlying3 t1
        obtain ⟨S, e2, _⟩ := DataW.trod_bool Try.underlying4 t2
        have g0 := hcell 0 (by decide)
        have g1 := hcell 1 (by decide)
        have g2 := hcell 2 (by decide)
        rw [Go.Deep.add_add] at g0 g1 g2
        have e0' : [c0] = [Value.int .u8 K] := e0
        have e1' : [c1] = [Value.int .i64 X] := e1
        have e2' : [c2] = [Value.bool S] := e2
        injection e0' with e0'
        injection e1' with e1'
        injection e2' with e2'
        subst e0' e1' e2'
        exact ⟨(K, X, S), wf8 hw, g0, g1, g2⟩)
    refine ⟨(List.range len).map V, by simp, by simp; exact hl, hm, fun r hr' => ?_⟩
    have hlt : r < len := by simpa using hr'
    obtain ⟨h0, h1, h2, h3⟩ := hV r hlt
    simp only [List.getElem_map, List.getElem_range]
    exact ⟨h0, x, rfl, h1, h2, h3⟩
end Go.Proofs.YtfoenpdfmhmkiaaPlay
