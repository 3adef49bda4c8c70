/- Laws over any program on blocks that move. -/
import Derived.Test.YtfoenpdfmhmkiaaWWords
import Derived.Test.YtfoenpdfmhmkiaaWLast
import Derived.Test.YtfoenpdfmhmkiaaWMore
import Derived.Test.YtfoenpdfmhmkiaaHKit
import Derived.IntWalk
import Derived.Lib.Hide
set_option linter.unusedVariables false
set_option linter.unusedSimpArgs false
namespace Go.Proofs.YtfoenpdfmhmkiaaW.Mv
open Go.RowKit Go.Proofs.YtfoenpdfmhmkiaaW.PrintWords Go.Proofs.YtfoenpdfmhmkiaaW.PrintLast Go.Proofs.YtfoenpdfmhmkiaaW.PrintMore Go.Proofs.YtfoenpdfmhmkiaaW.HKit

theorem w64 {x : Int} (h0 : -9223372036854775808 ≤ x) (h1 : x ≤ 9223372036854775807) : wrap64 x = x := IntWalk.wrap64_in _ ⟨h0, h1⟩
theorem wadd1 (j : Nat) (h : j ≤ 4000000) : wrap64 ((j : Int) + 1) = ((j + 1 : Nat) : Int) := by rw [w64 (by omega) (by omega)]; omega
theorem wf_i64_bd {n : Int} (h : (Lit.int .i64 n).wf = true) : -9223372036854775808 ≤ n ∧ n ≤ 9223372036854775807 := by
  simp [Lit.wf, IntKind.min, IntKind.max, IntKind.signed, IntKind.bits] at h
  omega
theorem wf_u8_bd {n : Int} (h : (Lit.int .u8 n).wf = true) : 0 ≤ n ∧ n ≤ 255 := by
  simp [Lit.wf, IntKind.min, IntKind.max, IntKind.signed, IntKind.bits] at h
  omega
/-- A row stands where its block stands. -/
theorem own_stays {w w' : World} {B e n s : Nat} {v : Value} {xs : List Value} (h : w.ownsRow B e s v n xs) (hb : ∀ q, v.ownBlock = some q → w'.heap[q]? = w.heap[q]?) : w'.ownsRow B e s v n xs := by
  obtain ⟨h1, h2⟩ := h
  refine ⟨h1, ?_⟩
  rcases h2 with h2 | ⟨g, cap, cur, rfl, hg, hh, r⟩
  · exact .inl h2
  · exact .inr ⟨g, cap, cur, rfl, hg, (hb g rfl).trans hh, r⟩
/-- What a call on a thing that lies in the blocks of F has turned: its own blocks, and new ones; behind it the thing lies in those of F'. -/
def Moved (w w' : World) (F F' : Nat → Prop) : Prop := w.heap.size ≤ w'.heap.size ∧ (∀ i, i < w.heap.size → ¬ F i → w'.heap[i]? = w.heap[i]?) ∧ ∀ q, F' q → F q ∨ w.heap.size ≤ q
theorem Moved.refl (w : World) (F : Nat → Prop) : Moved w w F F := ⟨Nat.le_refl _, fun _ _ _ => rfl, fun _ h => .inl h⟩
theorem Moved.trans {w w1 w2 : World} {F F1 F2 : Nat → Prop} (h : Moved w w1 F F1) (k : Moved w1 w2 F1 F2) : Moved w w2 F F2 := by
  obtain ⟨a1, a2, a3⟩ := h
  obtain ⟨b1, b2, b3⟩ := k
  refine ⟨Nat.le_trans a1 b1, fun i hi hn => (b2 i (Nat.lt_of_lt_of_le hi a1) fun hf => ?_).trans (a2 i hi hn), fun q hq => ?_⟩
  · rcases a3 i hf with h | h
    · exact hn h
    · omega
  · rcases b3 q hq with h | h
    · exact a3 q h
    · exact .inr (Nat.le_trans a1 h)
theorem Moved.of_below {w w' : World} (h : Below w.heap.size w w') (F : Nat → Prop) : Moved w w' F F := ⟨h.size, fun i hi _ => h.block i hi, fun _ h => .inl h⟩
theorem own_moved {w w' : World} {B e n s : Nat} {v : Value} {xs : List Value} {G G' : Nat → Prop} (h : w.ownsRow B e s v n xs) (hM : Moved w w' G G') (hd : ∀ q, v.ownBlock = some q → ¬ G q) : w'.ownsRow B e s v n xs :=
  own_stays h fun q hq => hM.2.1 q (own_lt h q hq) (hd q hq)
theorem not_moved {w w' : World} {G G' : Nat → Prop} {q : Nat} (hM : Moved w w' G G') (hq : q < w.heap.size) (hd : ¬ G q) : ¬ G' q := fun h => by
  rcases hM.2.2 q h with h | h
  · exact hd h
  · omega
theorem own_C {w : World} {B e n : Nat} {kd : IntKind} {v : Value} {xs : List Int} (h : w.ownsRow B e 1 v n (nums kd xs)) (hn : n = xs.length) : ∃ A c, v = .slice A n c ∧ n ≤ c ∧ Kd.C (Kd.int kd) w A n xs ∧ (∀ q, v.ownBlock = some q → B ≤ q ∧ q < w.heap.size) ∧ (A = none → n = 0 ∧ c = 0) ∧ ∀ W : World, (∀ q, v.ownBlock = some q → W.heap[q]? = w.heap[q]?) → Kd.C (Kd.int kd) W A n xs := by
  subst hn
  have key : ∀ W : World, (∀ q, v.ownBlock = some q → W.heap[q]? = w.heap[q]?) → W.ownsRow B e 1 v xs.length (nums kd xs) := fun W hW => own_stays h hW
  have toC : ∀ W : World, ∀ A c, v = .slice A xs.length c → W.ownsRow B e 1 v xs.length (nums kd xs) → Kd.C (Kd.int kd) W A xs.length xs := by
    intro W A c hv ho
    obtain ⟨A', c', hv', hr⟩ := own_reads ho
    rw [hv] at hv'
    injection hv' with e1 e2 e3
    subst e1
    exact Kd.C_of_reads (enc := Value.int kd) (d := (0 : Int)) (h1 := fun _ => rfl) hr
  obtain ⟨A, c, hv, hr⟩ := own_reads h
  refine ⟨A, c, hv, ?_, toC w A c hv h, ?_, ?_, fun W hW => toC W A c hv (key W hW)⟩
  · rcases h.2 with ⟨e1, e2⟩ | ⟨g, cap, cur, e1, _, _, hnc, _⟩
    · omega
    · rw [hv] at e1
      injection e1 with _ _ e3
      omega
  · intro q hq
    exact ⟨own_base h q hq, own_lt h q hq⟩
  · intro hA
    subst hA
    rcases h.2 with ⟨e1, e2⟩ | ⟨g, cap, cur, e1, _⟩
    · rw [hv] at e1
      injection e1 with _ e3 e4
      exact ⟨e3, e4⟩
    · rw [hv] at e1
      injection e1 with e5
      cases e5
theorem C_none (k : IntKind) (w : World) : Kd.C (Kd.int k) w none 0 [] := Kd.C_of_reads (enc := Value.int k) (d := (0 : Int)) (h1 := fun _ => rfl) ⟨rfl, by decide, fun h => absurd h (by decide)⟩
theorem C_firsts {k : IntKind} {w : World} {A : Option Addr} {n m : Nat} {xs : List Int} (h : Kd.C (Kd.int k) w A n xs) (hm : m ≤ n) : Kd.C (Kd.int k) w A m (xs.take m) := by
  have hl := C_len h
  have := Kd.C_take (m := m) (by rw [hl]; exact h) (by omega)
  rwa [List.length_take, Nat.min_eq_left (by omega)] at this

end Go.Proofs.YtfoenpdfmhmkiaaW.Mv
