/- The program's small functions on dates: floor, Leap, Days. -/
import Derived.Test.YtkjglhehlkjfgaaDoorRows
import Derived.Test.YtkjglhehlkjfgaaDoorCiv
import Derived.WalkKit
import Derived.WalkSpells
import Derived.WalkLawsBesides
import Derived.Tactics
import Derived.Tactics2
import Derived.BigQuiet
import Derived.Deep.QuietTactic
import Derived.Lib.Hide
import Derived.Below
import Derived.IntWalk
set_option linter.unusedVariables false
set_option linter.unusedSimpArgs false
namespace Go.Proofs.YtkjglhehlkjfgaaDoor.Hand
open Go.RowKit Go.Proofs.YtkjglhehlkjfgaaDoor.Civ
theorem quiet_add {P : Program} {f : FuncId} {args : Array Value} {w : World} {a n : Nat} {v : Value}
    (h : Calls P f args (w.drewN (a + n)) fun e w' => e = .returned v ∧ ∃ m, w' = (w.drewN (a + n)).drewN m) :
    Calls P f args (w.drewN (a + n)) fun e w'' => e = .returned v ∧ ∃ m, w'' = w.drewN (a + m) :=
  h.mono fun _ _ ⟨he, m, hm⟩ => ⟨he, n + m, by rw [hm, World.drewN_drewN, Nat.add_assoc]⟩
theorem quiet_one {P : Program} {f : FuncId} {args : Array Value} {w : World} {n : Nat} {v : Value}
    (h : Calls P f args (w.drewN n) fun e w' => e = .returned v ∧ ∃ m, w' = (w.drewN n).drewN m) :
    Calls P f args (w.drewN n) fun e w'' => e = .returned v ∧ ∃ m, w'' = w.drewN m :=
  h.mono fun _ _ ⟨he, m, hm⟩ => ⟨he, n + m, by rw [hm, World.drewN_drewN]⟩
theorem quiet_add_left {P : Program} {f : FuncId} {args : Array Value} {w : World} {a n : Nat} {v : Value}
    (h : Calls P f args (w.drewN (a + n)) fun e w' => e = .returned v ∧ w.drewN (a + n) = w') :
    Calls P f args (w.drewN (a + n)) fun e w'' => e = .returned v ∧ ∃ m, w'' = w.drewN (a + m) :=
  h.mono fun _ _ ⟨he, hm⟩ => ⟨he, n, hm.symm⟩
theorem quiet_left {P : Program} {f : FuncId} {args : Array Value} {w : World} {n : Nat} {v : Value}
    (h : Calls P f args (w.drewN n) fun e w' => e = .returned v ∧ w.drewN n = w') : Calls P f args (w.drewN n) fun e w'' => e = .returned v ∧ ∃ m, w'' = w.drewN m :=
  h.mono fun _ _ ⟨he, hm⟩ => ⟨he, n, hm.symm⟩
/-- A call that only reads, and what it returns. -/
def RetQ (v : Value) (w : World) (e : Ending) (w' : World) : Prop := e = .returned v ∧ ∃ n, w' = w.drewN n
/-- A call that makes memory at most, and what it returns. -/
def RetB (v : Value) (w : World) (e : Ending) (w' : World) : Prop := e = .returned v ∧ Below w.heap.size w w'
theorem floor_up {a b : Int} (hb : 2 ≤ b) (h : 0 ≤ a.tmod b) : a.tdiv b = a / b ∧ a.tmod b = a % b := by
  have h1 := Int.tdiv_eq_ediv (a := a) (b := b)
  have h2 := Int.tmod_eq_emod (a := a) (b := b)
  have h3 := Int.emod_lt_of_pos a (show 0 < b by omega)
  split at h1
  · rw [if_pos (by assumption)] at h2
    omega
  · rw [if_neg (by assumption)] at h2
    omega
theorem floor_down {a b : Int} (hb : 2 ≤ b) (h : a.tmod b < 0) : a.tdiv b - 1 = a / b ∧ a.tmod b + b = a % b := by
  have h1 := Int.tdiv_eq_ediv (a := a) (b := b)
  have h2 := Int.tmod_eq_emod (a := a) (b := b)
  have h3 := Int.emod_nonneg a (show b ≠ 0 by omega)
  have h4 : b.sign = 1 := Int.sign_eq_one_of_pos (by omega)
  split at h1
  · rw [if_pos (by assumption)] at h2
    omega
  · rw [if_neg (by assumption)] at h2
    omega
theorem div_bd {a b : Int} (h0 : -9223372036854775808 ≤ a) (h1 : a ≤ 9223372036854775807) (hb : 2 ≤ b) : -9223372036854775808 ≤ a / b ∧ a / b ≤ 9223372036854775807 := by
  constructor
  · rcases Int.lt_or_le a 0 with h7 | h7
    · have : a ≤ a / b := Int.le_ediv_of_mul_le (by omega) (by
        have : a * b ≤ a * 1 := Int.mul_le_mul_of_nonpos_left (by omega) (by omega)
        omega)
      omega
    · have := Int.ediv_nonneg h7 (show 0 ≤ b by omega)
      omega
  · rcases Int.lt_or_le a 0 with h7 | h7
    · have := Int.ediv_neg_of_neg_of_pos h7 (show 0 < b by omega)
      omega
    · have := Int.ediv_le_self b h7
      omega
theorem floor_calls (a b : Int) (w : World) (h0 : -9223372036854775808 ≤ a) (h1 : a ≤ 9223372036854775807) (hb : 2 ≤ b) (hb2 : b ≤ 146097) :
    Calls Tryd.prog 23 #[.int .i64 a, .int .i64 b] w (RetQ (.tuple #[.int .i64 (a / b), .int .i64 (a % b)]) w) := by
  go_enter Tryd.func23, Tryd.ntmps23
  go_wp2_with fail
  go_quiet (fail)
  go_wp2_with fail
  · rename_i h
    go_ret2
    obtain ⟨e1, e2⟩ := floor_down hb h
    have h3 := Int.emod_lt_of_pos a (show 0 < b by omega)
    have h4 := Int.emod_nonneg a (show b ≠ 0 by omega)
    obtain ⟨h5, h6⟩ := div_bd h0 h1 hb
    refine ⟨?_, _, rfl⟩
    have k1 : wrap64 (a.tdiv b - 1) = a / b := by rw [e1]; exact IntWalk.wrap64_in _ ⟨h5, h6⟩
    have k2 : wrap64 (a.tmod b + b) = a % b := by rw [e2]; exact IntWalk.wrap64_in _ (by omega)
    show Ending.returned (Value.tuple #[Value.int .i64 (wrap64 (a.tdiv b - 1)), Value.int .i64 (wrap64 (a.tmod b + b))]) = _
    rw [k1, k2]
  · rename_i h
    go_ret2
    obtain ⟨e1, e2⟩ := floor_up hb h
    refine ⟨?_, _, rfl⟩
    show Ending.returned (Value.tuple #[Value.int .i64 (a.tdiv b), Value.int .i64 (a.tmod b)]) = _
    rw [e1, e2]
theorem tmod0 (y k : Int) : y.tmod k = 0 ↔ y % k = 0 := by
  rw [← Int.dvd_iff_tmod_eq_zero, Int.dvd_iff_emod_eq_zero]
theorem leap_calls (y : Int) (w : World) : Calls Tryd.prog 9 #[.int .i64 y] w fun e w' => e = .returned (.bool (leap y)) ∧ w = w' := by
  have t4 := tmod0 y 4
  have t100 := tmod0 y 100
  have t400 := tmod0 y 400
  have hl := leap_iff y
  have T := Lib.hid (And.intro t4 (And.intro t100 (And.intro t400 hl)))
  clear t4 t100 t400 hl
  go_enter Tryd.func9, Tryd.ntmps9
  go_wp2_with fail
  all_goals go_ret
  all_goals refine ⟨congrArg (fun x => Ending.returned (Value.bool x)) ?_, rfl⟩
  all_goals
    obtain ⟨t4, t100, t400, hl⟩ := T.out
    rw [Bool.eq_iff_iff, hl]
    clear T
    first | (simp; omega) | omega
theorem days_calls (y m : Int) (w : World) : Calls Tryd.prog 11 #[.int .i64 y, .int .i64 m] w fun e w' => e = .returned (.int .i64 (dpm y m)) ∧ w = w' := by
  go_enter Tryd.func11, Tryd.ntmps11
  go_wp2_with (first | ((with_reducible refine (leap_calls _ _).mono ?_); rintro e w' ⟨rfl, rfl⟩))
  all_goals go_ret
  all_goals refine ⟨congrArg (fun x => Ending.returned (Value.int .i64 x)) ?_, rfl⟩
  all_goals
    unfold dpm
    simp only [beq_iff_eq, beq_eq_false_iff_ne, decide_eq_true_eq, decide_eq_false_iff_not] at *
  all_goals (repeat' split)
  all_goals first | omega | (simp_all; done) | (simp_all; omega)
end Go.Proofs.YtkjglhehlkjfgaaDoor.Hand
