/- The reference's small functions: Leap, Days, down, of. -/
import Derived.Test.YtkjglhehlkjfgaaDoorHandD
set_option linter.unusedVariables false
set_option linter.unusedSimpArgs false
namespace Go.Proofs.YtkjglhehlkjfgaaDoor.Hand
open Go.RowKit Go.Proofs.YtkjglhehlkjfgaaDoor.Civ
theorem rleap_calls (y : Int) (w : World) : Calls Tryd.prog 10 #[.int .i64 y] w fun e w' => e = .returned (.bool (leap y)) ∧ w = w' := by
  have t4 := tmod0 y 4
  have t100 := tmod0 y 100
  have t400 := tmod0 y 400
  have hl := leap_iff y
  have T := Lib.hid (And.intro t4 (And.intro t100 (And.intro t400 hl)))
  clear t4 t100 t400 hl
  go_enter Tryd.func10, Tryd.ntmps10
  go_wp2_with fail
  all_goals go_ret
  all_goals refine ⟨congrArg (fun x => Ending.returned (Value.bool x)) ?_, rfl⟩
  all_goals
    obtain ⟨t4, t100, t400, hl⟩ := T.out
    rw [Bool.eq_iff_iff, hl]
    clear T
    first | (simp; omega) | omega | (simp_all; done) | (simp_all; omega)
theorem rdays_lo (y m : Int) (w : World) (h : m < 1) : Calls Tryd.prog 12 #[.int .i64 y, .int .i64 m] w (RetB (.int .i64 (dpm y m)) w) := by
  have d1 : decide (m < 1) = true := decide_eq_true h
  have hd := Lib.hid (show 0 = dpm y m by unfold dpm; rw [if_pos (by omega)])
  go_enter Tryd.func12, Tryd.ntmps12
  go_wp2_with fail
  go_ret
  exact ⟨congrArg (fun x => Ending.returned (Value.int .i64 x)) hd.out, Below.refl _ _⟩
theorem rdays_hi (y m : Int) (w : World) (h : 12 < m) : Calls Tryd.prog 12 #[.int .i64 y, .int .i64 m] w (RetB (.int .i64 (dpm y m)) w) := by
  have d1 : decide (m < 1) = false := decide_eq_false (by omega)
  have d2 : decide (12 < m) = true := decide_eq_true h
  have hd := Lib.hid (show 0 = dpm y m by unfold dpm; rw [if_pos (by omega)])
  go_enter Tryd.func12, Tryd.ntmps12
  go_wp2_with fail
  go_ret
  exact ⟨congrArg (fun x => Ending.returned (Value.int .i64 x)) hd.out, Below.refl _ _⟩
set_option maxRecDepth 100000 in
set_option maxHeartbeats 4000000 in
theorem rdays_calls (y m : Int) (w : World) : Calls Tryd.prog 12 #[.int .i64 y, .int .i64 m] w (RetB (.int .i64 (dpm y m)) w) := by
  by_cases h1 : m < 1
  · exact rdays_lo y m w h1
  by_cases h2 : 12 < m
  · exact rdays_hi y m w h2
  have hm : m = 1 ∨ m = 2 ∨ m = 3 ∨ m = 4 ∨ m = 5 ∨ m = 6 ∨ m = 7 ∨ m = 8 ∨ m = 9 ∨ m = 10 ∨ m = 11 ∨ m = 12 := by omega
  clear h1 h2
  have hdpm := Lib.hid (show dpm y 1 = 31 ∧ dpm y 2 = (if leap y then 29 else 28) ∧ dpm y 3 = 31 ∧ dpm y 4 = 30 ∧ dpm y 5 = 31 ∧ dpm y 6 = 30 ∧ dpm y 7 = 31 ∧ dpm y 8 = 31 ∧ dpm y 9 = 30 ∧ dpm y 10 = 31 ∧ dpm y 11 = 30 ∧ dpm y 12 = 31 by simp [dpm])
  rcases hm with rfl | rfl | rfl | rfl | rfl | rfl | rfl | rfl | rfl | rfl | rfl | rfl
  case inr.inl =>
    have hA := (Below.refl w.heap.size w).alloc (Nat.le_refl _) (.cells #[.int .i64 31, .int .i64 28, .int .i64 31, .int .i64 30, .int .i64 31, .int .i64 30, .int .i64 31, .int .i64 31, .int .i64 30, .int .i64 31, .int .i64 30, .int .i64 31] 2)
    have HA := Lib.hid hA
    clear hA
    cases hl : leap y
    · have HC := Lib.hid (rleap_calls y)
      rw [hl] at HC
      have HL := Lib.hid hl
      clear hl
      go_enter Tryd.func12, Tryd.ntmps12
      go_wp2_with fail
      (with_reducible refine (HC.out _).mono ?_)
      rintro e w2 ⟨rfl, rfl⟩
      go_wp2_with fail
      go_ret
      exact ⟨congrArg (fun x => Ending.returned (Value.int .i64 x)) (show 28 = dpm y 2 by rw [hdpm.out.2.1, HL.out]; rfl), HA.out⟩
    · have HC := Lib.hid (rleap_calls y)
      rw [hl] at HC
      have HL := Lib.hid hl
      clear hl
      go_enter Tryd.func12, Tryd.ntmps12
      go_wp2_with fail
      (with_reducible refine (HC.out _).mono ?_)
      rintro e w2 ⟨rfl, rfl⟩
      go_wp2_with fail
      go_ret
      exact ⟨congrArg (fun x => Ending.returned (Value.int .i64 x)) (show 29 = dpm y 2 by rw [hdpm.out.2.1, HL.out]; rfl), HA.out⟩
  all_goals
    go_enter Tryd.func12, Tryd.ntmps12
    go_wp2_with fail
    go_ret
    obtain ⟨e1, e2, e3, e4, e5, e6, e7, e8, e9, e10, e11, e12⟩ := hdpm.out
    exact ⟨congrArg (fun x => Ending.returned (Value.int .i64 x)) (by first | exact e1.symm | exact e3.symm | exact e4.symm | exact e5.symm | exact e6.symm | exact e7.symm | exact e8.symm | exact e9.symm | exact e10.symm | exact e11.symm | exact e12.symm), (Below.refl w.heap.size w).alloc (Nat.le_refl _) _⟩
theorem down_calls (a b : Int) (w : World) (h0 : -1000000000000000 ≤ a) (h1 : a ≤ 1000000000000000) (hb : 2 ≤ b) (hb2 : b ≤ 146097) :
    Calls Tryd.prog 32 #[.int .i64 a, .int .i64 b] w fun e w' => e = .returned (.tuple #[.int .i64 (a / b), .int .i64 (a % b)]) ∧ w = w' := by
  have hq : (a - a % b).tdiv b = a / b := by
    rw [show a - a % b = b * (a / b) by have := Int.emod_add_mul_ediv a b; omega]
    exact Int.mul_tdiv_cancel_left _ (by omega)
  have h3 := Int.emod_lt_of_pos a (show 0 < b by omega)
  have h4 := Int.emod_nonneg a (show b ≠ 0 by omega)
  have h5 := div_bd (a := a) (b := b) (by omega) (by omega) hb
  have k1 : wrap64 (a - a % b) = a - a % b := IntWalk.wrap64_in _ (by omega)
  have k2 : wrap64 (a % b) = a % b := IntWalk.wrap64_in _ (by omega)
  have k3 : wrap64 (a / b) = a / b := IntWalk.wrap64_in _ h5
  have HK := Lib.hid (And.intro hq (And.intro k1 (And.intro k2 k3)))
  clear hq h3 h4 h5 k1 k2 k3
  go_enter Tryd.func32, Tryd.ntmps32
  go_wp2_with fail
  · rename_i h
    go_ret2
    obtain ⟨e1, e2⟩ := floor_down hb h
    obtain ⟨hq, k1, k2, k3⟩ := HK.out
    refine ⟨?_, rfl⟩
    show Ending.returned (Value.tuple #[Value.int .i64 (wrap64 ((wrap64 (a - wrap64 (a.tmod b + b))).tdiv b)), Value.int .i64 (wrap64 (a.tmod b + b))]) = _
    rw [e2, k2, k1, hq, k3]
  · rename_i h
    go_ret2
    obtain ⟨e1, e2⟩ := floor_up hb h
    obtain ⟨hq, k1, k2, k3⟩ := HK.out
    refine ⟨?_, rfl⟩
    show Ending.returned (Value.tuple #[Value.int .i64 (wrap64 ((wrap64 (a - a.tmod b)).tdiv b)), Value.int .i64 (a.tmod b)]) = _
    rw [e2, k1, hq, k3]
theorem of22_calls (Y M D h m s : Int) (w : World) : Calls Tryd.prog 14 #[.agg #[.int .i64 Y, .int .i64 M, .int .i64 D, .int .i64 h, .int .i64 m, .int .i64 s]] w (RetB (.agg #[.int .i64 Y, .int .i64 M, .int .i64 D, .int .i64 h, .int .i64 m, .int .i64 s]) w) := by
  go_enter Tryd.func14, Tryd.ntmps14
  go_wp2_with fail
  refine bodyPost_ret (results_cell_row rfl _ _ (w.heap.size + 1) 32 _ (0, 0) _ rfl (heap_alloc2_new w _ _) Tryd.underlying32 rfl (by kernel_rfl)) rfl ?_
  exact ⟨rfl, ((Below.refl w.heap.size w).alloc (Nat.le_refl _) _).alloc (by simp) _⟩
end Go.Proofs.YtkjglhehlkjfgaaDoor.Hand
