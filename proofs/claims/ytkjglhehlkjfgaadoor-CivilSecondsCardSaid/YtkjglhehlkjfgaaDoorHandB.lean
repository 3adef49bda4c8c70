/- Is it a date: right. Written by wip/c22/mkb.py. -/
import Derived.Test.YtkjglhehlkjfgaaDoorHandA
set_option linter.unusedVariables false
set_option linter.unusedSimpArgs false
namespace Go.Proofs.YtkjglhehlkjfgaaDoor.Hand
open Go.RowKit Go.Proofs.YtkjglhehlkjfgaaDoor.Civ
def rightB (Y M D h m s : Int) : Bool := decide (1 ≤ M) && (decide (M ≤ 12) && (decide (1 ≤ D) && (decide (D ≤ dpm Y M) && (decide (0 ≤ h) && (decide (h < 24) && (decide (0 ≤ m) && (decide (m < 60) && (decide (0 ≤ s) && (decide (s < 60))))))))))
theorem rightB_iff (Y M D h m s : Int) : rightB Y M D h m s = true ↔ Right3 Y M D ∧ 0 ≤ h ∧ h < 24 ∧ 0 ≤ m ∧ m < 60 ∧ 0 ≤ s ∧ s < 60 := by
  simp only [rightB, Right3, Bool.and_eq_true, decide_eq_true_eq]
  constructor
  · rintro ⟨a, b, c, d, e⟩
    exact ⟨⟨a, b, c, d⟩, e⟩
  · rintro ⟨⟨a, b, c, d⟩, e⟩
    exact ⟨a, b, c, d, e⟩
theorem retB_box (w : World) (vs : Array Value) (t : TypeId) (n : Nat) {b c : Bool} (h : b = c) : RetB (.bool c) w (.returned (.bool b)) ((w.alloc (.cells vs t)).drewN n) := by
  subst h
  exact ⟨rfl, ((Below.refl _ w).alloc (Nat.le_refl _) _).trans ⟨rfl, rfl, rfl, Nat.le_refl _, fun _ _ => rfl⟩⟩
set_option maxRecDepth 100000 in
set_option maxHeartbeats 4000000 in
theorem right_calls (Y M D h m s : Int) (w : World) : Calls Tryd.prog 22 #[.agg #[.int .i64 Y, .int .i64 M, .int .i64 D, .int .i64 h, .int .i64 m, .int .i64 s]] w (RetB (.bool (rightB Y M D h m s)) w) := by
  by_cases h0 : 1 ≤ M
  · have d0 : decide (1 ≤ M) = true := decide_eq_true h0
    by_cases h1 : M ≤ 12
    · have d1 : decide (M ≤ 12) = true := decide_eq_true h1
      by_cases h2 : 1 ≤ D
      · have d2 : decide (1 ≤ D) = true := decide_eq_true h2
        by_cases h3 : D ≤ dpm Y M
        · have d3 : decide (D ≤ dpm Y M) = true := decide_eq_true h3
          by_cases h4 : 0 ≤ h
          · have d4 : decide (0 ≤ h) = true := decide_eq_true h4
            by_cases h5 : h < 24
            · have d5 : decide (h < 24) = true := decide_eq_true h5
              by_cases h6 : 0 ≤ m
              · have d6 : decide (0 ≤ m) = true := decide_eq_true h6
                by_cases h7 : m < 60
                · have d7 : decide (m < 60) = true := decide_eq_true h7
                  by_cases h8 : 0 ≤ s
                  · have d8 : decide (0 ≤ s) = true := decide_eq_true h8
                    by_cases h9 : s < 60
                    · have d9 : decide (s < 60) = true := decide_eq_true h9
                      have HR := Lib.hid (show true = rightB Y M D h m s by unfold rightB; simp only [d0, d1, d2, d3, d4, d5, d6, d7, d8, d9, Bool.and_false, Bool.false_and, Bool.true_and, Bool.and_self])
                      go_enter Tryd.func22, Tryd.ntmps22
                      go_wp2_with fail
                      go_quiet ((go_at_call 11; exact quiet_left (days_calls _ _ _)))
                      go_wp2_with fail
                      go_ret
                      exact retB_box _ _ _ _ HR.out
                    · have d9 : decide (s < 60) = false := decide_eq_false h9
                      have HR := Lib.hid (show false = rightB Y M D h m s by unfold rightB; simp only [d0, d1, d2, d3, d4, d5, d6, d7, d8, d9, Bool.and_false, Bool.false_and, Bool.true_and, Bool.and_self])
                      go_enter Tryd.func22, Tryd.ntmps22
                      go_wp2_with fail
                      go_quiet ((go_at_call 11; exact quiet_left (days_calls _ _ _)))
                      go_wp2_with fail
                      go_ret
                      exact retB_box _ _ _ _ HR.out
                  · have d8 : decide (0 ≤ s) = false := decide_eq_false h8
                    have HR := Lib.hid (show false = rightB Y M D h m s by unfold rightB; simp only [d0, d1, d2, d3, d4, d5, d6, d7, d8, Bool.and_false, Bool.false_and, Bool.true_and, Bool.and_self])
                    go_enter Tryd.func22, Tryd.ntmps22
                    go_wp2_with fail
                    go_quiet ((go_at_call 11; exact quiet_left (days_calls _ _ _)))
                    go_wp2_with fail
                    go_ret
                    exact retB_box _ _ _ _ HR.out
                · have d7 : decide (m < 60) = false := decide_eq_false h7
                  have HR := Lib.hid (show false = rightB Y M D h m s by unfold rightB; simp only [d0, d1, d2, d3, d4, d5, d6, d7, Bool.and_false, Bool.false_and, Bool.true_and, Bool.and_self])
                  go_enter Tryd.func22, Tryd.ntmps22
                  go_wp2_with fail
                  go_quiet ((go_at_call 11; exact quiet_left (days_calls _ _ _)))
                  go_wp2_with fail
                  go_ret
                  exact retB_box _ _ _ _ HR.out
              · have d6 : decide (0 ≤ m) = false := decide_eq_false h6
                have HR := Lib.hid (show false = rightB Y M D h m s by unfold rightB; simp only [d0, d1, d2, d3, d4, d5, d6, Bool.and_false, Bool.false_and, Bool.true_and, Bool.and_self])
                go_enter Tryd.func22, Tryd.ntmps22
                go_wp2_with fail
                go_quiet ((go_at_call 11; exact quiet_left (days_calls _ _ _)))
                go_wp2_with fail
                go_ret
                exact retB_box _ _ _ _ HR.out
            · have d5 : decide (h < 24) = false := decide_eq_false h5
              have HR := Lib.hid (show false = rightB Y M D h m s by unfold rightB; simp only [d0, d1, d2, d3, d4, d5, Bool.and_false, Bool.false_and, Bool.true_and, Bool.and_self])
              go_enter Tryd.func22, Tryd.ntmps22
              go_wp2_with fail
              go_quiet ((go_at_call 11; exact quiet_left (days_calls _ _ _)))
              go_wp2_with fail
              go_ret
              exact retB_box _ _ _ _ HR.out
          · have d4 : decide (0 ≤ h) = false := decide_eq_false h4
            have HR := Lib.hid (show false = rightB Y M D h m s by unfold rightB; simp only [d0, d1, d2, d3, d4, Bool.and_false, Bool.false_and, Bool.true_and, Bool.and_self])
            go_enter Tryd.func22, Tryd.ntmps22
            go_wp2_with fail
            go_quiet ((go_at_call 11; exact quiet_left (days_calls _ _ _)))
            go_wp2_with fail
            go_ret
            exact retB_box _ _ _ _ HR.out
        · have d3 : decide (D ≤ dpm Y M) = false := decide_eq_false h3
          have HR := Lib.hid (show false = rightB Y M D h m s by unfold rightB; simp only [d0, d1, d2, d3, Bool.and_false, Bool.false_and, Bool.true_and, Bool.and_self])
          go_enter Tryd.func22, Tryd.ntmps22
          go_wp2_with fail
          go_quiet ((go_at_call 11; exact quiet_left (days_calls _ _ _)))
          go_wp2_with fail
          go_ret
          exact retB_box _ _ _ _ HR.out
      · have d2 : decide (1 ≤ D) = false := decide_eq_false h2
        have HR := Lib.hid (show false = rightB Y M D h m s by unfold rightB; simp only [d0, d1, d2, Bool.and_false, Bool.false_and, Bool.true_and, Bool.and_self])
        go_enter Tryd.func22, Tryd.ntmps22
        go_wp2_with fail
        go_quiet (fail)
        go_wp2_with fail
        go_ret
        exact retB_box _ _ _ _ HR.out
    · have d1 : decide (M ≤ 12) = false := decide_eq_false h1
      have HR := Lib.hid (show false = rightB Y M D h m s by unfold rightB; simp only [d0, d1, Bool.and_false, Bool.false_and, Bool.true_and, Bool.and_self])
      go_enter Tryd.func22, Tryd.ntmps22
      go_wp2_with fail
      go_quiet (fail)
      go_wp2_with fail
      go_ret
      exact retB_box _ _ _ _ HR.out
  · have d0 : decide (1 ≤ M) = false := decide_eq_false h0
    have HR := Lib.hid (show false = rightB Y M D h m s by unfold rightB; simp only [d0, Bool.and_false, Bool.false_and, Bool.true_and, Bool.and_self])
    go_enter Tryd.func22, Tryd.ntmps22
    go_wp2_with fail
    go_quiet (fail)
    go_wp2_with fail
    go_ret
    exact retB_box _ _ _ _ HR.out
end Go.Proofs.YtkjglhehlkjfgaaDoor.Hand
