/- The second of a date: Seconds; the weekday of a second. -/
import Derived.Test.YtkjglhehlkjfgaaDoorHandB
import Derived.Test.YtkjglhehlkjfgaaDoorHandC
set_option linter.unusedVariables false
set_option linter.unusedSimpArgs false
namespace Go.Proofs.YtkjglhehlkjfgaaDoor.Hand
open Go.RowKit Go.Proofs.YtkjglhehlkjfgaaDoor.Civ
theorem box_cells {w w2 : World} {a b c d e f : Value} {t : TypeId} (hb : Below (w.alloc (.cells #[a, b, c, d, e, f] t)).heap.size (w.alloc (.cells #[a, b, c, d, e, f] t)) w2) :
    w2.cell? ⟨w.heap.size, 0, none⟩ = some a ∧ w2.cell? ⟨w.heap.size, 1, none⟩ = some b ∧ w2.cell? ⟨w.heap.size, 2, none⟩ = some c ∧ w2.cell? ⟨w.heap.size, 3, none⟩ = some d ∧ w2.cell? ⟨w.heap.size, 4, none⟩ = some e ∧ w2.cell? ⟨w.heap.size, 5, none⟩ = some f := by
  have hlt : w.heap.size < (w.alloc (.cells #[a, b, c, d, e, f] t)).heap.size := by simp
  have h := heap_alloc_new w (.cells #[a, b, c, d, e, f] t)
  have hc : ∀ j v, (#[a, b, c, d, e, f] : Array Value)[j]? = some v → w2.cell? ⟨w.heap.size, j, none⟩ = some v := by
    intro j v hv
    rw [hb.cell (p := ⟨w.heap.size, j, none⟩) hlt]
    simp only [World.cell?, h]
    exact hv
  exact ⟨hc 0 a rfl, hc 1 b rfl, hc 2 c rfl, hc 3 d rfl, hc 4 e rfl, hc 5 f rfl⟩
theorem below_boxed {w w2 : World} {o : Obj} (hb : Below (w.alloc o).heap.size (w.alloc o) w2) : Below w.heap.size w w2 :=
  ((Below.refl _ w).alloc (Nat.le_refl _) o).trans (hb.mono (by simp))
def totalS (Y M D h m s : Int) : Int := dayNo Y M D * 86400 + (h * 3600 + m * 60 + s)
/-- What Seconds tells of a date. -/
def secV (Y M D h m s : Int) : Value :=
  if rightB Y M D h m s = false then .tuple #[.int .i64 0, .int .u8 15]
  else if -9223372036854775808 ≤ totalS Y M D h m s ∧ totalS Y M D h m s ≤ 9223372036854775807 then .tuple #[.int .i64 (totalS Y M D h m s), .int .u8 0] else .tuple #[.int .i64 0, .int .u8 12]
theorem first_bd {Y M : Int} (h1 : 1 ≤ M) (h2 : M ≤ 12) : 365 * (Y - 1) + (Y - 1) / 4 - (Y - 1) / 100 + (Y - 1) / 400 - 719468 ≤ first Y M ∧ first Y M ≤ 365 * Y + Y / 4 - Y / 100 + Y / 400 + 337 - 719468 := by
  unfold first
  split
  · simp only []
    constructor <;> omega
  · simp only []
    constructor <;> omega
theorem first_floor (Y M y mp : Int) (hy : y = if M < 3 then Y - 1 else Y) (hm : mp = if M < 3 then M + 9 else M - 3) :
    y / 400 * 146097 + 365 * (y % 400) + y % 400 / 4 - y % 400 / 100 + (153 * mp + 2) / 5 - 719468 = first Y M := by
  have e1 : y / 4 = 100 * (y / 400) + y % 400 / 4 := by omega
  have e2 : y / 100 = 4 * (y / 400) + y % 400 / 100 := by omega
  have e3 := Int.emod_add_mul_ediv y 400
  unfold first
  simp only [← hy, ← hm]
  omega
theorem floor_low (w : World) : Calls Tryd.prog 23 #[.int .i64 (-9223372036854775808), .int .i64 86400] w (RetQ (.tuple #[.int .i64 (-106751991167301), .int .i64 30592]) w) := floor_calls (-9223372036854775808) 86400 w (by decide) (by decide) (by decide) (by decide)
theorem floor_high (w : World) : Calls Tryd.prog 23 #[.int .i64 9223372036854775807, .int .i64 86400] w (RetQ (.tuple #[.int .i64 106751991167300, .int .i64 55807]) w) := floor_calls 9223372036854775807 86400 w (by decide) (by decide) (by decide) (by decide)
set_option maxRecDepth 100000 in
set_option maxHeartbeats 4000000 in
theorem seconds_calls (Y M D h m s : Int) (w : World) (hY0 : -9223372036854775808 ≤ Y) (hY1 : Y ≤ 9223372036854775807) : Calls Tryd.prog 8 #[.agg #[.int .i64 Y, .int .i64 M, .int .i64 D, .int .i64 h, .int .i64 m, .int .i64 s]] w (RetB (secV Y M D h m s) w) := by
  have HC := Lib.hid (right_calls Y M D h m s (w.alloc (.cells #[.int .i64 Y, .int .i64 M, .int .i64 D, .int .i64 h, .int .i64 m, .int .i64 s] 23)))
  cases hr : rightB Y M D h m s
  · rw [hr] at HC
    have HP := Lib.hid (show .tuple #[.int .i64 0, .int .u8 15] = secV Y M D h m s by unfold secV; rw [if_pos hr])
    clear hr
    go_enter Tryd.func8, Tryd.ntmps8
    go_wp2_with fail
    (with_reducible refine HC.out.mono ?_)
    rintro e w2 ⟨rfl, hb⟩
    have HB := Lib.hid (below_boxed hb)
    clear hb
    go_wp2_with fail
    go_ret2
    exact ⟨congrArg Ending.returned HP.out, HB.out⟩
  · rw [hr] at HC
    have hR := (rightB_iff Y M D h m s).1 hr
    obtain ⟨⟨a1, a2, a3, a4⟩, b1, b2, b3, b4, b5, b6⟩ := hR
    have hdm := dpm_pos Y M a1 a2
    have hf := first_bd (Y := Y) a1 a2
    have hD31 : D ≤ 31 := by omega
    by_cases hy1 : Y < -292277026597
    · have HP := Lib.hid (show .tuple #[.int .i64 0, .int .u8 12] = secV Y M D h m s by
        unfold secV
        rw [if_neg (by simp [hr]), if_neg (by unfold totalS dayNo; omega)])
      have d1 : decide (Y < -292277026597) = true := decide_eq_true hy1
      clear hr hdm hf
      go_enter Tryd.func8, Tryd.ntmps8
      go_wp2_with fail
      (with_reducible refine HC.out.mono ?_)
      rintro e w2 ⟨rfl, hb⟩
      have HB := Lib.hid (below_boxed hb)
      obtain ⟨k0, k1, k2, k3, k4, k5⟩ := box_cells hb
      clear hb
      go_wp2_with fail
      go_ret2
      exact ⟨congrArg Ending.returned HP.out, HB.out⟩
    · by_cases hy2 : 292277026597 < Y
      · have HP := Lib.hid (show .tuple #[.int .i64 0, .int .u8 12] = secV Y M D h m s by
          unfold secV
          rw [if_neg (by simp [hr]), if_neg (by unfold totalS dayNo; omega)])
        have d1 : decide (Y < -292277026597) = false := decide_eq_false hy1
        have d2 : decide (292277026597 < Y) = true := decide_eq_true hy2
        clear hr hdm hf
        go_enter Tryd.func8, Tryd.ntmps8
        go_wp2_with fail
        (with_reducible refine HC.out.mono ?_)
        rintro e w2 ⟨rfl, hb⟩
        have HB := Lib.hid (below_boxed hb)
        obtain ⟨k0, k1, k2, k3, k4, k5⟩ := box_cells hb
        clear hb
        go_wp2_with fail
        go_ret2
        exact ⟨congrArg Ending.returned HP.out, HB.out⟩
      · have d1 : decide (Y < -292277026597) = false := decide_eq_false hy1
        have d2 : decide (292277026597 < Y) = false := decide_eq_false hy2
        by_cases hm : M < 3
        · have d3 : decide (M - 3 < 0) = true := decide_eq_true (by omega)
          have hff := Lib.hid (first_floor Y M (Y - 1) (M - 3 + 12) (by rw [if_pos hm]) (by rw [if_pos hm]; omega))
          have hdn : dayNo Y M D = first Y M + D - 1 := rfl
          have HDN := Lib.hid hdn
          have HR := Lib.hid hr
          have HFB := Lib.hid (show -106760000000000 ≤ first Y M ∧ first Y M ≤ 106760000000000 by omega)
          clear hr hdm hf hdn
          go_enter Tryd.func8, Tryd.ntmps8
          go_wp2_with fail
          (with_reducible refine HC.out.mono ?_)
          rintro e w2 ⟨rfl, hb⟩
          have HB := Lib.hid (below_boxed hb)
          obtain ⟨k0, k1, k2, k3, k4, k5⟩ := box_cells hb
          clear hb
          go_wp2_with fail
          go_quiet (fail)
          go_wp2_with fail
          (with_reducible refine (floor_calls (Y - 1) 400 _ (by omega) (by omega) (by decide) (by decide)).mono ?_)
          rintro e w3 ⟨rfl, n3, rfl⟩
          have hx : 0 ≤ (Y - 1) % 400 ∧ (Y - 1) % 400 < 400 := by omega
          have hx2 : -730692568 ≤ (Y - 1) / 400 ∧ (Y - 1) / 400 ≤ 730692568 := by omega
          generalize (Y - 1) / 400 = R at hx2 hff ⊢
          generalize (Y - 1) % 400 = yy at hx hff ⊢
          obtain ⟨hx0, hx1⟩ := hx
          obtain ⟨hr0, hr1⟩ := hx2
          go_upto_region 11 with (fail)
          have hN : R * 146097 + 365 * yy + yy / 4 - yy / 100 + (153 * (M - 3 + 12) + 2) / 5 + D - 1 - 719468 = dayNo Y M D := by rw [HDN.out, ← hff.out]; omega
          have hNb : -106760000000000 ≤ dayNo Y M D ∧ dayNo Y M D ≤ 106760000000100 := by rw [HDN.out]; have := HFB.out; omega
          obtain ⟨N, eN⟩ : ∃ N, N = dayNo Y M D := ⟨_, rfl⟩
          obtain ⟨T, eT⟩ : ∃ T, T = h * 3600 + m * 60 + s := ⟨_, rfl⟩
          have hTb : 0 ≤ T ∧ T < 86400 := by omega
          simp only [← eN] at hNb hN
          simp only [hN, ← eT]
          have HN := Lib.hid eN.symm
          have HT := Lib.hid eT.symm
          obtain ⟨hN0, hN1⟩ := hNb
          obtain ⟨hT0, hT1⟩ := hTb
          clear eN eT hN hff HDN HFB hx0 hx1 hr0 hr1 k0 k1 k2 k3 k4 k5
          go_upto_region 12 with (fail)
          go_wp2_with fail
          (with_reducible refine (floor_low _).mono ?_)
          rintro e w4 ⟨rfl, n4, rfl⟩
          go_wp2_with fail
          (with_reducible refine (floor_high _).mono ?_)
          rintro e w5 ⟨rfl, n5, rfl⟩
          by_cases c1 : N < -106751991167301
          · have e1 : decide (N < -106751991167301) = true := decide_eq_true c1
            have HP := Lib.hid (show .tuple #[.int .i64 0, .int .u8 12] = secV Y M D h m s by
              unfold secV
              rw [if_neg (by simp [HR.out]), if_neg (by unfold totalS; rw [HN.out, HT.out]; omega)])
            go_wp2_with fail
            go_ret2
            exact ⟨congrArg Ending.returned HP.out, HB.out.trans ⟨rfl, rfl, rfl, Nat.le_refl _, fun _ _ => rfl⟩⟩
          · have e1 : decide (N < -106751991167301) = false := decide_eq_false c1
            by_cases c2 : N = -106751991167301
            · have e2 : (N == -106751991167301) = true := by simpa using c2
              by_cases c3 : T < 30592
              · have e3 : decide (T < 30592) = true := decide_eq_true c3
                have HP := Lib.hid (show .tuple #[.int .i64 0, .int .u8 12] = secV Y M D h m s by
                  unfold secV
                  rw [if_neg (by simp [HR.out]), if_neg (by unfold totalS; rw [HN.out, HT.out]; omega)])
                go_wp2_with fail
                go_ret2
                exact ⟨congrArg Ending.returned HP.out, HB.out.trans ⟨rfl, rfl, rfl, Nat.le_refl _, fun _ _ => rfl⟩⟩
              · have e3 : decide (T < 30592) = false := decide_eq_false c3
                have e4 : decide (106751991167300 < N) = false := decide_eq_false (by omega)
                have e5 : (N == 106751991167300) = false := by simp only [beq_eq_false_iff_ne]; omega
                have HP := Lib.hid (show ∀ q : Int, q = N * 86400 + T → .tuple #[.int .i64 q, .int .u8 0] = secV Y M D h m s by
                  rintro q rfl
                  unfold secV
                  rw [if_neg (by simp [HR.out]), if_pos (by unfold totalS; rw [HN.out, HT.out]; omega)]
                  unfold totalS
                  rw [HN.out, HT.out])
                by_cases hn : N < 0
                · have e0 : decide (N < 0) = true := decide_eq_true hn
                  have g1 : -9223372036854775808 ≤ (N + 1) * 86400 := by omega
                  have g2 : (N + 1) * 86400 ≤ 9223372036854775807 := by omega
                  have g3 : -9223372036854775808 ≤ (N + 1) * 86400 + (T - 86400) := by omega
                  go_wp2_with fail
                  go_ret2
                  exact ⟨congrArg Ending.returned (HP.out _ (by omega)), HB.out.trans ⟨rfl, rfl, rfl, Nat.le_refl _, fun _ _ => rfl⟩⟩
                · have e0 : decide (N < 0) = false := decide_eq_false hn
                  go_wp2_with fail
                  go_ret2
                  exact ⟨congrArg Ending.returned (HP.out _ (by first | rfl | omega)), HB.out.trans ⟨rfl, rfl, rfl, Nat.le_refl _, fun _ _ => rfl⟩⟩
            · have e2 : (N == -106751991167301) = false := by simpa using c2
              by_cases c4 : 106751991167300 < N
              · have e4 : decide (106751991167300 < N) = true := decide_eq_true c4
                have HP := Lib.hid (show .tuple #[.int .i64 0, .int .u8 12] = secV Y M D h m s by
                  unfold secV
                  rw [if_neg (by simp [HR.out]), if_neg (by unfold totalS; rw [HN.out, HT.out]; omega)])
                go_wp2_with fail
                go_ret2
                exact ⟨congrArg Ending.returned HP.out, HB.out.trans ⟨rfl, rfl, rfl, Nat.le_refl _, fun _ _ => rfl⟩⟩
              · have e4 : decide (106751991167300 < N) = false := decide_eq_false c4
                by_cases c5 : N = 106751991167300
                · have e5 : (N == 106751991167300) = true := by simpa using c5
                  by_cases c6 : 55807 < T
                  · have e6 : decide (55807 < T) = true := decide_eq_true c6
                    have HP := Lib.hid (show .tuple #[.int .i64 0, .int .u8 12] = secV Y M D h m s by
                      unfold secV
                      rw [if_neg (by simp [HR.out]), if_neg (by unfold totalS; rw [HN.out, HT.out]; omega)])
                    go_wp2_with fail
                    go_ret2
                    exact ⟨congrArg Ending.returned HP.out, HB.out.trans ⟨rfl, rfl, rfl, Nat.le_refl _, fun _ _ => rfl⟩⟩
                  · have e6 : decide (55807 < T) = false := decide_eq_false c6
                    have HP := Lib.hid (show ∀ q : Int, q = N * 86400 + T → .tuple #[.int .i64 q, .int .u8 0] = secV Y M D h m s by
                      rintro q rfl
                      unfold secV
                      rw [if_neg (by simp [HR.out]), if_pos (by unfold totalS; rw [HN.out, HT.out]; omega)]
                      unfold totalS
                      rw [HN.out, HT.out])
                    by_cases hn : N < 0
                    · have e0 : decide (N < 0) = true := decide_eq_true hn
                      have g1 : -9223372036854775808 ≤ (N + 1) * 86400 := by omega
                      have g2 : (N + 1) * 86400 ≤ 9223372036854775807 := by omega
                      have g3 : -9223372036854775808 ≤ (N + 1) * 86400 + (T - 86400) := by omega
                      go_wp2_with fail
                      go_ret2
                      exact ⟨congrArg Ending.returned (HP.out _ (by omega)), HB.out.trans ⟨rfl, rfl, rfl, Nat.le_refl _, fun _ _ => rfl⟩⟩
                    · have e0 : decide (N < 0) = false := decide_eq_false hn
                      go_wp2_with fail
                      go_ret2
                      exact ⟨congrArg Ending.returned (HP.out _ (by first | rfl | omega)), HB.out.trans ⟨rfl, rfl, rfl, Nat.le_refl _, fun _ _ => rfl⟩⟩
                · have e5 : (N == 106751991167300) = false := by simpa using c5
                  have HP := Lib.hid (show ∀ q : Int, q = N * 86400 + T → .tuple #[.int .i64 q, .int .u8 0] = secV Y M D h m s by
                    rintro q rfl
                    unfold secV
                    rw [if_neg (by simp [HR.out]), if_pos (by unfold totalS; rw [HN.out, HT.out]; omega)]
                    unfold totalS
                    rw [HN.out, HT.out])
                  by_cases hn : N < 0
                  · have e0 : decide (N < 0) = true := decide_eq_true hn
                    have g1 : -9223372036854775808 ≤ (N + 1) * 86400 := by omega
                    have g2 : (N + 1) * 86400 ≤ 9223372036854775807 := by omega
                    have g3 : -9223372036854775808 ≤ (N + 1) * 86400 + (T - 86400) := by omega
                    go_wp2_with fail
                    go_ret2
                    exact ⟨congrArg Ending.returned (HP.out _ (by omega)), HB.out.trans ⟨rfl, rfl, rfl, Nat.le_refl _, fun _ _ => rfl⟩⟩
                  · have e0 : decide (N < 0) = false := decide_eq_false hn
                    go_wp2_with fail
                    go_ret2
                    exact ⟨congrArg Ending.returned (HP.out _ (by first | rfl | omega)), HB.out.trans ⟨rfl, rfl, rfl, Nat.le_refl _, fun _ _ => rfl⟩⟩
        · have d3 : decide (M - 3 < 0) = false := decide_eq_false (by omega)
          have hff := Lib.hid (first_floor Y M (Y) (M - 3) (by rw [if_neg hm]) (by rw [if_neg hm]))
          have hdn : dayNo Y M D = first Y M + D - 1 := rfl
          have HDN := Lib.hid hdn
          have HR := Lib.hid hr
          have HFB := Lib.hid (show -106760000000000 ≤ first Y M ∧ first Y M ≤ 106760000000000 by omega)
          clear hr hdm hf hdn
          go_enter Tryd.func8, Tryd.ntmps8
          go_wp2_with fail
          (with_reducible refine HC.out.mono ?_)
          rintro e w2 ⟨rfl, hb⟩
          have HB := Lib.hid (below_boxed hb)
          obtain ⟨k0, k1, k2, k3, k4, k5⟩ := box_cells hb
          clear hb
          go_wp2_with fail
          go_quiet (fail)
          go_wp2_with fail
          (with_reducible refine (floor_calls (Y) 400 _ (by omega) (by omega) (by decide) (by decide)).mono ?_)
          rintro e w3 ⟨rfl, n3, rfl⟩
          have hx : 0 ≤ (Y) % 400 ∧ (Y) % 400 < 400 := by omega
          have hx2 : -730692568 ≤ (Y) / 400 ∧ (Y) / 400 ≤ 730692568 := by omega
          generalize (Y) / 400 = R at hx2 hff ⊢
          generalize (Y) % 400 = yy at hx hff ⊢
          obtain ⟨hx0, hx1⟩ := hx
          obtain ⟨hr0, hr1⟩ := hx2
          go_upto_region 11 with (fail)
          have hN : R * 146097 + 365 * yy + yy / 4 - yy / 100 + (153 * (M - 3) + 2) / 5 + D - 1 - 719468 = dayNo Y M D := by rw [HDN.out, ← hff.out]; omega
          have hNb : -106760000000000 ≤ dayNo Y M D ∧ dayNo Y M D ≤ 106760000000100 := by rw [HDN.out]; have := HFB.out; omega
          obtain ⟨N, eN⟩ : ∃ N, N = dayNo Y M D := ⟨_, rfl⟩
          obtain ⟨T, eT⟩ : ∃ T, T = h * 3600 + m * 60 + s := ⟨_, rfl⟩
          have hTb : 0 ≤ T ∧ T < 86400 := by omega
          simp only [← eN] at hNb hN
          simp only [hN, ← eT]
          have HN := Lib.hid eN.symm
          have HT := Lib.hid eT.symm
          obtain ⟨hN0, hN1⟩ := hNb
          obtain ⟨hT0, hT1⟩ := hTb
          clear eN eT hN hff HDN HFB hx0 hx1 hr0 hr1 k0 k1 k2 k3 k4 k5
          go_upto_region 12 with (fail)
          go_wp2_with fail
          (with_reducible refine (floor_low _).mono ?_)
          rintro e w4 ⟨rfl, n4, rfl⟩
          go_wp2_with fail
          (with_reducible refine (floor_high _).mono ?_)
          rintro e w5 ⟨rfl, n5, rfl⟩
          by_cases c1 : N < -106751991167301
          · have e1 : decide (N < -106751991167301) = true := decide_eq_true c1
            have HP := Lib.hid (show .tuple #[.int .i64 0, .int .u8 12] = secV Y M D h m s by
              unfold secV
              rw [if_neg (by simp [HR.out]), if_neg (by unfold totalS; rw [HN.out, HT.out]; omega)])
            go_wp2_with fail
            go_ret2
            exact ⟨congrArg Ending.returned HP.out, HB.out.trans ⟨rfl, rfl, rfl, Nat.le_refl _, fun _ _ => rfl⟩⟩
          · have e1 : decide (N < -106751991167301) = false := decide_eq_false c1
            by_cases c2 : N = -106751991167301
            · have e2 : (N == -106751991167301) = true := by simpa using c2
              by_cases c3 : T < 30592
              · have e3 : decide (T < 30592) = true := decide_eq_true c3
                have HP := Lib.hid (show .tuple #[.int .i64 0, .int .u8 12] = secV Y M D h m s by
                  unfold secV
                  rw [if_neg (by simp [HR.out]), if_neg (by unfold totalS; rw [HN.out, HT.out]; omega)])
                go_wp2_with fail
                go_ret2
                exact ⟨congrArg Ending.returned HP.out, HB.out.trans ⟨rfl, rfl, rfl, Nat.le_refl _, fun _ _ => rfl⟩⟩
              · have e3 : decide (T < 30592) = false := decide_eq_false c3
                have e4 : decide (106751991167300 < N) = false := decide_eq_false (by omega)
                have e5 : (N == 106751991167300) = false := by simp only [beq_eq_false_iff_ne]; omega
                have HP := Lib.hid (show ∀ q : Int, q = N * 86400 + T → .tuple #[.int .i64 q, .int .u8 0] = secV Y M D h m s by
                  rintro q rfl
                  unfold secV
                  rw [if_neg (by simp [HR.out]), if_pos (by unfold totalS; rw [HN.out, HT.out]; omega)]
                  unfold totalS
                  rw [HN.out, HT.out])
                by_cases hn : N < 0
                · have e0 : decide (N < 0) = true := decide_eq_true hn
                  have g1 : -9223372036854775808 ≤ (N + 1) * 86400 := by omega
                  have g2 : (N + 1) * 86400 ≤ 9223372036854775807 := by omega
                  have g3 : -9223372036854775808 ≤ (N + 1) * 86400 + (T - 86400) := by omega
                  go_wp2_with fail
                  go_ret2
                  exact ⟨congrArg Ending.returned (HP.out _ (by omega)), HB.out.trans ⟨rfl, rfl, rfl, Nat.le_refl _, fun _ _ => rfl⟩⟩
                · have e0 : decide (N < 0) = false := decide_eq_false hn
                  go_wp2_with fail
                  go_ret2
                  exact ⟨congrArg Ending.returned (HP.out _ (by first | rfl | omega)), HB.out.trans ⟨rfl, rfl, rfl, Nat.le_refl _, fun _ _ => rfl⟩⟩
            · have e2 : (N == -106751991167301) = false := by simpa using c2
              by_cases c4 : 106751991167300 < N
              · have e4 : decide (106751991167300 < N) = true := decide_eq_true c4
                have HP := Lib.hid (show .tuple #[.int .i64 0, .int .u8 12] = secV Y M D h m s by
                  unfold secV
                  rw [if_neg (by simp [HR.out]), if_neg (by unfold totalS; rw [HN.out, HT.out]; omega)])
                go_wp2_with fail
                go_ret2
                exact ⟨congrArg Ending.returned HP.out, HB.out.trans ⟨rfl, rfl, rfl, Nat.le_refl _, fun _ _ => rfl⟩⟩
              · have e4 : decide (106751991167300 < N) = false := decide_eq_false c4
                by_cases c5 : N = 106751991167300
                · have e5 : (N == 106751991167300) = true := by simpa using c5
                  by_cases c6 : 55807 < T
                  · have e6 : decide (55807 < T) = true := decide_eq_true c6
                    have HP := Lib.hid (show .tuple #[.int .i64 0, .int .u8 12] = secV Y M D h m s by
                      unfold secV
                      rw [if_neg (by simp [HR.out]), if_neg (by unfold totalS; rw [HN.out, HT.out]; omega)])
                    go_wp2_with fail
                    go_ret2
                    exact ⟨congrArg Ending.returned HP.out, HB.out.trans ⟨rfl, rfl, rfl, Nat.le_refl _, fun _ _ => rfl⟩⟩
                  · have e6 : decide (55807 < T) = false := decide_eq_false c6
                    have HP := Lib.hid (show ∀ q : Int, q = N * 86400 + T → .tuple #[.int .i64 q, .int .u8 0] = secV Y M D h m s by
                      rintro q rfl
                      unfold secV
                      rw [if_neg (by simp [HR.out]), if_pos (by unfold totalS; rw [HN.out, HT.out]; omega)]
                      unfold totalS
                      rw [HN.out, HT.out])
                    by_cases hn : N < 0
                    · have e0 : decide (N < 0) = true := decide_eq_true hn
                      have g1 : -9223372036854775808 ≤ (N + 1) * 86400 := by omega
                      have g2 : (N + 1) * 86400 ≤ 9223372036854775807 := by omega
                      have g3 : -9223372036854775808 ≤ (N + 1) * 86400 + (T - 86400) := by omega
                      go_wp2_with fail
                      go_ret2
                      exact ⟨congrArg Ending.returned (HP.out _ (by omega)), HB.out.trans ⟨rfl, rfl, rfl, Nat.le_refl _, fun _ _ => rfl⟩⟩
                    · have e0 : decide (N < 0) = false := decide_eq_false hn
                      go_wp2_with fail
                      go_ret2
                      exact ⟨congrArg Ending.returned (HP.out _ (by first | rfl | omega)), HB.out.trans ⟨rfl, rfl, rfl, Nat.le_refl _, fun _ _ => rfl⟩⟩
                · have e5 : (N == 106751991167300) = false := by simpa using c5
                  have HP := Lib.hid (show ∀ q : Int, q = N * 86400 + T → .tuple #[.int .i64 q, .int .u8 0] = secV Y M D h m s by
                    rintro q rfl
                    unfold secV
                    rw [if_neg (by simp [HR.out]), if_pos (by unfold totalS; rw [HN.out, HT.out]; omega)]
                    unfold totalS
                    rw [HN.out, HT.out])
                  by_cases hn : N < 0
                  · have e0 : decide (N < 0) = true := decide_eq_true hn
                    have g1 : -9223372036854775808 ≤ (N + 1) * 86400 := by omega
                    have g2 : (N + 1) * 86400 ≤ 9223372036854775807 := by omega
                    have g3 : -9223372036854775808 ≤ (N + 1) * 86400 + (T - 86400) := by omega
                    go_wp2_with fail
                    go_ret2
                    exact ⟨congrArg Ending.returned (HP.out _ (by omega)), HB.out.trans ⟨rfl, rfl, rfl, Nat.le_refl _, fun _ _ => rfl⟩⟩
                  · have e0 : decide (N < 0) = false := decide_eq_false hn
                    go_wp2_with fail
                    go_ret2
                    exact ⟨congrArg Ending.returned (HP.out _ (by first | rfl | omega)), HB.out.trans ⟨rfl, rfl, rfl, Nat.le_refl _, fun _ _ => rfl⟩⟩
/-- The weekday of a second. -/
def weekOf (sec : Int) : Int := (sec / 86400 + 4) % 7
set_option maxRecDepth 100000 in
theorem weekday_calls (sec : Int) (w : World) (h0 : -9223372036854775808 ≤ sec) (h1 : sec ≤ 9223372036854775807) : Calls Tryd.prog 21 #[.int .i64 sec] w (RetQ (.int .i64 (weekOf sec)) w) := by
  have hn : -106751991167301 ≤ sec / 86400 ∧ sec / 86400 ≤ 106751991167300 := by omega
  have HW := Lib.hid (show weekOf sec = (sec / 86400 + 4) % 7 from rfl)
  have hf := Lib.hid (floor_calls sec 86400 w h0 h1 (by decide) (by decide))
  generalize sec / 86400 = n at hn HW hf
  obtain ⟨hn0, hn1⟩ := hn
  go_enter Tryd.func21, Tryd.ntmps21
  go_wp2_with fail
  (with_reducible refine hf.out.mono ?_)
  rintro e w1 ⟨rfl, n1, rfl⟩
  go_wp2_with fail
  (with_reducible refine (floor_calls (n + 4) 7 _ (by omega) (by omega) (by decide) (by decide)).mono ?_)
  rintro e w2 ⟨rfl, n2, rfl⟩
  go_wp2_with fail
  go_ret
  exact ⟨congrArg (fun x => Ending.returned (Value.int .i64 x)) HW.out.symm, _, rfl⟩
end Go.Proofs.YtkjglhehlkjfgaaDoor.Hand
