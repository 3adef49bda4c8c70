-- Written by a program of this session over the print (contracts by hand for the functions that it passes over).
import Derived.Test.YteiabjoagcfpfaaDoorPSumChecksx0
namespace Go.Proofs.YteiabjoagcfpfaaDoor.PSumChecks
open Go.RowKit Go.Proofs.YteiabjoagcfpfaaDoorW.PrintWords Go.Proofs.YteiabjoagcfpfaaDoorW.PrintLast Go.Proofs.YteiabjoagcfpfaaDoorW.PrintMore
attribute [local go_sem] max2_int min2_int max_two min_two max_three min_three max_four min_four   -- for this text's walks alone
set_option linter.unusedVariables false
set_option linter.unusedSimpArgs false

/-! ### sum_Sum: function 6 -/
def sum_Sum.l0 : Nat → Int → Int → List Int → Int → Int → Option (Int × Int × Int)
  | 0, _, _, _, _, _ => none
  | k + 1, x5, x6, x12, x13, x14 => if x14 < x13 then (if 0 ≤ x14 then (if x14 < (x12.length : Int) then (if x14 ≥ 148 then (if x14 < 156 then (sum_Sum.l0 k (wrap64 (x5 + 32)) (wrap64 (x6 + 32)) x12 x13 (wrap64 (x14 + 1))) else (sum_Sum.l0 k (wrap64 (x5 + (wrap64 (rd x12 x14)))) (wrap64 (x6 + (wrap64 (IntKind.i8.wrap (rd x12 x14))))) x12 x13 (wrap64 (x14 + 1)))) else (sum_Sum.l0 k (wrap64 (x5 + (wrap64 (rd x12 x14)))) (wrap64 (x6 + (wrap64 (IntKind.i8.wrap (rd x12 x14))))) x12 x13 (wrap64 (x14 + 1)))) else (none)) else (none)) else (some (x5, x6, 0))
def sum_Sum.f (k : Nat) (l0 : List Int) : Option (Int × Int × Int) := if (l0.length : Int) = 512 then (sum_Sum.l0 k 0 0 l0 (l0.length : Int) 0) else (some (0, 0, 2))
theorem sum_Sum.mono_l : ∀ k, (∀ y0 y1 y2 y3 y4, LeO (sum_Sum.l0 k y0 y1 y2 y3 y4) (sum_Sum.l0 (k + 1) y0 y1 y2 y3 y4))
  | 0 => fun _ _ _ _ _ r h => by simp [sum_Sum.l0] at h
  | k + 1 => by
    have ih0 := sum_Sum.mono_l k
    · intro y0 y1 y2 y3 y4
      unfold sum_Sum.l0
      repeat' first
      | (with_reducible exact ih0 _ _ _ _ _)
      | (with_reducible exact LeO.refl _)
      | (with_reducible exact LeO.none _)
      | (with_reducible refine LeO.ite ?_ ?_)
      | (with_reducible refine LeO.bind ?_ (fun _ => ?_))
      | exact ih0 _ _ _ _ _
      | exact LeO.none _
      | refine LeO.ite ?_ ?_
      | refine LeO.bind ?_ (fun _ => ?_)
theorem sum_Sum.mono : ∀ a0 k, LeO (sum_Sum.f k a0) (sum_Sum.f (k + 1) a0) := by
  intro a0 k
  have ih0 := sum_Sum.mono_l k
  unfold sum_Sum.f
  repeat' first
      | (with_reducible exact ih0 _ _ _ _ _)
      | (with_reducible exact LeO.refl _)
      | (with_reducible exact LeO.none _)
      | (with_reducible refine LeO.ite ?_ ?_)
      | (with_reducible refine LeO.bind ?_ (fun _ => ?_))
      | exact ih0 _ _ _ _ _
      | exact LeO.none _
      | refine LeO.ite ?_ ?_
      | refine LeO.bind ?_ (fun _ => ?_)
set_option maxHeartbeats 8000000 in
set_option maxRecDepth 100000 in
theorem sum_Sum.calls (k : Nat) (A0 : Option Addr) (c0 : Nat) (l0 : List Int) (r1 : Int) (r2 : Int) (r3 : Int) (w : World) (hr0 : Kd.C (Kd.int .u8) w A0 l0.length l0) (hc0 : l0.length ≤ c0) (h : sum_Sum.f k l0 = some (r1, r2, r3)) :
    Calls Tryd.prog 6 #[.slice A0 l0.length c0] w fun e w' => e = .returned (.tuple #[.int .i64 r1, .int .i64 r2, .int .u8 r3]) ∧ Drawn0 w w' := by
  have HR0 := Aside0.mk hr0
  have HC0 := Aside0.mk hc0
  clear hr0 hc0
  have H : (if (l0.length : Int) = 512 then (sum_Sum.l0 k 0 0 l0 (l0.length : Int) 0) else (some (0, 0, 2))) = some (r1, r2, r3) := h
  clear h
  by_cases c2 : (l0.length : Int) = 512
  · rw [if_pos c2] at H
    have c2b0 : ((l0.length : Int) == 512) = true := beq_iff_eq.mpr c2
    have c2b1 : ((l0.length : Int) != 512) = false := bne_eq_false_iff_eq.mpr c2
    clear c2
    have H' := Aside0.mk H
    clear H
    go_enter Tryd.func6, Tryd.ntmps6
    go_wp2
    go_loopg [5, 6, 14] k (fun kq v5 v6 v14 w' => ∃ (x5_1 : Int) (x6_1 : Int) (x14_1 : Int), v5 = .int .i64 x5_1 ∧ v6 = .int .i64 x6_1 ∧ v14 = .int .i64 x14_1 ∧ Aside0 (sum_Sum.l0 kq x5_1 x6_1 l0 (l0.length : Int) x14_1 = some (r1, r2, r3)) ∧ Aside0 (kq ≤ k) ∧ Drawn0 w w')
    case atStart => exact ⟨(0), (0), (0), (by first | rfl | (simp; done) | (simp [*]; done)), (by first | rfl | (simp; done) | (simp [*]; done)), (by first | rfl | (simp; done) | (simp [*]; done)), H', ⟨Nat.le_refl _⟩, by repeat (first | exact Drawn0.refl _ | apply Drawn0.step)⟩
    case round =>
      clear H'
      try clear c2
      try clear c2b0
      try clear c2b1
      try clear p2
      obtain ⟨x5_1, x6_1, x14_1, rfl, rfl, rfl, HA, HK1, ⟨m1, rfl⟩⟩ := hrel
      cases gk with
      | zero => exact absurd HA.out (by simp [sum_Sum.l0])
      | succ k1 =>
        have H := HA.out
        clear HA
        simp only [sum_Sum.l0] at H
        by_cases c3 : x14_1 < (l0.length : Int)
        · rw [if_pos c3] at H
          have c3b0 : decide (x14_1 < (l0.length : Int)) = true := decide_eq_true c3
          clear c3
          by_cases c4 : 0 ≤ x14_1
          · rw [if_pos c4] at H
            have c4b0 : decide (0 ≤ x14_1) = true := decide_eq_true c4
            clear c4
            by_cases c5 : x14_1 < (l0.length : Int)
            · rw [if_pos c5] at H
              have c5b0 : decide (x14_1 < (l0.length : Int)) = true := decide_eq_true c5
              clear c5
              by_cases c6 : x14_1 ≥ 148
              · rw [if_pos c6] at H
                have c6b0 : decide (148 ≤ x14_1) = true := decide_eq_true c6
                clear c6
                by_cases c7 : x14_1 < 156
                · rw [if_pos c7] at H
                  have c7b0 : decide (x14_1 < 156) = true := decide_eq_true c7
                  clear c7
                  have H' := Aside0.mk H
                  clear H
                  have p101 : 0 ≤ (x14_1 : Int) := of_decide_eq_true (by first | (with_reducible assumption) | assumption)
                  have q101 : x14_1 < (l0.length : Int) := of_decide_eq_true (by first | (with_reducible assumption) | assumption)
                  obtain ⟨ad101, e101, hx101_0⟩ := Kd.at_int HR0.out x14_1 p101 q101
                  cases e101
                  replace p101 := eq_true p101
                  replace q101 := eq_true q101
                  go_wp2
                  go_roundg k1
                  case measure => have := HK1.out; omega
                  case rel => exact ⟨(wrap64 (x5_1 + 32)), (wrap64 (x6_1 + 32)), (wrap64 (x14_1 + 1)), (by first | rfl | (simp; done) | (simp [*]; done)), (by first | rfl | (simp; done) | (simp [*]; done)), (by first | rfl | (simp; done) | (simp [*]; done)), H', ⟨by have := HK1.out; omega⟩, by repeat (first | exact Drawn0.refl _ | apply Drawn0.step)⟩
                · rw [if_neg c7] at H
                  have c7b0 : decide (x14_1 < 156) = false := decide_eq_false c7
                  clear c7
                  have H' := Aside0.mk H
                  clear H
                  have p101 : 0 ≤ (x14_1 : Int) := of_decide_eq_true (by first | (with_reducible assumption) | assumption)
                  have q101 : x14_1 < (l0.length : Int) := of_decide_eq_true (by first | (with_reducible assumption) | assumption)
                  obtain ⟨ad101, e101, hx101_0⟩ := Kd.at_int HR0.out x14_1 p101 q101
                  cases e101
                  replace p101 := eq_true p101
                  replace q101 := eq_true q101
                  go_wp2
                  go_roundg k1
                  case measure => have := HK1.out; omega
                  case rel => exact ⟨(wrap64 (x5_1 + (wrap64 (rd l0 x14_1)))), (wrap64 (x6_1 + (wrap64 (IntKind.i8.wrap (rd l0 x14_1))))), (wrap64 (x14_1 + 1)), (by first | rfl | (simp; done) | (simp [*]; done)), (by first | rfl | (simp; done) | (simp [*]; done)), (by first | rfl | (simp; done) | (simp [*]; done)), H', ⟨by have := HK1.out; omega⟩, by repeat (first | exact Drawn0.refl _ | apply Drawn0.step)⟩
              · rw [if_neg c6] at H
                have c6b0 : decide (148 ≤ x14_1) = false := decide_eq_false c6
                clear c6
                have H' := Aside0.mk H
                clear H
                have p101 : 0 ≤ (x14_1 : Int) := of_decide_eq_true (by first | (with_reducible assumption) | assumption)
                have q101 : x14_1 < (l0.length : Int) := of_decide_eq_true (by first | (with_reducible assumption) | assumption)
                obtain ⟨ad101, e101, hx101_0⟩ := Kd.at_int HR0.out x14_1 p101 q101
                cases e101
                replace p101 := eq_true p101
                replace q101 := eq_true q101
                go_wp2
                go_roundg k1
                case measure => have := HK1.out; omega
                case rel => exact ⟨(wrap64 (x5_1 + (wrap64 (rd l0 x14_1)))), (wrap64 (x6_1 + (wrap64 (IntKind.i8.wrap (rd l0 x14_1))))), (wrap64 (x14_1 + 1)), (by first | rfl | (simp; done) | (simp [*]; done)), (by first | rfl | (simp; done) | (simp [*]; done)), (by first | rfl | (simp; done) | (simp [*]; done)), H', ⟨by have := HK1.out; omega⟩, by repeat (first | exact Drawn0.refl _ | apply Drawn0.step)⟩
            · rw [if_neg c5] at H
              exact absurd H (by simp)
          · rw [if_neg c4] at H
            exact absurd H (by simp)
        · rw [if_neg c3] at H
          have c3b0 : decide (x14_1 < (l0.length : Int)) = false := decide_eq_false c3
          clear c3
          simp only [Option.some.injEq, Prod.mk.injEq] at H
          obtain ⟨rfl, rfl, rfl⟩ := H
          go_wp2
          go_ret3
          exact ⟨by first | rfl | (simp; done) | (simp [*]; done), by repeat (first | exact Drawn0.refl _ | apply Drawn0.step)⟩
  · rw [if_neg c2] at H
    have c2b0 : ((l0.length : Int) == 512) = false := beq_eq_false_iff_ne.mpr c2
    have c2b1 : ((l0.length : Int) != 512) = true := bne_iff_ne.mpr c2
    simp only [Option.some.injEq, Prod.mk.injEq] at H
    obtain ⟨rfl, rfl, rfl⟩ := H
    go_enter Tryd.func6, Tryd.ntmps6
    go_wp2
    go_ret3
    exact ⟨by first | rfl | (simp; done) | (simp [*]; done), by repeat (first | exact Drawn0.refl _ | apply Drawn0.step)⟩

-- NOT PRINTED: function 28 (strconv_small)

-- NOT PRINTED: function 42 (strconv_log10Pow2)

-- NOT PRINTED: function 43 (bits_Len64)

-- NOT PRINTED: function 44 (strconv_bool2_int)

-- NOT PRINTED: function 29 (strconv_numDigits)

-- NOT PRINTED: function 30 (strconv_formatBase10)

-- NOT PRINTED: function 45 (strconv_isPowerOfTwo)

-- NOT PRINTED: function 55 (bits_TrailingZeros32)

-- NOT PRINTED: function 56 (bits_TrailingZeros64)

-- NOT PRINTED: function 46 (bits_TrailingZeros)

-- NOT PRINTED: function 31 (strconv_formatBits)

-- NOT PRINTED: function 18 (strconv_FormatInt_18)

-- NOT PRINTED: function 13 (strconv_FormatInt_13)

-- NOT PRINTED: function 14 (slices_Clone_byte_byte)

-- NOT PRINTED: function 32 (bits_Mul32)

-- NOT PRINTED: function 33 (bits_Mul64)

-- NOT PRINTED: function 19 (bits_Mul)

-- NOT PRINTED: function 34 (stringslite_HasPrefix)

-- NOT PRINTED: function 20 (strings_HasPrefix)

-- NOT PRINTED: function 47 (abi_NoEscape)

-- NOT PRINTED: function 35 (strings_Builder_copyCheck)

-- NOT PRINTED: function 48 (bytealg_MakeNoZero)

-- NOT PRINTED: function 36 (strings_Builder_grow)

-- NOT PRINTED: function 21 (strings_Builder_Grow)

-- NOT PRINTED: function 22 (strings_Builder_WriteString)

-- NOT PRINTED: function 23 (strings_Builder_Len)

-- NOT PRINTED: function 24 (strings_Builder_String)

-- NOT PRINTED: function 15 (strings_Repeat)

-- NOT PRINTED: function 7 (sum_Seal)

-- NOT PRINTED: function 5 (oakumlaw03_alive)

-- NOT PRINTED: function 37 (bytes_trimLeftByte)

-- NOT PRINTED: function 38 (bytes_makeASCIISet)

-- NOT PRINTED: function 49 (bytes_asciiSet_contains)

-- NOT PRINTED: function 39 (bytes_trimLeftASCII)

-- NOT PRINTED: function 57 (utf8_decodeRuneSlow)

-- NOT PRINTED: function 50 (utf8_DecodeRune)

-- NOT PRINTED: function 51 (bytes_containsRune)

-- NOT PRINTED: function 40 (bytes_trimLeftUnicode)

-- NOT PRINTED: function 25 (bytes_TrimLeft)

/-! ### num_octalDigit: function 26 -/
def num_octalDigit.f (a0 : Int) : Option (Bool) := if a0 ≥ 48 then (some (decide (a0 ≤ 55))) else (some false)
set_option maxHeartbeats 8000000 in
set_option maxRecDepth 100000 in
theorem num_octalDigit.calls (a0 : Int) (r : Bool) (w : World) (h : num_octalDigit.f a0 = some r) :
    Calls Tryd.prog 26 #[.int .u8 a0] w fun e w' => e = .returned (.bool r) ∧ Drawn0 w w' := by
  have H : (if a0 ≥ 48 then (some (decide (a0 ≤ 55))) else (some false)) = some r := h
  clear h
  by_cases c2 : a0 ≥ 48
  · rw [if_pos c2] at H
    have c2b0 : decide (48 ≤ a0) = true := decide_eq_true c2
    clear c2
    obtain rfl := Option.some.inj H
    go_enter Tryd.func26, Tryd.ntmps26
    go_wp2
    go_ret
    exact ⟨by first | rfl | (simp; done) | (simp [*]; done), by repeat (first | exact Drawn0.refl _ | apply Drawn0.step)⟩
  · rw [if_neg c2] at H
    have c2b0 : decide (48 ≤ a0) = false := decide_eq_false c2
    clear c2
    obtain rfl := Option.some.inj H
    go_enter Tryd.func26, Tryd.ntmps26
    go_wp2
    go_ret
    exact ⟨by first | rfl | (simp; done) | (simp [*]; done), by repeat (first | exact Drawn0.refl _ | apply Drawn0.step)⟩

-- NOT PRINTED: function 52 (bytes_trimRightByte)

-- NOT PRINTED: function 53 (bytes_trimRightASCII)

-- NOT PRINTED: function 59 (utf8_RuneStart)

-- NOT PRINTED: function 58 (utf8_DecodeLastRune)

-- NOT PRINTED: function 54 (bytes_trimRightUnicode)

-- NOT PRINTED: function 41 (bytes_Trim)

-- NOT PRINTED: function 27 (num_rest)

-- NOT PRINTED: function 16 (num_Octal)

-- NOT PRINTED: function 8 (sum_Check)

/-! ### oakumref03_Sums: function 10 -/
mutual
def oakumref03_Sums.l0 : Nat → List Int → Int → Int → Int → Option (Int × Int)
  | 0, _, _, _, _ => none
  | k + 1, x0, x4, x5, x6 => if x6 < 512 then (if x6 ≥ 148 then (oakumref03_Sums.j1 k x0 x4 x5 x6 (decide (x6 < 156))) else (oakumref03_Sums.j1 k x0 x4 x5 x6 false)) else (some (x4, wrap64 (x4 - (wrap64 (256 * x5)))))
def oakumref03_Sums.j1 : Nat → List Int → Int → Int → Int → Bool → Option (Int × Int)
  | 0, _, _, _, _, _ => none
  | k + 1, x0, x4, x5, x6, x16 => if x16 = true then (oakumref03_Sums.l0 k x0 x4 x5 (wrap64 (x6 + 1))) else (if 0 ≤ x6 then (if x6 < (x0.length : Int) then (if (rd x0 x6) ≥ 128 then (oakumref03_Sums.l0 k x0 (wrap64 (x4 + (wrap64 (rd x0 x6)))) (wrap64 (x5 + 1)) (wrap64 (x6 + 1))) else (oakumref03_Sums.l0 k x0 (wrap64 (x4 + (wrap64 (rd x0 x6)))) x5 (wrap64 (x6 + 1)))) else (none)) else (none))
end
def oakumref03_Sums.f (k : Nat) (l0 : List Int) : Option (Int × Int) := oakumref03_Sums.l0 k l0 256 0 0
theorem oakumref03_Sums.mono_l : ∀ k, (∀ y0 y1 y2 y3, LeO (oakumref03_Sums.l0 k y0 y1 y2 y3) (oakumref03_Sums.l0 (k + 1) y0 y1 y2 y3)) ∧ (∀ y0 y1 y2 y3 y4, LeO (oakumref03_Sums.j1 k y0 y1 y2 y3 y4) (oakumref03_Sums.j1 (k + 1) y0 y1 y2 y3 y4))
  | 0 => ⟨fun _ _ _ _ r h => by simp [oakumref03_Sums.l0] at h, fun _ _ _ _ _ r h => by simp [oakumref03_Sums.j1] at h⟩
  | k + 1 => by
    obtain ⟨ih0, ih1⟩ := oakumref03_Sums.mono_l k
    refine ⟨?_, ?_⟩
    · intro y0 y1 y2 y3
      unfold oakumref03_Sums.l0
      repeat' first
      | (with_reducible exact ih0 _ _ _ _)
      | (with_reducible exact ih1 _ _ _ _ _)
      | (with_reducible exact LeO.refl _)
      | (with_reducible exact LeO.none _)
      | (with_reducible refine LeO.ite ?_ ?_)
      | (with_reducible refine LeO.bind ?_ (fun _ => ?_))
      | exact ih0 _ _ _ _
      | exact ih1 _ _ _ _ _
      | exact LeO.none _
      | refine LeO.ite ?_ ?_
      | refine LeO.bind ?_ (fun _ => ?_)
    · intro y0 y1 y2 y3 y4
      unfold oakumref03_Sums.j1
      repeat' first
      | (with_reducible exact ih0 _ _ _ _)
      | (with_reducible exact ih1 _ _ _ _ _)
      | (with_reducible exact LeO.refl _)
      | (with_reducible exact LeO.none _)
      | (with_reducible refine LeO.ite ?_ ?_)
      | (with_reducible refine LeO.bind ?_ (fun _ => ?_))
      | exact ih0 _ _ _ _
      | exact ih1 _ _ _ _ _
      | exact LeO.none _
      | refine LeO.ite ?_ ?_
      | refine LeO.bind ?_ (fun _ => ?_)
theorem oakumref03_Sums.mono : ∀ a0 k, LeO (oakumref03_Sums.f k a0) (oakumref03_Sums.f (k + 1) a0) := by
  intro a0 k
  obtain ⟨ih0, ih1⟩ := oakumref03_Sums.mono_l k
  unfold oakumref03_Sums.f
  repeat' first
      | (with_reducible exact ih0 _ _ _ _)
      | (with_reducible exact ih1 _ _ _ _ _)
      | (with_reducible exact LeO.refl _)
      | (with_reducible exact LeO.none _)
      | (with_reducible refine LeO.ite ?_ ?_)
      | (with_reducible refine LeO.bind ?_ (fun _ => ?_))
      | exact ih0 _ _ _ _
      | exact ih1 _ _ _ _ _
      | exact LeO.none _
      | refine LeO.ite ?_ ?_
      | refine LeO.bind ?_ (fun _ => ?_)
set_option maxHeartbeats 8000000 in
set_option maxRecDepth 100000 in
theorem oakumref03_Sums.calls (k : Nat) (A0 : Option Addr) (c0 : Nat) (l0 : List Int) (r1 : Int) (r2 : Int) (w : World) (hr0 : Kd.C (Kd.int .u8) w A0 l0.length l0) (hc0 : l0.length ≤ c0) (h : oakumref03_Sums.f k l0 = some (r1, r2)) :
    Calls Tryd.prog 10 #[.slice A0 l0.length c0] w fun e w' => e = .returned (.tuple #[.int .i64 r1, .int .i64 r2]) ∧ Drawn0 w w' := by
  have HR0 := Aside0.mk hr0
  have HC0 := Aside0.mk hc0
  clear hr0 hc0
  have H : (oakumref03_Sums.l0 k l0 256 0 0) = some (r1, r2) := h
  clear h
  have H' := Aside0.mk H
  clear H
  go_enter Tryd.func10, Tryd.ntmps10
  go_wp2
  go_loopg [4, 5, 6] k (fun kq v4 v5 v6 w' => ∃ (x4_1 : Int) (x5_1 : Int) (x6_1 : Int), v4 = .int .i64 x4_1 ∧ v5 = .int .i64 x5_1 ∧ v6 = .int .i64 x6_1 ∧ Aside0 (oakumref03_Sums.l0 kq l0 x4_1 x5_1 x6_1 = some (r1, r2)) ∧ Aside0 (kq ≤ k) ∧ Drawn0 w w')
  case atStart => exact ⟨(256), (0), (0), (by first | rfl | (simp; done) | (simp [*]; done)), (by first | rfl | (simp; done) | (simp [*]; done)), (by first | rfl | (simp; done) | (simp [*]; done)), H', ⟨Nat.le_refl _⟩, by repeat (first | exact Drawn0.refl _ | apply Drawn0.step)⟩
  case round =>
    clear H'
    try clear c1
    obtain ⟨x4_1, x5_1, x6_1, rfl, rfl, rfl, HA, HK1, ⟨m1, rfl⟩⟩ := hrel
    cases gk with
    | zero => exact absurd HA.out (by simp [oakumref03_Sums.l0])
    | succ k1 =>
      have H := HA.out
      clear HA
      simp only [oakumref03_Sums.l0] at H
      by_cases c2 : x6_1 < 512
      · rw [if_pos c2] at H
        have c2b0 : decide (x6_1 < 512) = true := decide_eq_true c2
        clear c2
        have HC3 := Aside0.mk H
        clear H
        go_upto_region 5 with (fail)
        go_cut [16] (fun v16 wc => ∃ (kq : Nat) (x16_2 : Bool), v16 = .bool x16_2 ∧ Aside0 (oakumref03_Sums.j1 kq l0 x4_1 x5_1 x6_1 x16_2 = some (r1, r2)) ∧ Aside0 (kq ≤ k1) ∧ Drawn0 w wc)
        case first =>
          have H := HC3.out
          clear HC3
          by_cases c4 : x6_1 ≥ 148
          · rw [if_pos c4] at H
            have c4b0 : decide (148 ≤ x6_1) = true := decide_eq_true c4
            clear c4
            (first | rw [c4b0] | (simp only [i64_w, i32_w]; rw [c4b0]) | skip)
            have H' := Aside0.mk H
            clear H
            go_wp2
            go_meet
            case rel => exact ⟨_, (decide (x6_1 < 156)), (by first | rfl | (simp; done) | (simp [*]; done)), H', ⟨by have := HK1.out; first | omega | exact Nat.le_refl _⟩, by repeat (first | exact Drawn0.refl _ | apply Drawn0.step)⟩
          · rw [if_neg c4] at H
            have c4b0 : decide (148 ≤ x6_1) = false := decide_eq_false c4
            clear c4
            (first | rw [c4b0] | (simp only [i64_w, i32_w]; rw [c4b0]) | skip)
            have H' := Aside0.mk H
            clear H
            go_wp2
            go_meet
            case rel => exact ⟨_, (false), (by first | rfl | (simp; done) | (simp [*]; done)), H', ⟨by have := HK1.out; first | omega | exact Nat.le_refl _⟩, by repeat (first | exact Drawn0.refl _ | apply Drawn0.step)⟩
        case rest =>
          clear HC3
          try clear c1
          try clear c2
          try clear c2b0
          try clear p2
          try clear c4
          try clear c4b0
          obtain ⟨kq, x16_2, rfl, HA, HJ2, ⟨mc2, rfl⟩⟩ := hcut
          cases kq with
          | zero => exact absurd HA.out (by simp [oakumref03_Sums.j1])
          | succ kj2 =>
            have H := HA.out
            clear HA
            simp only [oakumref03_Sums.j1] at H
            by_cases c5 : x16_2 = true
            · subst c5
              have H1 : (oakumref03_Sums.l0 kj2 l0 x4_1 x5_1 (wrap64 (x6_1 + 1))) = some (r1, r2) := by rw [if_pos rfl] at H; exact H
              clear H
              have H := H1
              clear H1
              have H' := Aside0.mk H
              clear H
              go_wp2
              go_roundg kj2
              case measure => have := HK1.out; have := HJ2.out; omega
              case rel => exact ⟨(x4_1), (x5_1), (wrap64 (x6_1 + 1)), (by first | rfl | (simp; done) | (simp [*]; done)), (by first | rfl | (simp; done) | (simp [*]; done)), (by first | rfl | (simp; done) | (simp [*]; done)), H', ⟨by have := HK1.out; have := HJ2.out; omega⟩, by repeat (first | exact Drawn0.refl _ | apply Drawn0.step)⟩
            · replace c5 := Bool.eq_false_iff.mpr c5
              subst c5
              have H1 : (if 0 ≤ x6_1 then (if x6_1 < (l0.length : Int) then (if (rd l0 x6_1) ≥ 128 then (oakumref03_Sums.l0 kj2 l0 (wrap64 (x4_1 + (wrap64 (rd l0 x6_1)))) (wrap64 (x5_1 + 1)) (wrap64 (x6_1 + 1))) else (oakumref03_Sums.l0 kj2 l0 (wrap64 (x4_1 + (wrap64 (rd l0 x6_1)))) x5_1 (wrap64 (x6_1 + 1)))) else (none)) else (none)) = some (r1, r2) := by rw [if_neg (show ¬ (false = true) by decide)] at H; exact H
              clear H
              have H := H1
              clear H1
              by_cases c6 : 0 ≤ x6_1
              · rw [if_pos c6] at H
                have c6b0 : decide (0 ≤ x6_1) = true := decide_eq_true c6
                clear c6
                by_cases c7 : x6_1 < (l0.length : Int)
                · rw [if_pos c7] at H
                  have c7b0 : decide (x6_1 < (l0.length : Int)) = true := decide_eq_true c7
                  clear c7
                  by_cases c8 : (rd l0 x6_1) ≥ 128
                  · rw [if_pos c8] at H
                    have c8b0 : decide (128 ≤ (rd l0 x6_1)) = true := decide_eq_true c8
                    clear c8
                    have H' := Aside0.mk H
                    clear H
                    have p112 : 0 ≤ (x6_1 : Int) := of_decide_eq_true (by first | (with_reducible assumption) | assumption)
                    have q112 : x6_1 < (l0.length : Int) := of_decide_eq_true (by first | (with_reducible assumption) | assumption)
                    obtain ⟨ad112, e112, hx112_0⟩ := Kd.at_int HR0.out x6_1 p112 q112
                    cases e112
                    replace p112 := eq_true p112
                    replace q112 := eq_true q112
                    have p113 : 0 ≤ (x6_1 : Int) := of_decide_eq_true (by first | (with_reducible assumption) | assumption)
                    have q113 : x6_1 < (l0.length : Int) := of_decide_eq_true (by first | (with_reducible assumption) | assumption)
                    obtain ⟨ad113, e113, hx113_0⟩ := Kd.at_int HR0.out x6_1 p113 q113
                    obtain rfl : ad112 = ad113 := (by injection e113)
                    replace p113 := eq_true p113
                    replace q113 := eq_true q113
                    go_wp2
                    go_roundg kj2
                    case measure => have := HK1.out; have := HJ2.out; omega
                    case rel => exact ⟨(wrap64 (x4_1 + (wrap64 (rd l0 x6_1)))), (wrap64 (x5_1 + 1)), (wrap64 (x6_1 + 1)), (by first | rfl | (simp; done) | (simp [*]; done)), (by first | rfl | (simp; done) | (simp [*]; done)), (by first | rfl | (simp; done) | (simp [*]; done)), H', ⟨by have := HK1.out; have := HJ2.out; omega⟩, by repeat (first | exact Drawn0.refl _ | apply Drawn0.step)⟩
                  · rw [if_neg c8] at H
                    have c8b0 : decide (128 ≤ (rd l0 x6_1)) = false := decide_eq_false c8
                    clear c8
                    have H' := Aside0.mk H
                    clear H
                    have p112 : 0 ≤ (x6_1 : Int) := of_decide_eq_true (by first | (with_reducible assumption) | assumption)
                    have q112 : x6_1 < (l0.length : Int) := of_decide_eq_true (by first | (with_reducible assumption) | assumption)
                    obtain ⟨ad112, e112, hx112_0⟩ := Kd.at_int HR0.out x6_1 p112 q112
                    cases e112
                    replace p112 := eq_true p112
                    replace q112 := eq_true q112
                    have p113 : 0 ≤ (x6_1 : Int) := of_decide_eq_true (by first | (with_reducible assumption) | assumption)
                    have q113 : x6_1 < (l0.length : Int) := of_decide_eq_true (by first | (with_reducible assumption) | assumption)
                    obtain ⟨ad113, e113, hx113_0⟩ := Kd.at_int HR0.out x6_1 p113 q113
                    obtain rfl : ad112 = ad113 := (by injection e113)
                    replace p113 := eq_true p113
                    replace q113 := eq_true q113
                    go_wp2
                    go_roundg kj2
                    case measure => have := HK1.out; have := HJ2.out; omega
                    case rel => exact ⟨(wrap64 (x4_1 + (wrap64 (rd l0 x6_1)))), (x5_1), (wrap64 (x6_1 + 1)), (by first | rfl | (simp; done) | (simp [*]; done)), (by first | rfl | (simp; done) | (simp [*]; done)), (by first | rfl | (simp; done) | (simp [*]; done)), H', ⟨by have := HK1.out; have := HJ2.out; omega⟩, by repeat (first | exact Drawn0.refl _ | apply Drawn0.step)⟩
                · rw [if_neg c7] at H
                  exact absurd H (by simp)
              · rw [if_neg c6] at H
                exact absurd H (by simp)
      · rw [if_neg c2] at H
        have c2b0 : decide (x6_1 < 512) = false := decide_eq_false c2
        clear c2
        simp only [Option.some.injEq, Prod.mk.injEq] at H
        obtain ⟨rfl, rfl⟩ := H
        go_wp2
        go_ret2
        exact ⟨by first | rfl | (simp; done) | (simp [*]; done), by repeat (first | exact Drawn0.refl _ | apply Drawn0.step)⟩

end Go.Proofs.YteiabjoagcfpfaaDoor.PSumChecks
