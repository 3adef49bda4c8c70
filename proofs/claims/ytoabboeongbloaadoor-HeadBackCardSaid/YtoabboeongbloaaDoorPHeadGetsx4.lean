-- Written by a program of this session over the print (contracts by hand for the functions that it passes over).
import Derived.Test.YtoabboeongbloaaDoorPHeadGetsx0
import Derived.Test.YtoabboeongbloaaDoorPHeadGetsx3
namespace Go.Proofs.YtoabboeongbloaaDoor.PHeadGets
open Go.RowKit Go.Proofs.YtoabboeongbloaaDoorW.PrintWords Go.Proofs.YtoabboeongbloaaDoorW.PrintLast Go.Proofs.YtoabboeongbloaaDoorW.PrintMore
attribute [local go_sem] max2_int min2_int max_two min_two max_three min_three max_four min_four   -- for this text's walks alone
set_option linter.unusedVariables false
set_option linter.unusedSimpArgs false

/-! ### oakumref01_Octal: function 58 -/
mutual
def oakumref01_Octal.j1 : Nat → List Int → Int → Option (Int × Bool)
  | 0, _, _ => none
  | k + 1, x0, x4 => oakumref01_Octal.l1 k x0 x4 0
def oakumref01_Octal.l1 : Nat → List Int → Int → Int → Option (Int × Bool)
  | 0, _, _, _ => none
  | k + 1, x0, x4, x5 => if x4 < (x0.length : Int) then (if 0 ≤ x4 then (if (rd x0 x4) ≥ 48 then (oakumref01_Octal.j3 k x0 x4 x5 (decide ((rd x0 x4) ≤ 55))) else (oakumref01_Octal.j3 k x0 x4 x5 false)) else (none)) else (oakumref01_Octal.j3 k x0 x4 x5 false)
def oakumref01_Octal.j3 : Nat → List Int → Int → Int → Bool → Option (Int × Bool)
  | 0, _, _, _, _ => none
  | k + 1, x0, x4, x5, x36 => if x36 = true then (if x5 > 1152921504606846975 then (some (0, false)) else (if 0 ≤ x4 then (if x4 < (x0.length : Int) then (oakumref01_Octal.l1 k x0 (wrap64 (x4 + 1)) (wrap64 ((wrap64 ((wrap64 (8 * x5)) + (wrap64 (rd x0 x4)))) - 48))) else (none)) else (none))) else (oakumref01_Octal.l2 k x0 x4 x5)
def oakumref01_Octal.l2 : Nat → List Int → Int → Int → Option (Int × Bool)
  | 0, _, _, _ => none
  | k + 1, x0, x4, x5 => if x4 < (x0.length : Int) then (if 0 ≤ x4 then (if (rd x0 x4) = 0 then (oakumref01_Octal.l2 k x0 (wrap64 (x4 + 1)) x5) else (if (rd x0 x4) = 32 then (oakumref01_Octal.l2 k x0 (wrap64 (x4 + 1)) x5) else (some (0, false)))) else (none)) else (some (x5, true))
def oakumref01_Octal.l0 : Nat → List Int → Int → Option (Int × Bool)
  | 0, _, _ => none
  | k + 1, x0, x4 => if x4 < (x0.length : Int) then (if 0 ≤ x4 then (if (rd x0 x4) = 32 then (oakumref01_Octal.l0 k x0 (wrap64 (x4 + 1))) else (oakumref01_Octal.j1 k x0 x4)) else (none)) else (oakumref01_Octal.j1 k x0 x4)
end
def oakumref01_Octal.f (k : Nat) (l0 : List Int) : Option (Int × Bool) := oakumref01_Octal.l0 k l0 0
theorem oakumref01_Octal.mono_l : ∀ k, (∀ y0 y1, LeO (oakumref01_Octal.j1 k y0 y1) (oakumref01_Octal.j1 (k + 1) y0 y1)) ∧ (∀ y0 y1 y2, LeO (oakumref01_Octal.l1 k y0 y1 y2) (oakumref01_Octal.l1 (k + 1) y0 y1 y2)) ∧ (∀ y0 y1 y2 y3, LeO (oakumref01_Octal.j3 k y0 y1 y2 y3) (oakumref01_Octal.j3 (k + 1) y0 y1 y2 y3)) ∧ (∀ y0 y1 y2, LeO (oakumref01_Octal.l2 k y0 y1 y2) (oakumref01_Octal.l2 (k + 1) y0 y1 y2)) ∧ (∀ y0 y1, LeO (oakumref01_Octal.l0 k y0 y1) (oakumref01_Octal.l0 (k + 1) y0 y1))
  | 0 => ⟨fun _ _ r h => by simp [oakumref01_Octal.j1] at h, fun _ _ _ r h => by simp [oakumref01_Octal.l1] at h, fun _ _ _ _ r h => by simp [oakumref01_Octal.j3] at h, fun _ _ _ r h => by simp [oakumref01_Octal.l2] at h, fun _ _ r h => by simp [oakumref01_Octal.l0] at h⟩
  | k + 1 => by
    obtain ⟨ih0, ih1, ih2, ih3, ih4⟩ := oakumref01_Octal.mono_l k
    refine ⟨?_, ?_, ?_, ?_, ?_⟩
    · intro y0 y1
      unfold oakumref01_Octal.j1
      repeat' first
      | (with_reducible exact ih0 _ _)
      | (with_reducible exact ih1 _ _ _)
      | (with_reducible exact ih2 _ _ _ _)
      | (with_reducible exact ih3 _ _ _)
      | (with_reducible exact ih4 _ _)
      | (with_reducible exact LeO.refl _)
      | (with_reducible exact LeO.none _)
      | (with_reducible refine LeO.ite ?_ ?_)
      | (with_reducible refine LeO.bind ?_ (fun _ => ?_))
      | exact ih0 _ _
      | exact ih1 _ _ _
      | exact ih2 _ _ _ _
      | exact ih3 _ _ _
      | exact ih4 _ _
      | exact LeO.none _
      | refine LeO.ite ?_ ?_
      | refine LeO.bind ?_ (fun _ => ?_)
    · intro y0 y1 y2
      unfold oakumref01_Octal.l1
      repeat' first
      | (with_reducible exact ih0 _ _)
      | (with_reducible exact ih1 _ _ _)
      | (with_reducible exact ih2 _ _ _ _)
      | (with_reducible exact ih3 _ _ _)
      | (with_reducible exact ih4 _ _)
      | (with_reducible exact LeO.refl _)
      | (with_reducible exact LeO.none _)
      | (with_reducible refine LeO.ite ?_ ?_)
      | (with_reducible refine LeO.bind ?_ (fun _ => ?_))
      | exact ih0 _ _
      | exact ih1 _ _ _
      | exact ih2 _ _ _ _
      | exact ih3 _ _ _
      | exact ih4 _ _
      | exact LeO.none _
      | refine LeO.ite ?_ ?_
      | refine LeO.bind ?_ (fun _ => ?_)
    · intro y0 y1 y2 y3
      unfold oakumref01_Octal.j3
      repeat' first
      | (with_reducible exact ih0 _ _)
      | (with_reducible exact ih1 _ _ _)
      | (with_reducible exact ih2 _ _ _ _)
      | (with_reducible exact ih3 _ _ _)
      | (with_reducible exact ih4 _ _)
      | (with_reducible exact LeO.refl _)
      | (with_reducible exact LeO.none _)
      | (with_reducible refine LeO.ite ?_ ?_)
      | (with_reducible refine LeO.bind ?_ (fun _ => ?_))
      | exact ih0 _ _
      | exact ih1 _ _ _
      | exact ih2 _ _ _ _
      | exact ih3 _ _ _
      | exact ih4 _ _
      | exact LeO.none _
      | refine LeO.ite ?_ ?_
      | refine LeO.bind ?_ (fun _ => ?_)
    · intro y0 y1 y2
      unfold oakumref01_Octal.l2
      repeat' first
      | (with_reducible exact ih0 _ _)
      | (with_reducible exact ih1 _ _ _)
      | (with_reducible exact ih2 _ _ _ _)
      | (with_reducible exact ih3 _ _ _)
      | (with_reducible exact ih4 _ _)
      | (with_reducible exact LeO.refl _)
      | (with_reducible exact LeO.none _)
      | (with_reducible refine LeO.ite ?_ ?_)
      | (with_reducible refine LeO.bind ?_ (fun _ => ?_))
      | exact ih0 _ _
      | exact ih1 _ _ _
      | exact ih2 _ _ _ _
      | exact ih3 _ _ _
      | exact ih4 _ _
      | exact LeO.none _
      | refine LeO.ite ?_ ?_
      | refine LeO.bind ?_ (fun _ => ?_)
    · intro y0 y1
      unfold oakumref01_Octal.l0
      repeat' first
      | (with_reducible exact ih0 _ _)
      | (with_reducible exact ih1 _ _ _)
      | (with_reducible exact ih2 _ _ _ _)
      | (with_reducible exact ih3 _ _ _)
      | (with_reducible exact ih4 _ _)
      | (with_reducible exact LeO.refl _)
      | (with_reducible exact LeO.none _)
      | (with_reducible refine LeO.ite ?_ ?_)
      | (with_reducible refine LeO.bind ?_ (fun _ => ?_))
      | exact ih0 _ _
      | exact ih1 _ _ _
      | exact ih2 _ _ _ _
      | exact ih3 _ _ _
      | exact ih4 _ _
      | exact LeO.none _
      | refine LeO.ite ?_ ?_
      | refine LeO.bind ?_ (fun _ => ?_)
theorem oakumref01_Octal.mono : ∀ a0 k, LeO (oakumref01_Octal.f k a0) (oakumref01_Octal.f (k + 1) a0) := by
  intro a0 k
  obtain ⟨ih0, ih1, ih2, ih3, ih4⟩ := oakumref01_Octal.mono_l k
  unfold oakumref01_Octal.f
  repeat' first
      | (with_reducible exact ih0 _ _)
      | (with_reducible exact ih1 _ _ _)
      | (with_reducible exact ih2 _ _ _ _)
      | (with_reducible exact ih3 _ _ _)
      | (with_reducible exact ih4 _ _)
      | (with_reducible exact LeO.refl _)
      | (with_reducible exact LeO.none _)
      | (with_reducible refine LeO.ite ?_ ?_)
      | (with_reducible refine LeO.bind ?_ (fun _ => ?_))
      | exact ih0 _ _
      | exact ih1 _ _ _
      | exact ih2 _ _ _ _
      | exact ih3 _ _ _
      | exact ih4 _ _
      | exact LeO.none _
      | refine LeO.ite ?_ ?_
      | refine LeO.bind ?_ (fun _ => ?_)
set_option maxHeartbeats 8000000 in
set_option maxRecDepth 100000 in
theorem oakumref01_Octal.calls (k : Nat) (A0 : Option Addr) (c0 : Nat) (l0 : List Int) (r1 : Int) (r2 : Bool) (w : World) (hr0 : Kd.C (Kd.int .u8) w A0 l0.length l0) (hc0 : l0.length ≤ c0) (h : oakumref01_Octal.f k l0 = some (r1, r2)) :
    Calls Tryd.prog 58 #[.slice A0 l0.length c0] w fun e w' => e = .returned (.tuple #[.int .i64 r1, .bool r2]) ∧ Drawn0 w w' := by
  have HR0 := Aside0.mk hr0
  have HC0 := Aside0.mk hc0
  clear hr0 hc0
  have H : (oakumref01_Octal.l0 k l0 0) = some (r1, r2) := h
  clear h
  have HC2 := Aside0.mk H
  clear H
  go_enter Tryd.func58, Tryd.ntmps58
  go_upto_block 0 with (fail)
  go_cut [4] (fun v4 wc => ∃ (kq : Nat) (x4_1 : Int), v4 = .int .i64 x4_1 ∧ Aside0 (oakumref01_Octal.j1 kq l0 x4_1 = some (r1, r2)) ∧ Aside0 (kq ≤ k) ∧ Drawn0 w wc)
  case first =>
    have H := HC2.out
    clear HC2
    have H' := Aside0.mk H
    clear H
    go_wp2
    go_loopg [4] k (fun kq v4 w' => ∃ (x4_1 : Int), v4 = .int .i64 x4_1 ∧ Aside0 (oakumref01_Octal.l0 kq l0 x4_1 = some (r1, r2)) ∧ Aside0 (kq ≤ k) ∧ Drawn0 w w')
    case atStart => exact ⟨(0), (by first | rfl | (simp; done) | (simp [*]; done)), H', ⟨Nat.le_refl _⟩, by repeat (first | exact Drawn0.refl _ | apply Drawn0.step)⟩
    case round =>
      clear H'
      try clear p2
      obtain ⟨x4_1, rfl, HA, HK1, ⟨m1, rfl⟩⟩ := hrel
      cases gk with
      | zero => exact absurd HA.out (by simp [oakumref01_Octal.l0])
      | succ k1 =>
        have H := HA.out
        clear HA
        simp only [oakumref01_Octal.l0] at H
        by_cases c3 : x4_1 < (l0.length : Int)
        · rw [if_pos c3] at H
          have c3b0 : decide (x4_1 < (l0.length : Int)) = true := decide_eq_true c3
          clear c3
          (first | rw [c3b0] | (simp only [i64_w, i32_w]; rw [c3b0]) | skip)
          by_cases c4 : 0 ≤ x4_1
          · rw [if_pos c4] at H
            have c4b0 : decide (0 ≤ x4_1) = true := decide_eq_true c4
            clear c4
            by_cases c5 : (rd l0 x4_1) = 32
            · rw [if_pos c5] at H
              have c5b0 : ((rd l0 x4_1) == 32) = true := beq_iff_eq.mpr c5
              have c5b1 : ((rd l0 x4_1) != 32) = false := bne_eq_false_iff_eq.mpr c5
              clear c5
              have H' := Aside0.mk H
              clear H
              have p234 : 0 ≤ (x4_1 : Int) := of_decide_eq_true (by first | (with_reducible assumption) | assumption)
              have q234 : x4_1 < (l0.length : Int) := of_decide_eq_true (by first | (with_reducible assumption) | assumption)
              obtain ⟨ad234, e234, hx234_0⟩ := Kd.at_int HR0.out x4_1 p234 q234
              cases e234
              replace p234 := eq_true p234
              replace q234 := eq_true q234
              go_wp2
              go_roundg k1
              case measure => have := HK1.out; omega
              case rel => exact ⟨(wrap64 (x4_1 + 1)), (by first | rfl | (simp; done) | (simp [*]; done)), H', ⟨by have := HK1.out; omega⟩, by repeat (first | exact Drawn0.refl _ | apply Drawn0.step)⟩
            · rw [if_neg c5] at H
              have c5b0 : ((rd l0 x4_1) == 32) = false := beq_eq_false_iff_ne.mpr c5
              have c5b1 : ((rd l0 x4_1) != 32) = true := bne_iff_ne.mpr c5
              have H' := Aside0.mk H
              clear H
              have p234 : 0 ≤ (x4_1 : Int) := of_decide_eq_true (by first | (with_reducible assumption) | assumption)
              have q234 : x4_1 < (l0.length : Int) := of_decide_eq_true (by first | (with_reducible assumption) | assumption)
              obtain ⟨ad234, e234, hx234_0⟩ := Kd.at_int HR0.out x4_1 p234 q234
              cases e234
              replace p234 := eq_true p234
              replace q234 := eq_true q234
              go_wp2
              go_meet
              case rel => exact ⟨_, (x4_1), (by first | rfl | (simp; done) | (simp [*]; done)), H', ⟨by have := HK1.out; first | omega | exact Nat.le_refl _⟩, by repeat (first | exact Drawn0.refl _ | apply Drawn0.step)⟩
          · rw [if_neg c4] at H
            exact absurd H (by simp)
        · rw [if_neg c3] at H
          have c3b0 : decide (x4_1 < (l0.length : Int)) = false := decide_eq_false c3
          clear c3
          (first | rw [c3b0] | (simp only [i64_w, i32_w]; rw [c3b0]) | skip)
          have H' := Aside0.mk H
          clear H
          go_wp2
          go_meet
          case rel => exact ⟨_, (x4_1), (by first | rfl | (simp; done) | (simp [*]; done)), H', ⟨by have := HK1.out; first | omega | exact Nat.le_refl _⟩, by repeat (first | exact Drawn0.refl _ | apply Drawn0.step)⟩
  case rest =>
    clear HC2
    try clear p2
    try clear q2
    try clear hx2
    try clear c3
    try clear c3b0
    try clear c4
    try clear c4b0
    try clear c5
    try clear c5b0
    try clear c5b1
    try clear hx234_0
    try clear p2
    try clear p234
    try clear q234
    obtain ⟨kq, x4_1, rfl, HA, HJ1, ⟨mc1, rfl⟩⟩ := hcut
    cases kq with
    | zero => exact absurd HA.out (by simp [oakumref01_Octal.j1])
    | succ kj1 =>
      have H := HA.out
      clear HA
      simp only [oakumref01_Octal.j1] at H
      have H' := Aside0.mk H
      clear H
      go_wp2
      go_loopg [4, 5] kj1 (fun kq v4 v5 w' => ∃ (x4_2 : Int) (x5_2 : Int), v4 = .int .i64 x4_2 ∧ v5 = .int .i64 x5_2 ∧ Aside0 (oakumref01_Octal.l1 kq l0 x4_2 x5_2 = some (r1, r2)) ∧ Aside0 (kq ≤ kj1) ∧ Drawn0 w w')
      case atStart => exact ⟨(x4_1), (0), (by first | rfl | (simp; done) | (simp [*]; done)), (by first | rfl | (simp; done) | (simp [*]; done)), H', ⟨Nat.le_refl _⟩, by repeat (first | exact Drawn0.refl _ | apply Drawn0.step)⟩
      case round =>
        clear H'
        try clear c1
        try clear p2
        try clear q2
        try clear hx2
        try clear c3
        try clear c3b0
        try clear c4
        try clear c4b0
        try clear c5
        try clear c5b0
        try clear c5b1
        try clear hx234_0
        try clear p2
        try clear p234
        try clear q2
        try clear q234
        obtain ⟨x4_2, x5_2, rfl, rfl, HA, HK2, ⟨m2, rfl⟩⟩ := hrel
        cases gk with
        | zero => exact absurd HA.out (by simp [oakumref01_Octal.l1])
        | succ k2 =>
          have H := HA.out
          clear HA
          simp only [oakumref01_Octal.l1] at H
          have HC6 := Aside0.mk H
          clear H
          go_upto_region 5 with (fail)
          go_cut [36] (fun v36 wc => ∃ (kq : Nat) (x36_5 : Bool), v36 = .bool x36_5 ∧ Aside0 (oakumref01_Octal.j3 kq l0 x4_2 x5_2 x36_5 = some (r1, r2)) ∧ Aside0 (kq ≤ k2) ∧ Drawn0 w wc)
          case first =>
            have H := HC6.out
            clear HC6
            by_cases c7 : x4_2 < (l0.length : Int)
            · rw [if_pos c7] at H
              have c7b0 : decide (x4_2 < (l0.length : Int)) = true := decide_eq_true c7
              clear c7
              (first | rw [c7b0] | (simp only [i64_w, i32_w]; rw [c7b0]) | skip)
              by_cases c8 : 0 ≤ x4_2
              · rw [if_pos c8] at H
                have c8b0 : decide (0 ≤ x4_2) = true := decide_eq_true c8
                clear c8
                by_cases c9 : (rd l0 x4_2) ≥ 48
                · rw [if_pos c9] at H
                  have c9b0 : decide (48 ≤ (rd l0 x4_2)) = true := decide_eq_true c9
                  clear c9
                  have H' := Aside0.mk H
                  clear H
                  have p235 : 0 ≤ (x4_2 : Int) := of_decide_eq_true (by first | (with_reducible assumption) | assumption)
                  have q235 : x4_2 < (l0.length : Int) := of_decide_eq_true (by first | (with_reducible assumption) | assumption)
                  obtain ⟨ad235, e235, hx235_0⟩ := Kd.at_int HR0.out x4_2 p235 q235
                  cases e235
                  replace p235 := eq_true p235
                  replace q235 := eq_true q235
                  have p236 : 0 ≤ (x4_2 : Int) := of_decide_eq_true (by first | (with_reducible assumption) | assumption)
                  have q236 : x4_2 < (l0.length : Int) := of_decide_eq_true (by first | (with_reducible assumption) | assumption)
                  obtain ⟨ad236, e236, hx236_0⟩ := Kd.at_int HR0.out x4_2 p236 q236
                  obtain rfl : ad235 = ad236 := (by injection e236)
                  replace p236 := eq_true p236
                  replace q236 := eq_true q236
                  go_wp2
                  go_meet
                  case rel => exact ⟨_, (decide ((rd l0 x4_2) ≤ 55)), (by first | rfl | (simp; done) | (simp [*]; done)), H', ⟨by have := HJ1.out; have := HK2.out; first | omega | exact Nat.le_refl _⟩, by repeat (first | exact Drawn0.refl _ | apply Drawn0.step)⟩
                · rw [if_neg c9] at H
                  have c9b0 : decide (48 ≤ (rd l0 x4_2)) = false := decide_eq_false c9
                  clear c9
                  have H' := Aside0.mk H
                  clear H
                  have p235 : 0 ≤ (x4_2 : Int) := of_decide_eq_true (by first | (with_reducible assumption) | assumption)
                  have q235 : x4_2 < (l0.length : Int) := of_decide_eq_true (by first | (with_reducible assumption) | assumption)
                  obtain ⟨ad235, e235, hx235_0⟩ := Kd.at_int HR0.out x4_2 p235 q235
                  cases e235
                  replace p235 := eq_true p235
                  replace q235 := eq_true q235
                  go_wp2
                  go_meet
                  case rel => exact ⟨_, (false), (by first | rfl | (simp; done) | (simp [*]; done)), H', ⟨by have := HJ1.out; have := HK2.out; first | omega | exact Nat.le_refl _⟩, by repeat (first | exact Drawn0.refl _ | apply Drawn0.step)⟩
              · rw [if_neg c8] at H
                exact absurd H (by simp)
            · rw [if_neg c7] at H
              have c7b0 : decide (x4_2 < (l0.length : Int)) = false := decide_eq_false c7
              clear c7
              (first | rw [c7b0] | (simp only [i64_w, i32_w]; rw [c7b0]) | skip)
              have H' := Aside0.mk H
              clear H
              go_wp2
              go_meet
              case rel => exact ⟨_, (false), (by first | rfl | (simp; done) | (simp [*]; done)), H', ⟨by have := HJ1.out; have := HK2.out; first | omega | exact Nat.le_refl _⟩, by repeat (first | exact Drawn0.refl _ | apply Drawn0.step)⟩
          case rest =>
            clear HC6
            try clear c1
            try clear p2
            try clear q2
            try clear hx2
            try clear c3
            try clear c3b0
            try clear c4
            try clear c4b0
            try clear c5
            try clear c5b0
            try clear c5b1
            try clear p6
            try clear c7
            try clear c7b0
            try clear c8
            try clear c8b0
            try clear c9
            try clear c9b0
            try clear hx234_0
            try clear hx235_0
            try clear hx236_0
            try clear p2
            try clear p234
            try clear p235
            try clear p236
            try clear q2
            try clear q234
            try clear q235
            try clear q236
            obtain ⟨kq, x36_5, rfl, HA, HJ5, ⟨mc5, rfl⟩⟩ := hcut
            cases kq with
            | zero => exact absurd HA.out (by simp [oakumref01_Octal.j3])
            | succ kj5 =>
              have H := HA.out
              clear HA
              simp only [oakumref01_Octal.j3] at H
              by_cases c10 : x36_5 = true
              · subst c10
                have H1 : (if x5_2 > 1152921504606846975 then (some (0, false)) else (if 0 ≤ x4_2 then (if x4_2 < (l0.length : Int) then (oakumref01_Octal.l1 kj5 l0 (wrap64 (x4_2 + 1)) (wrap64 ((wrap64 ((wrap64 (8 * x5_2)) + (wrap64 (rd l0 x4_2)))) - 48))) else (none)) else (none))) = some (r1, r2) := by rw [if_pos rfl] at H; exact H
                clear H
                have H := H1
                clear H1
                by_cases c11 : x5_2 > 1152921504606846975
                · rw [if_pos c11] at H
                  have c11b0 : decide (1152921504606846975 < x5_2) = true := decide_eq_true c11
                  clear c11
                  simp only [Option.some.injEq, Prod.mk.injEq] at H
                  obtain ⟨rfl, rfl⟩ := H
                  go_wp2
                  go_ret2
                  exact ⟨by first | rfl | (simp; done) | (simp [*]; done), by repeat (first | exact Drawn0.refl _ | apply Drawn0.step)⟩
                · rw [if_neg c11] at H
                  have c11b0 : decide (1152921504606846975 < x5_2) = false := decide_eq_false c11
                  clear c11
                  by_cases c12 : 0 ≤ x4_2
                  · rw [if_pos c12] at H
                    have c12b0 : decide (0 ≤ x4_2) = true := decide_eq_true c12
                    clear c12
                    by_cases c13 : x4_2 < (l0.length : Int)
                    · rw [if_pos c13] at H
                      have c13b0 : decide (x4_2 < (l0.length : Int)) = true := decide_eq_true c13
                      clear c13
                      have H' := Aside0.mk H
                      clear H
                      have p237 : 0 ≤ (x4_2 : Int) := of_decide_eq_true (by first | (with_reducible assumption) | assumption)
                      have q237 : x4_2 < (l0.length : Int) := of_decide_eq_true (by first | (with_reducible assumption) | assumption)
                      obtain ⟨ad237, e237, hx237_0⟩ := Kd.at_int HR0.out x4_2 p237 q237
                      cases e237
                      replace p237 := eq_true p237
                      replace q237 := eq_true q237
                      go_wp2
                      go_roundg kj5
                      case measure => have := HJ1.out; have := HK2.out; have := HJ5.out; omega
                      case rel => exact ⟨(wrap64 (x4_2 + 1)), (wrap64 ((wrap64 ((wrap64 (8 * x5_2)) + (wrap64 (rd l0 x4_2)))) - 48)), (by first | rfl | (simp; done) | (simp [*]; done)), (by first | rfl | (simp; done) | (simp [*]; done)), H', ⟨by have := HJ1.out; have := HK2.out; have := HJ5.out; omega⟩, by repeat (first | exact Drawn0.refl _ | apply Drawn0.step)⟩
                    · rw [if_neg c13] at H
                      exact absurd H (by simp)
                  · rw [if_neg c12] at H
                    exact absurd H (by simp)
              · replace c10 := Bool.eq_false_iff.mpr c10
                subst c10
                have H1 : (oakumref01_Octal.l2 kj5 l0 x4_2 x5_2) = some (r1, r2) := by rw [if_neg (show ¬ (false = true) by decide)] at H; exact H
                clear H
                have H := H1
                clear H1
                have H' := Aside0.mk H
                clear H
                go_wp2
                go_loopg [4] kj5 (fun kq v4 w' => ∃ (x4_4 : Int), v4 = .int .i64 x4_4 ∧ Aside0 (oakumref01_Octal.l2 kq l0 x4_4 x5_2 = some (r1, r2)) ∧ Aside0 (kq ≤ kj5) ∧ Drawn0 w w')
                case atStart => exact ⟨(x4_2), (by first | rfl | (simp; done) | (simp [*]; done)), H', ⟨Nat.le_refl _⟩, by repeat (first | exact Drawn0.refl _ | apply Drawn0.step)⟩
                case round =>
                  clear H'
                  try clear c1
                  try clear p2
                  try clear q2
                  try clear hx2
                  try clear c3
                  try clear c3b0
                  try clear c4
                  try clear c4b0
                  try clear c5
                  try clear c5b0
                  try clear c5b1
                  try clear p6
                  try clear c7
                  try clear c7b0
                  try clear c8
                  try clear c8b0
                  try clear c9
                  try clear c9b0
                  try clear c10
                  try clear c11
                  try clear c11b0
                  try clear c12
                  try clear c12b0
                  try clear c13
                  try clear c13b0
                  try clear hx234_0
                  try clear hx235_0
                  try clear hx236_0
                  try clear hx237_0
                  try clear p2
                  try clear p234
                  try clear p235
                  try clear p236
                  try clear p237
                  try clear p6
                  try clear q2
                  try clear q234
                  try clear q235
                  try clear q236
                  try clear q237
                  obtain ⟨x4_4, rfl, HA, HK4, ⟨m4, rfl⟩⟩ := hrel
                  cases gk with
                  | zero => exact absurd HA.out (by simp [oakumref01_Octal.l2])
                  | succ k4 =>
                    have H := HA.out
                    clear HA
                    simp only [oakumref01_Octal.l2] at H
                    by_cases c14 : x4_4 < (l0.length : Int)
                    · rw [if_pos c14] at H
                      have c14b0 : decide (x4_4 < (l0.length : Int)) = true := decide_eq_true c14
                      clear c14
                      by_cases c15 : 0 ≤ x4_4
                      · rw [if_pos c15] at H
                        have c15b0 : decide (0 ≤ x4_4) = true := decide_eq_true c15
                        clear c15
                        by_cases c16 : (rd l0 x4_4) = 0
                        · rw [if_pos c16] at H
                          have c16b0 : ((rd l0 x4_4) == 0) = true := beq_iff_eq.mpr c16
                          have c16b1 : ((rd l0 x4_4) != 0) = false := bne_eq_false_iff_eq.mpr c16
                          clear c16
                          have H' := Aside0.mk H
                          clear H
                          have p238 : 0 ≤ (x4_4 : Int) := of_decide_eq_true (by first | (with_reducible assumption) | assumption)
                          have q238 : x4_4 < (l0.length : Int) := of_decide_eq_true (by first | (with_reducible assumption) | assumption)
                          obtain ⟨ad238, e238, hx238_0⟩ := Kd.at_int HR0.out x4_4 p238 q238
                          cases e238
                          replace p238 := eq_true p238
                          replace q238 := eq_true q238
                          go_wp2
                          go_roundg k4
                          case measure => have := HJ1.out; have := HK2.out; have := HJ5.out; have := HK4.out; omega
                          case rel => exact ⟨(wrap64 (x4_4 + 1)), (by first | rfl | (simp; done) | (simp [*]; done)), H', ⟨by have := HJ1.out; have := HK2.out; have := HJ5.out; have := HK4.out; omega⟩, by repeat (first | exact Drawn0.refl _ | apply Drawn0.step)⟩
                        · rw [if_neg c16] at H
                          have c16b0 : ((rd l0 x4_4) == 0) = false := beq_eq_false_iff_ne.mpr c16
                          have c16b1 : ((rd l0 x4_4) != 0) = true := bne_iff_ne.mpr c16
                          by_cases c17 : (rd l0 x4_4) = 32
                          · rw [if_pos c17] at H
                            have c17b0 : ((rd l0 x4_4) == 32) = true := beq_iff_eq.mpr c17
                            have c17b1 : ((rd l0 x4_4) != 32) = false := bne_eq_false_iff_eq.mpr c17
                            clear c17
                            have H' := Aside0.mk H
                            clear H
                            have p238 : 0 ≤ (x4_4 : Int) := of_decide_eq_true (by first | (with_reducible assumption) | assumption)
                            have q238 : x4_4 < (l0.length : Int) := of_decide_eq_true (by first | (with_reducible assumption) | assumption)
                            obtain ⟨ad238, e238, hx238_0⟩ := Kd.at_int HR0.out x4_4 p238 q238
                            cases e238
                            replace p238 := eq_true p238
                            replace q238 := eq_true q238
                            have p239 : 0 ≤ (x4_4 : Int) := of_decide_eq_true (by first | (with_reducible assumption) | assumption)
                            have q239 : x4_4 < (l0.length : Int) := of_decide_eq_true (by first | (with_reducible assumption) | assumption)
                            obtain ⟨ad239, e239, hx239_0⟩ := Kd.at_int HR0.out x4_4 p239 q239
                            obtain rfl : ad238 = ad239 := (by injection e239)
                            replace p239 := eq_true p239
                            replace q239 := eq_true q239
                            go_wp2
                            go_roundg k4
                            case measure => have := HJ1.out; have := HK2.out; have := HJ5.out; have := HK4.out; omega
                            case rel => exact ⟨(wrap64 (x4_4 + 1)), (by first | rfl | (simp; done) | (simp [*]; done)), H', ⟨by have := HJ1.out; have := HK2.out; have := HJ5.out; have := HK4.out; omega⟩, by repeat (first | exact Drawn0.refl _ | apply Drawn0.step)⟩
                          · rw [if_neg c17] at H
                            have c17b0 : ((rd l0 x4_4) == 32) = false := beq_eq_false_iff_ne.mpr c17
                            have c17b1 : ((rd l0 x4_4) != 32) = true := bne_iff_ne.mpr c17
                            simp only [Option.some.injEq, Prod.mk.injEq] at H
                            obtain ⟨rfl, rfl⟩ := H
                            have p238 : 0 ≤ (x4_4 : Int) := of_decide_eq_true (by first | (with_reducible assumption) | assumption)
                            have q238 : x4_4 < (l0.length : Int) := of_decide_eq_true (by first | (with_reducible assumption) | assumption)
                            obtain ⟨ad238, e238, hx238_0⟩ := Kd.at_int HR0.out x4_4 p238 q238
                            cases e238
                            replace p238 := eq_true p238
                            replace q238 := eq_true q238
                            have p239 : 0 ≤ (x4_4 : Int) := of_decide_eq_true (by first | (with_reducible assumption) | assumption)
                            have q239 : x4_4 < (l0.length : Int) := of_decide_eq_true (by first | (with_reducible assumption) | assumption)
                            obtain ⟨ad239, e239, hx239_0⟩ := Kd.at_int HR0.out x4_4 p239 q239
                            obtain rfl : ad238 = ad239 := (by injection e239)
                            replace p239 := eq_true p239
                            replace q239 := eq_true q239
                            go_wp2
                            go_ret2
                            exact ⟨by first | rfl | (simp; done) | (simp [*]; done), by repeat (first | exact Drawn0.refl _ | apply Drawn0.step)⟩
                      · rw [if_neg c15] at H
                        exact absurd H (by simp)
                    · rw [if_neg c14] at H
                      have c14b0 : decide (x4_4 < (l0.length : Int)) = false := decide_eq_false c14
                      clear c14
                      simp only [Option.some.injEq, Prod.mk.injEq] at H
                      obtain ⟨rfl, rfl⟩ := H
                      go_wp2
                      go_ret2
                      exact ⟨by first | rfl | (simp; done) | (simp [*]; done), by repeat (first | exact Drawn0.refl _ | apply Drawn0.step)⟩

/-! ### oakumref03_Check: function 37 -/
def oakumref03_Check.f (k : Nat) (l0 : List Int) : Option (Int) := if (l0.length : Int) = 512 then (if 148 ≤ 156 then (if 156 ≤ (l0.length : Int) then ((oakumref01_Octal.f k ((l0.take 156).drop 148)).bind fun bt241 => (if bt241.2 = true then ((oakumref03_Sums.f k l0).bind fun bt243 => (if bt241.1 = bt243.1 then (some 0) else (if bt241.1 = bt243.2 then (some 0) else (some 4)))) else (some 5))) else (none)) else (none)) else (some 2)
theorem oakumref03_Check.mono : ∀ a0 k, LeO (oakumref03_Check.f k a0) (oakumref03_Check.f (k + 1) a0) := by
  intro a0 k
  unfold oakumref03_Check.f
  repeat' first
      | (with_reducible exact oakumref01_Octal.mono _ _)
      | (with_reducible exact oakumref03_Sums.mono _ _)
      | (with_reducible exact LeO.refl _)
      | (with_reducible exact LeO.none _)
      | (with_reducible refine LeO.ite ?_ ?_)
      | (with_reducible refine LeO.bind ?_ (fun _ => ?_))
      | exact oakumref01_Octal.mono _ _
      | exact oakumref03_Sums.mono _ _
      | exact LeO.none _
      | refine LeO.ite ?_ ?_
      | refine LeO.bind ?_ (fun _ => ?_)
set_option maxHeartbeats 8000000 in
set_option maxRecDepth 100000 in
theorem oakumref03_Check.calls (k : Nat) (A0 : Option Addr) (c0 : Nat) (l0 : List Int) (r : Int) (w : World) (hr0 : Kd.C (Kd.int .u8) w A0 l0.length l0) (hc0 : l0.length ≤ c0) (h : oakumref03_Check.f k l0 = some r) :
    Calls Tryd.prog 37 #[.slice A0 l0.length c0] w fun e w' => e = .returned (.int .i64 r) ∧ Drawn0 w w' := by
  have HR0 := Aside0.mk hr0
  have HC0 := Aside0.mk hc0
  clear hr0 hc0
  have H : (if (l0.length : Int) = 512 then (if 148 ≤ 156 then (if 156 ≤ (l0.length : Int) then ((oakumref01_Octal.f k ((l0.take 156).drop 148)).bind fun bt241 => (if bt241.2 = true then ((oakumref03_Sums.f k l0).bind fun bt243 => (if bt241.1 = bt243.1 then (some 0) else (if bt241.1 = bt243.2 then (some 0) else (some 4)))) else (some 5))) else (none)) else (none)) else (some 2)) = some r := h
  clear h
  by_cases c2 : (l0.length : Int) = 512
  · rw [if_pos c2] at H
    have c2b0 : ((l0.length : Int) == 512) = true := beq_iff_eq.mpr c2
    have c2b1 : ((l0.length : Int) != 512) = false := bne_eq_false_iff_eq.mpr c2
    clear c2
    by_cases c3 : 148 ≤ 156
    · rw [if_pos c3] at H
      have c3b0 := eq_true c3
      have c3b1 : decide (148 ≤ 156) = true := decide_eq_true c3
      clear c3
      by_cases c4 : 156 ≤ (l0.length : Int)
      · rw [if_pos c4] at H
        have c4b0 := eq_true c4
        have c4b1 : decide (156 ≤ (l0.length : Int)) = true := decide_eq_true c4
        clear c4
        replace H := Option.bind_eq_some_iff.mp H
        obtain ⟨⟨t241, t242⟩, A50, H⟩ := H
        replace H : (if t242 = true then ((oakumref03_Sums.f k l0).bind fun bt243 => (if t241 = bt243.1 then (some 0) else (if t241 = bt243.2 then (some 0) else (some 4)))) else (some 5)) = some r := H
        have A5 := Aside0.mk A50
        clear A50
        by_cases c6 : t242 = true
        · subst c6
          have H1 : ((oakumref03_Sums.f k l0).bind fun bt243 => (if t241 = bt243.1 then (some 0) else (if t241 = bt243.2 then (some 0) else (some 4)))) = some r := by rw [if_pos rfl] at H; exact H
          clear H
          have H := H1
          clear H1
          replace H := Option.bind_eq_some_iff.mp H
          obtain ⟨⟨t243, t244⟩, A70, H⟩ := H
          replace H : (if t241 = t243 then (some 0) else (if t241 = t244 then (some 0) else (some 4))) = some r := H
          have A7 := Aside0.mk A70
          clear A70
          by_cases c8 : t241 = t243
          · rw [if_pos c8] at H
            have c8b0 : (t241 == t243) = true := beq_iff_eq.mpr c8
            have c8b1 : (t241 != t243) = false := bne_eq_false_iff_eq.mpr c8
            clear c8
            obtain rfl := Option.some.inj H
            obtain ⟨i09, hi09, _, hsz9, _⟩ := info_parts info5
            obtain ⟨A9, hcut9, hA9, hC9⟩ := print_mid_of (P := Tryd.prog) (Value.int .u8) 0 25 5 .i64 .i64 Tryd.underlying25 hi09 hsz9 A0 c0 l0 148 156 (by omega) (by first | omega | exact of_decide_eq_true (by first | (with_reducible assumption) | assumption)) (of_decide_eq_true (by first | (with_reducible assumption) | assumption)) HC0.out
            have HR240 := Aside0.mk (Kd.C_of_reads (h1 := fun _ => rfl) (hA9 _ (Kd.reads_of_C HR0.out)))
            have HC240 := Aside0.mk hC9
            clear hA9 hC9 hi09 hsz9
            go_enter Tryd.func37, Tryd.ntmps37
            go_wp2_with (first | ((with_reducible refine gate_callee (f := 58) rfl ?_); refine goesL_ (some 13) rfl rfl Tryd.func58 (by kernel_rfl) rfl #[.slice A9 ((l0.take 156).drop 148).length (c0 - 148)] rfl (by (try simp only [List.map_toArray, List.map_cons, List.map_nil]); first | done | (rw [show ((l0.take 156).drop 148).length = (156 - 148) from (by rw [List.length_drop, List.length_take]; have h_ : (156 : Int) ≤ (l0.length : Int) := of_decide_eq_true (by first | (with_reducible assumption) | assumption); omega)] <;> rfl) | rfl | (simp only [List.length_drop, List.length_take]; rfl)) ?_; (with_reducible refine (oakumref01_Octal.calls k _ _ ((l0.take 156).drop 148) t241 true _ ?side1 ?side2 A5.out).mono ?_); (case side1 => repeat (first | exact HR240.out | (with_reducible refine Kd.C_alloc ?_ _) | (with_reducible refine Kd.C_drewN ?_ _) | (with_reducible refine Kd.C_drew ?_))); (case side2 => exact HC240.out); rintro e w' ⟨rfl, ⟨nd, rfl⟩⟩; refine ⟨_, rfl, ?_⟩) | ((with_reducible refine gate_callee (f := 44) rfl ?_); refine goesL_ (some 20) rfl rfl Tryd.func44 (by kernel_rfl) rfl #[.slice A0 l0.length c0] rfl (by (try simp only [List.map_toArray, List.map_cons, List.map_nil]); first | done | rfl | (simp only [List.length_drop, List.length_take]; rfl)) ?_; (with_reducible refine (oakumref03_Sums.calls k _ _ l0 t243 t244 _ ?side1 ?side2 A7.out).mono ?_); (case side1 => repeat (first | exact HR0.out | (with_reducible refine Kd.C_alloc ?_ _) | (with_reducible refine Kd.C_drewN ?_ _) | (with_reducible refine Kd.C_drew ?_))); (case side2 => exact HC0.out); rintro e w' ⟨rfl, ⟨nd, rfl⟩⟩; refine ⟨_, rfl, ?_⟩))
            go_ret
            exact ⟨by first | rfl | (simp; done) | (simp [*]; done), by repeat (first | exact Drawn0.refl _ | apply Drawn0.step)⟩
          · rw [if_neg c8] at H
            have c8b0 : (t241 == t243) = false := beq_eq_false_iff_ne.mpr c8
            have c8b1 : (t241 != t243) = true := bne_iff_ne.mpr c8
            by_cases c10 : t241 = t244
            · rw [if_pos c10] at H
              have c10b0 : (t241 == t244) = true := beq_iff_eq.mpr c10
              have c10b1 : (t241 != t244) = false := bne_eq_false_iff_eq.mpr c10
              clear c10
              obtain rfl := Option.some.inj H
              obtain ⟨i011, hi011, _, hsz11, _⟩ := info_parts info5
              obtain ⟨A11, hcut11, hA11, hC11⟩ := print_mid_of (P := Tryd.prog) (Value.int .u8) 0 25 5 .i64 .i64 Tryd.underlying25 hi011 hsz11 A0 c0 l0 148 156 (by omega) (by first | omega | exact of_decide_eq_true (by first | (with_reducible assumption) | assumption)) (of_decide_eq_true (by first | (with_reducible assumption) | assumption)) HC0.out
              have HR240 := Aside0.mk (Kd.C_of_reads (h1 := fun _ => rfl) (hA11 _ (Kd.reads_of_C HR0.out)))
              have HC240 := Aside0.mk hC11
              clear hA11 hC11 hi011 hsz11
              go_enter Tryd.func37, Tryd.ntmps37
              go_wp2_with (first | ((with_reducible refine gate_callee (f := 58) rfl ?_); refine goesL_ (some 13) rfl rfl Tryd.func58 (by kernel_rfl) rfl #[.slice A11 ((l0.take 156).drop 148).length (c0 - 148)] rfl (by (try simp only [List.map_toArray, List.map_cons, List.map_nil]); first | done | (rw [show ((l0.take 156).drop 148).length = (156 - 148) from (by rw [List.length_drop, List.length_take]; have h_ : (156 : Int) ≤ (l0.length : Int) := of_decide_eq_true (by first | (with_reducible assumption) | assumption); omega)] <;> rfl) | rfl | (simp only [List.length_drop, List.length_take]; rfl)) ?_; (with_reducible refine (oakumref01_Octal.calls k _ _ ((l0.take 156).drop 148) t241 true _ ?side1 ?side2 A5.out).mono ?_); (case side1 => repeat (first | exact HR240.out | (with_reducible refine Kd.C_alloc ?_ _) | (with_reducible refine Kd.C_drewN ?_ _) | (with_reducible refine Kd.C_drew ?_))); (case side2 => exact HC240.out); rintro e w' ⟨rfl, ⟨nd, rfl⟩⟩; refine ⟨_, rfl, ?_⟩) | ((with_reducible refine gate_callee (f := 44) rfl ?_); refine goesL_ (some 20) rfl rfl Tryd.func44 (by kernel_rfl) rfl #[.slice A0 l0.length c0] rfl (by (try simp only [List.map_toArray, List.map_cons, List.map_nil]); first | done | rfl | (simp only [List.length_drop, List.length_take]; rfl)) ?_; (with_reducible refine (oakumref03_Sums.calls k _ _ l0 t243 t244 _ ?side1 ?side2 A7.out).mono ?_); (case side1 => repeat (first | exact HR0.out | (with_reducible refine Kd.C_alloc ?_ _) | (with_reducible refine Kd.C_drewN ?_ _) | (with_reducible refine Kd.C_drew ?_))); (case side2 => exact HC0.out); rintro e w' ⟨rfl, ⟨nd, rfl⟩⟩; refine ⟨_, rfl, ?_⟩))
              go_ret
              exact ⟨by first | rfl | (simp; done) | (simp [*]; done), by repeat (first | exact Drawn0.refl _ | apply Drawn0.step)⟩
            · rw [if_neg c10] at H
              have c10b0 : (t241 == t244) = false := beq_eq_false_iff_ne.mpr c10
              have c10b1 : (t241 != t244) = true := bne_iff_ne.mpr c10
              obtain rfl := Option.some.inj H
              obtain ⟨i012, hi012, _, hsz12, _⟩ := info_parts info5
              obtain ⟨A12, hcut12, hA12, hC12⟩ := print_mid_of (P := Tryd.prog) (Value.int .u8) 0 25 5 .i64 .i64 Tryd.underlying25 hi012 hsz12 A0 c0 l0 148 156 (by omega) (by first | omega | exact of_decide_eq_true (by first | (with_reducible assumption) | assumption)) (of_decide_eq_true (by first | (with_reducible assumption) | assumption)) HC0.out
              have HR240 := Aside0.mk (Kd.C_of_reads (h1 := fun _ => rfl) (hA12 _ (Kd.reads_of_C HR0.out)))
              have HC240 := Aside0.mk hC12
              clear hA12 hC12 hi012 hsz12
              go_enter Tryd.func37, Tryd.ntmps37
              go_wp2_with (first | ((with_reducible refine gate_callee (f := 58) rfl ?_); refine goesL_ (some 13) rfl rfl Tryd.func58 (by kernel_rfl) rfl #[.slice A12 ((l0.take 156).drop 148).length (c0 - 148)] rfl (by (try simp only [List.map_toArray, List.map_cons, List.map_nil]); first | done | (rw [show ((l0.take 156).drop 148).length = (156 - 148) from (by rw [List.length_drop, List.length_take]; have h_ : (156 : Int) ≤ (l0.length : Int) := of_decide_eq_true (by first | (with_reducible assumption) | assumption); omega)] <;> rfl) | rfl | (simp only [List.length_drop, List.length_take]; rfl)) ?_; (with_reducible refine (oakumref01_Octal.calls k _ _ ((l0.take 156).drop 148) t241 true _ ?side1 ?side2 A5.out).mono ?_); (case side1 => repeat (first | exact HR240.out | (with_reducible refine Kd.C_alloc ?_ _) | (with_reducible refine Kd.C_drewN ?_ _) | (with_reducible refine Kd.C_drew ?_))); (case side2 => exact HC240.out); rintro e w' ⟨rfl, ⟨nd, rfl⟩⟩; refine ⟨_, rfl, ?_⟩) | ((with_reducible refine gate_callee (f := 44) rfl ?_); refine goesL_ (some 20) rfl rfl Tryd.func44 (by kernel_rfl) rfl #[.slice A0 l0.length c0] rfl (by (try simp only [List.map_toArray, List.map_cons, List.map_nil]); first | done | rfl | (simp only [List.length_drop, List.length_take]; rfl)) ?_; (with_reducible refine (oakumref03_Sums.calls k _ _ l0 t243 t244 _ ?side1 ?side2 A7.out).mono ?_); (case side1 => repeat (first | exact HR0.out | (with_reducible refine Kd.C_alloc ?_ _) | (with_reducible refine Kd.C_drewN ?_ _) | (with_reducible refine Kd.C_drew ?_))); (case side2 => exact HC0.out); rintro e w' ⟨rfl, ⟨nd, rfl⟩⟩; refine ⟨_, rfl, ?_⟩))
              go_ret
              exact ⟨by first | rfl | (simp; done) | (simp [*]; done), by repeat (first | exact Drawn0.refl _ | apply Drawn0.step)⟩
        · replace c6 := Bool.eq_false_iff.mpr c6
          subst c6
          have H1 : (some 5) = some r := by rw [if_neg (show ¬ (false = true) by decide)] at H; exact H
          clear H
          have H := H1
          clear H1
          obtain rfl := Option.some.inj H
          obtain ⟨i013, hi013, _, hsz13, _⟩ := info_parts info5
          obtain ⟨A13, hcut13, hA13, hC13⟩ := print_mid_of (P := Tryd.prog) (Value.int .u8) 0 25 5 .i64 .i64 Tryd.underlying25 hi013 hsz13 A0 c0 l0 148 156 (by omega) (by first | omega | exact of_decide_eq_true (by first | (with_reducible assumption) | assumption)) (of_decide_eq_true (by first | (with_reducible assumption) | assumption)) HC0.out
          have HR240 := Aside0.mk (Kd.C_of_reads (h1 := fun _ => rfl) (hA13 _ (Kd.reads_of_C HR0.out)))
          have HC240 := Aside0.mk hC13
          clear hA13 hC13 hi013 hsz13
          go_enter Tryd.func37, Tryd.ntmps37
          go_wp2_with (first | ((with_reducible refine gate_callee (f := 58) rfl ?_); refine goesL_ (some 13) rfl rfl Tryd.func58 (by kernel_rfl) rfl #[.slice A13 ((l0.take 156).drop 148).length (c0 - 148)] rfl (by (try simp only [List.map_toArray, List.map_cons, List.map_nil]); first | done | (rw [show ((l0.take 156).drop 148).length = (156 - 148) from (by rw [List.length_drop, List.length_take]; have h_ : (156 : Int) ≤ (l0.length : Int) := of_decide_eq_true (by first | (with_reducible assumption) | assumption); omega)] <;> rfl) | rfl | (simp only [List.length_drop, List.length_take]; rfl)) ?_; (with_reducible refine (oakumref01_Octal.calls k _ _ ((l0.take 156).drop 148) t241 false _ ?side1 ?side2 A5.out).mono ?_); (case side1 => repeat (first | exact HR240.out | (with_reducible refine Kd.C_alloc ?_ _) | (with_reducible refine Kd.C_drewN ?_ _) | (with_reducible refine Kd.C_drew ?_))); (case side2 => exact HC240.out); rintro e w' ⟨rfl, ⟨nd, rfl⟩⟩; refine ⟨_, rfl, ?_⟩))
          go_ret
          exact ⟨by first | rfl | (simp; done) | (simp [*]; done), by repeat (first | exact Drawn0.refl _ | apply Drawn0.step)⟩
      · rw [if_neg c4] at H
        exact absurd H (by simp)
    · rw [if_neg c3] at H
      exact absurd H (by simp)
  · rw [if_neg c2] at H
    have c2b0 : ((l0.length : Int) == 512) = false := beq_eq_false_iff_ne.mpr c2
    have c2b1 : ((l0.length : Int) != 512) = true := bne_iff_ne.mpr c2
    obtain rfl := Option.some.inj H
    go_enter Tryd.func37, Tryd.ntmps37
    go_wp2
    go_ret
    exact ⟨by first | rfl | (simp; done) | (simp [*]; done), by repeat (first | exact Drawn0.refl _ | apply Drawn0.step)⟩

/-! ### oakumref06_Mark: function 38 -/
def oakumref06_Mark.f (l0 : List Int) : Option (Int) := if 265 ≤ l0.length then some (Go.Proofs.YtoabboeongbloaaDoor.HeadA.markOf l0) else none
theorem oakumref06_Mark.calls (A0 : Option Addr) (c0 : Nat) (l0 : List Int) (r : Int) (w : World) (hr0 : Kd.C (Kd.int .u8) w A0 l0.length l0) (hc0 : l0.length ≤ c0) (h : oakumref06_Mark.f l0 = some r) :
    Calls Tryd.prog 38 #[.slice A0 l0.length c0] w fun e w' => e = .returned (.int .i64 r) ∧ Drawn0 w w' := by
  unfold oakumref06_Mark.f at h
  by_cases hl : 265 ≤ l0.length
  · rw [if_pos hl] at h
    cases h
    refine (Go.Proofs.YtoabboeongbloaaDoor.HeadA.rmark_calls A0 c0 l0 w hr0 hc0 hl).mono ?_
    rintro e w' ⟨rfl, rfl⟩
    exact ⟨rfl, Drawn0.refl _⟩
  · rw [if_neg hl] at h
    cases h

/-! ### oakumref02_Get: function 39 -/
def oakumref02_Get.l0 : Nat → List Int → List Int → Int → Option (ByteArray)
  | 0, _, _, _ => none
  | k + 1, x0, x3, x4 => if x4 < (x0.length : Int) then (if 0 ≤ x4 then (if (rd x0 x4) = 0 then (some (strOfNums x3)) else (if x3.length < 140737488355328 then (oakumref02_Get.l0 k x0 (x3 ++ [rd x0 x4]) (wrap64 (x4 + 1))) else (none))) else (none)) else (some (strOfNums x3))
def oakumref02_Get.f (k : Nat) (l0 : List Int) : Option (ByteArray) := oakumref02_Get.l0 k l0 (([] : List Int)) 0
theorem oakumref02_Get.mono_l : ∀ k, (∀ y0 y1 y2, LeO (oakumref02_Get.l0 k y0 y1 y2) (oakumref02_Get.l0 (k + 1) y0 y1 y2))
  | 0 => fun _ _ _ r h => by simp [oakumref02_Get.l0] at h
  | k + 1 => by
    have ih0 := oakumref02_Get.mono_l k
    · intro y0 y1 y2
      unfold oakumref02_Get.l0
      repeat' first
      | (with_reducible exact ih0 _ _ _)
      | (with_reducible exact LeO.refl _)
      | (with_reducible exact LeO.none _)
      | (with_reducible refine LeO.ite ?_ ?_)
      | (with_reducible refine LeO.bind ?_ (fun _ => ?_))
      | exact ih0 _ _ _
      | exact LeO.none _
      | refine LeO.ite ?_ ?_
      | refine LeO.bind ?_ (fun _ => ?_)
theorem oakumref02_Get.mono : ∀ a0 k, LeO (oakumref02_Get.f k a0) (oakumref02_Get.f (k + 1) a0) := by
  intro a0 k
  have ih0 := oakumref02_Get.mono_l k
  unfold oakumref02_Get.f
  repeat' first
      | (with_reducible exact ih0 _ _ _)
      | (with_reducible exact LeO.refl _)
      | (with_reducible exact LeO.none _)
      | (with_reducible refine LeO.ite ?_ ?_)
      | (with_reducible refine LeO.bind ?_ (fun _ => ?_))
      | exact ih0 _ _ _
      | exact LeO.none _
      | refine LeO.ite ?_ ?_
      | refine LeO.bind ?_ (fun _ => ?_)
set_option maxHeartbeats 8000000 in
set_option maxRecDepth 100000 in
theorem oakumref02_Get.calls (k : Nat) (A0 : Option Addr) (c0 : Nat) (l0 : List Int) (r : ByteArray) (w : World) (hr0 : Kd.C (Kd.int .u8) w A0 l0.length l0) (hc0 : l0.length ≤ c0) (h : oakumref02_Get.f k l0 = some r) :
    Calls Tryd.prog 39 #[.slice A0 l0.length c0] w fun e w' => e = .returned (.string r) ∧ Below w.heap.size w w' := by
  have HR0 := Aside0.mk hr0
  have HC0 := Aside0.mk hc0
  clear hr0 hc0
  have HB := Aside0.mk (Below.refl w.heap.size w)
  have H : (oakumref02_Get.l0 k l0 (([] : List Int)) 0) = some r := h
  clear h
  obtain ⟨y245, hy245⟩ : ∃ y_ : List Int, y_ = (([] : List Int)) := ⟨_, rfl⟩
  replace H : (oakumref02_Get.l0 k l0 y245 0) = some r := by first | (rw [hy245]; with_reducible exact H) | (have H2_ := (Option.bind_some _ _).symm.trans H; rw [hy245]; with_reducible exact H2_) | (have H2_ := (Option.bind_some _ _).symm.trans H; with_reducible exact H2_) | with_reducible exact H | (rw [hy245]; exact H) | exact H
  have Ny245 := Aside0.mk hy245
  clear hy245
  have H' := Aside0.mk H
  clear H
  go_enter Tryd.func39, Tryd.ntmps39
  go_wp2_with (first | ((with_reducible refine gate_dst (N := 5) rfl ?_); refine Kd.R_lit (Kd.int .u8) _ 5 ?hg (N := 5) ?hd (xs := ([] : List Int)) (inner := []) (ok := fun _ => True) (okp := fun _ => True) ?hr ?hp (fun _ hk => hk) trivial (Below.refl _ _) (Nat.le_refl _) (by simp) ?_; (case hd => rfl); (case hg => rfl); (case hr => first | (go_simp; done) | (go_simp; rfl)); (case hp => exact (Reps.none _ _)); intro v246 w2 ho3 hb hg_ hnew_; clear hg_ hnew_; (first | rw [← Ny245.out] at ho3 | (simp only [Int.reduceToNat] at ho3; rw [← Ny245.out] at ho3)); have n0_ := Aside0.mk (Kd.R_lower ho3 (below_size (by repeat (first | (with_reducible first | exact HB.out | apply below_alloc | apply pw_below_drewN | apply below_drew1) | exact HB.out)))); have n1_ := Aside0.mk (below_step (by repeat (first | (with_reducible first | exact HB.out | apply below_alloc | apply pw_below_drewN | apply below_drew1) | exact HB.out)) hb); clear HB; have HO247 := n0_; have HB := n1_; clear n0_ n1_; clear hb ho3))
  go_loopg [3, 4] k (fun kq v3 v4 w' => ∃ (x3_1 : List Int) (x4_1 : Int), v4 = .int .i64 x4_1 ∧ Aside0 (oakumref02_Get.l0 kq l0 x3_1 x4_1 = some r) ∧ Aside0 (kq ≤ k) ∧ Aside0 (Kd.R (Kd.int .u8) 5 w' w.heap.size (fun _ => True) v3 x3_1) ∧ Aside0 (Below w.heap.size w w'))
  case atStart => exact ⟨(y245), (0), (by first | rfl | (simp; done) | (simp [*]; done)), H', ⟨Nat.le_refl _⟩, ⟨by (with_reducible repeat (first | apply Kd.R_alloc | apply Kd.R_drewN | apply Kd.R_drew)); exact HO247.out⟩, ⟨by repeat (first | (with_reducible first | exact HB.out | apply below_alloc | apply pw_below_drewN | apply below_drew1) | exact HB.out)⟩⟩
  case round =>
    clear H'
    try clear p2
    try clear c3
    obtain ⟨x3_1, x4_1, rfl, HA, HK1, HO_3, HB⟩ := hrel
    cases gk with
    | zero => exact absurd HA.out (by simp [oakumref02_Get.l0])
    | succ k1 =>
      have H := HA.out
      clear HA
      simp only [oakumref02_Get.l0] at H
      by_cases c4 : x4_1 < (l0.length : Int)
      · rw [if_pos c4] at H
        have c4b0 : decide (x4_1 < (l0.length : Int)) = true := decide_eq_true c4
        clear c4
        by_cases c5 : 0 ≤ x4_1
        · rw [if_pos c5] at H
          have c5b0 : decide (0 ≤ x4_1) = true := decide_eq_true c5
          clear c5
          by_cases c6 : (rd l0 x4_1) = 0
          · rw [if_pos c6] at H
            have c6b0 : ((rd l0 x4_1) == 0) = true := beq_iff_eq.mpr c6
            have c6b1 : ((rd l0 x4_1) != 0) = false := bne_eq_false_iff_eq.mpr c6
            clear c6
            obtain rfl := Option.some.inj H
            have p248 : 0 ≤ (x4_1 : Int) := of_decide_eq_true (by first | (with_reducible assumption) | assumption)
            have q248 : x4_1 < (l0.length : Int) := of_decide_eq_true (by first | (with_reducible assumption) | assumption)
            obtain ⟨ad248, e248, hx248_0⟩ := Kd.at_int HR0.out x4_1 p248 q248
            cases e248
            replace hx248_0 := (HB.out.cell (World.block_lt_of_cell? w _ hx248_0)).trans hx248_0
            replace p248 := eq_true p248
            replace q248 := eq_true q248
            have hcv7 := own_string (P := Tryd.prog) Tryd.underlying25 Tryd.underlying5 Tryd.underlying9 (Kd.own_of_R HO_3.out)
            go_wp2
            go_ret
            exact ⟨by first | rfl | (simp [errW_none, errW_some] <;> rfl) | (simp [*, errW_none, errW_some] <;> rfl), by repeat (first | (with_reducible first | exact HB.out | apply below_alloc | apply pw_below_drewN | apply below_drew1) | exact HB.out)⟩
          · rw [if_neg c6] at H
            have c6b0 : ((rd l0 x4_1) == 0) = false := beq_eq_false_iff_ne.mpr c6
            have c6b1 : ((rd l0 x4_1) != 0) = true := bne_iff_ne.mpr c6
            by_cases c8 : x3_1.length < 140737488355328
            · rw [if_pos c8] at H
              have LMc8 := Aside0.mk c8
              clear c8
              obtain ⟨y250, hy250⟩ : ∃ y_ : List Int, y_ = (x3_1 ++ [rd l0 x4_1]) := ⟨_, rfl⟩
              replace H : (oakumref02_Get.l0 k1 l0 y250 (wrap64 (x4_1 + 1))) = some r := by first | (rw [hy250]; with_reducible exact H) | (have H2_ := (Option.bind_some _ _).symm.trans H; rw [hy250]; with_reducible exact H2_) | (have H2_ := (Option.bind_some _ _).symm.trans H; with_reducible exact H2_) | with_reducible exact H | (rw [hy250]; exact H) | exact H
              have Ny250 := Aside0.mk hy250
              clear hy250
              have H' := Aside0.mk H
              clear H
              have p248 : 0 ≤ (x4_1 : Int) := of_decide_eq_true (by first | (with_reducible assumption) | assumption)
              have q248 : x4_1 < (l0.length : Int) := of_decide_eq_true (by first | (with_reducible assumption) | assumption)
              obtain ⟨ad248, e248, hx248_0⟩ := Kd.at_int HR0.out x4_1 p248 q248
              cases e248
              replace hx248_0 := (HB.out.cell (World.block_lt_of_cell? w _ hx248_0)).trans hx248_0
              replace p248 := eq_true p248
              replace q248 := eq_true q248
              have p249 : 0 ≤ (x4_1 : Int) := of_decide_eq_true (by first | (with_reducible assumption) | assumption)
              have q249 : x4_1 < (l0.length : Int) := of_decide_eq_true (by first | (with_reducible assumption) | assumption)
              obtain ⟨ad249, e249, hx249_0⟩ := Kd.at_int HR0.out x4_1 p249 q249
              obtain rfl : ad248 = ad249 := (by injection e249)
              replace hx249_0 := (HB.out.cell (World.block_lt_of_cell? w _ hx249_0)).trans hx249_0
              replace p249 := eq_true p249
              replace q249 := eq_true q249
              go_wp2_with (first | ((with_reducible refine gate_builtin (b := .append) (xs := #[.tmp 19, .tmp 24]) rfl ?_); at_builtin; refine Kd.R_append (Kd.int .u8) (w0 := w) w.heap.size rfl (.tmp 19) (.tmp 24) 25 5 (.int .u8 0) 1 rfl Tryd.underlying25 info5 rfl (by decide) (by omega) u3 x3_1 (rd l0 x4_1) [.int .u8 (rd l0 x4_1)] (fun _ => True) (fun _ => False) rfl rfl ?aP (fun _ hk => hk.elim) ?aF ?aO ?aB ?aS ?aL ?_; (case aP => exact rfl); (case aB => exact (by repeat (first | (with_reducible first | exact HB.out | apply below_alloc | apply pw_below_drewN | apply below_drew1) | exact HB.out))); (case aF => exact (fun _ _ => trivial)); (case aO => exact (by (with_reducible repeat (first | apply Kd.R_alloc | apply Kd.R_drewN | apply Kd.R_drew)); exact HO_3.out)); (case aS => exact (below_size (by repeat (first | (with_reducible first | exact HB.out | apply below_alloc | apply pw_below_drewN | apply below_drew1) | exact HB.out)))); (case aL => have := LMc8.out; omega); intro v251 w9 ho hb hg hat; rw [← Ny250.out] at ho; have n0_ := Aside0.mk (hb); have n1_ := Aside0.mk (ho); clear HB; clear HO_3; have HB := n0_; have HO252 := n1_; clear n0_ n1_; clear ho hb hg hat))
              go_roundg k1
              case measure => have := HK1.out; omega
              case rel => exact ⟨(y250), (wrap64 (x4_1 + 1)), (by first | rfl | (simp; done) | (simp [*]; done)), H', ⟨by have := HK1.out; omega⟩, ⟨by (with_reducible repeat (first | apply Kd.R_alloc | apply Kd.R_drewN | apply Kd.R_drew)); exact HO252.out⟩, ⟨by repeat (first | (with_reducible first | exact HB.out | apply below_alloc | apply pw_below_drewN | apply below_drew1) | exact HB.out)⟩⟩
            · rw [if_neg c8] at H
              exact absurd H (by simp)
        · rw [if_neg c5] at H
          exact absurd H (by simp)
      · rw [if_neg c4] at H
        have c4b0 : decide (x4_1 < (l0.length : Int)) = false := decide_eq_false c4
        clear c4
        obtain rfl := Option.some.inj H
        have hcv10 := own_string (P := Tryd.prog) Tryd.underlying25 Tryd.underlying5 Tryd.underlying9 (Kd.own_of_R HO_3.out)
        go_wp2
        go_ret
        exact ⟨by first | rfl | (simp [errW_none, errW_some] <;> rfl) | (simp [*, errW_none, errW_some] <;> rfl), by repeat (first | (with_reducible first | exact HB.out | apply below_alloc | apply pw_below_drewN | apply below_drew1) | exact HB.out)⟩

-- NOT PRINTED: function 13 (oakumref06_Get)

/-! ### head_Full: function 14 -/
def head_Full.f (a0_0 : Int) (a0_1 : Int) (a0_2 : ByteArray) (a0_3 : ByteArray) (a0_4 : ByteArray) (a0_5 : ByteArray) (a0_6 : ByteArray) (a0_7 : Int) (a0_8 : Int) (a0_9 : Int) (a0_10 : Int) (a0_11 : Int) (a0_12 : Int) (a0_13 : Int) : Option (ByteArray) := if a0_4.toList = ([] : List UInt8) then (some a0_2) else (if a0_4.size + 1 ≤ 9223372036854775807 then (if (a0_4 ++ (⟨#[47]⟩ : ByteArray)).size + a0_2.size ≤ 9223372036854775807 then (some ((a0_4 ++ (⟨#[47]⟩ : ByteArray)) ++ a0_2)) else (none)) else (none))
set_option maxHeartbeats 8000000 in
set_option maxRecDepth 100000 in
theorem head_Full.calls (a0_0 : Int) (a0_1 : Int) (a0_2 : ByteArray) (a0_3 : ByteArray) (a0_4 : ByteArray) (a0_5 : ByteArray) (a0_6 : ByteArray) (a0_7 : Int) (a0_8 : Int) (a0_9 : Int) (a0_10 : Int) (a0_11 : Int) (a0_12 : Int) (a0_13 : Int) (r : ByteArray) (w : World) (h : head_Full.f a0_0 a0_1 a0_2 a0_3 a0_4 a0_5 a0_6 a0_7 a0_8 a0_9 a0_10 a0_11 a0_12 a0_13 = some r) :
    Calls Tryd.prog 14 #[.agg #[.int .i64 a0_0, .int .u8 a0_1, .string a0_2, .string a0_3, .string a0_4, .string a0_5, .string a0_6, .int .i64 a0_7, .int .i64 a0_8, .int .i64 a0_9, .int .i64 a0_10, .int .i64 a0_11, .int .i64 a0_12, .int .i64 a0_13]] w fun e w' => e = .returned (.string r) ∧ Below w.heap.size w w' := by
  have hu23 := Tryd.underlying23
  have HB := Aside0.mk (Below.refl w.heap.size w)
  have H : (if a0_4.toList = ([] : List UInt8) then (some a0_2) else (if a0_4.size + 1 ≤ 9223372036854775807 then (if (a0_4 ++ (⟨#[47]⟩ : ByteArray)).size + a0_2.size ≤ 9223372036854775807 then (some ((a0_4 ++ (⟨#[47]⟩ : ByteArray)) ++ a0_2)) else (none)) else (none))) = some r := h
  clear h
  by_cases c2 : a0_4.toList = ([] : List UInt8)
  · rw [if_pos c2] at H
    have c2b0 : (a0_4.toList == ([] : List UInt8)) = true := beq_iff_eq.mpr c2
    have c2b1 : (a0_4.toList != ([] : List UInt8)) = false := bne_eq_false_iff_eq.mpr c2
    clear c2
    obtain rfl := Option.some.inj H
    go_enter Tryd.func14, Tryd.ntmps14
    go_wp2_with (first | ((with_reducible refine gate_dst (N := 1) rfl ?_); refine box_event ?hg (N := 1) ?hd (cs := #[.int .i64 a0_0, .int .u8 a0_1, .string a0_2, .string a0_3, .string a0_4, .string a0_5, .string a0_6, .int .i64 a0_7, .int .i64 a0_8, .int .i64 a0_9, .int .i64 a0_10, .int .i64 a0_11, .int .i64 a0_12, .int .i64 a0_13]) (t := 23) ?hr ?_; (case hd => rfl); (case hg => rfl); (case hr => first | (go_simp; done) | (go_simp; rfl)); intro gb253 hg w3 hbox hb; have n0_ := Aside0.mk (below_step (by repeat (first | (with_reducible first | exact HB.out | apply below_alloc | apply pw_below_drewN | apply below_drew1) | exact HB.out)) hb); have n1_ := Aside0.mk (hbox); have n2_ := Aside0.mk ((by rw [hg]; exact (below_size (by repeat (first | (with_reducible first | exact HB.out | apply below_alloc | apply pw_below_drewN | apply below_drew1) | exact HB.out))) : w.heap.size ≤ gb253)); have n3_ := Aside0.mk ((by rw [hg]; exact (below_size (by repeat (first | (with_reducible first | exact HB.out | apply below_alloc | apply pw_below_drewN | apply below_drew1) | exact HB.out))) : w.heap.size ≤ gb253)); clear HB; have HB := n0_; have BK253 := n1_; have GW253 := n2_; have GE253 := n3_; clear n0_ n1_ n2_ n3_; clear hb hbox hg; have hcz4_0 : w3.cell? ⟨gb253, 0, none⟩ = some (.int .i64 a0_0) := (blk_cell BK253.out 0).trans rfl; have hcz4_1 : w3.cell? ⟨gb253, 1, none⟩ = some (.int .u8 a0_1) := (blk_cell BK253.out 1).trans rfl; have hcz4_2 : w3.cell? ⟨gb253, 2, none⟩ = some (.string a0_2) := (blk_cell BK253.out 2).trans rfl; have hcz4_3 : w3.cell? ⟨gb253, 3, none⟩ = some (.string a0_3) := (blk_cell BK253.out 3).trans rfl; have hcz4_4 : w3.cell? ⟨gb253, 4, none⟩ = some (.string a0_4) := (blk_cell BK253.out 4).trans rfl; have hcz4_5 : w3.cell? ⟨gb253, 5, none⟩ = some (.string a0_5) := (blk_cell BK253.out 5).trans rfl; have hcz4_6 : w3.cell? ⟨gb253, 6, none⟩ = some (.string a0_6) := (blk_cell BK253.out 6).trans rfl; have hcz4_7 : w3.cell? ⟨gb253, 7, none⟩ = some (.int .i64 a0_7) := (blk_cell BK253.out 7).trans rfl; have hcz4_8 : w3.cell? ⟨gb253, 8, none⟩ = some (.int .i64 a0_8) := (blk_cell BK253.out 8).trans rfl; have hcz4_9 : w3.cell? ⟨gb253, 9, none⟩ = some (.int .i64 a0_9) := (blk_cell BK253.out 9).trans rfl; have hcz4_10 : w3.cell? ⟨gb253, 10, none⟩ = some (.int .i64 a0_10) := (blk_cell BK253.out 10).trans rfl; have hcz4_11 : w3.cell? ⟨gb253, 11, none⟩ = some (.int .i64 a0_11) := (blk_cell BK253.out 11).trans rfl; have hcz4_12 : w3.cell? ⟨gb253, 12, none⟩ = some (.int .i64 a0_12) := (blk_cell BK253.out 12).trans rfl; have hcz4_13 : w3.cell? ⟨gb253, 13, none⟩ = some (.int .i64 a0_13) := (blk_cell BK253.out 13).trans rfl; have hfz4_0 := blk_frozen BK253.out 0; have hfz4_1 := blk_frozen BK253.out 1; have hfz4_2 := blk_frozen BK253.out 2; have hfz4_3 := blk_frozen BK253.out 3; have hfz4_4 := blk_frozen BK253.out 4; have hfz4_5 := blk_frozen BK253.out 5; have hfz4_6 := blk_frozen BK253.out 6; have hfz4_7 := blk_frozen BK253.out 7; have hfz4_8 := blk_frozen BK253.out 8; have hfz4_9 := blk_frozen BK253.out 9; have hfz4_10 := blk_frozen BK253.out 10; have hfz4_11 := blk_frozen BK253.out 11; have hfz4_12 := blk_frozen BK253.out 12; have hfz4_13 := blk_frozen BK253.out 13))
    go_ret
    exact ⟨by first | rfl | (simp [errW_none, errW_some] <;> rfl) | (simp [*, errW_none, errW_some] <;> rfl), by repeat (first | (with_reducible first | exact HB.out | apply below_alloc | apply pw_below_drewN | apply below_drew1 | refine below_set ?_ GE253.out) | exact HB.out)⟩
  · rw [if_neg c2] at H
    have c2b0 : (a0_4.toList == ([] : List UInt8)) = false := beq_eq_false_iff_ne.mpr c2
    have c2b1 : (a0_4.toList != ([] : List UInt8)) = true := bne_iff_ne.mpr c2
    by_cases c5 : a0_4.size + 1 ≤ 9223372036854775807
    · rw [if_pos c5] at H
      have c5b0 := eq_true c5
      have c5b1 : decide (a0_4.size + 1 ≤ 9223372036854775807) = true := decide_eq_true c5
      try have c5b2 : (9223372036854775807 < a0_4.size + 1) = False := eq_false (Nat.not_lt.2 c5)
      by_cases c6 : (a0_4 ++ (⟨#[47]⟩ : ByteArray)).size + a0_2.size ≤ 9223372036854775807
      · rw [if_pos c6] at H
        have c6b0 := eq_true c6
        have c6b1 : decide ((a0_4 ++ (⟨#[47]⟩ : ByteArray)).size + a0_2.size ≤ 9223372036854775807) = true := decide_eq_true c6
        try have c6b2 : (9223372036854775807 < (a0_4 ++ (⟨#[47]⟩ : ByteArray)).size + a0_2.size) = False := eq_false (Nat.not_lt.2 c6)
        obtain rfl := Option.some.inj H
        go_enter Tryd.func14, Tryd.ntmps14
        go_wp2_with (first | ((with_reducible refine gate_dst (N := 1) rfl ?_); refine box_event ?hg (N := 1) ?hd (cs := #[.int .i64 a0_0, .int .u8 a0_1, .string a0_2, .string a0_3, .string a0_4, .string a0_5, .string a0_6, .int .i64 a0_7, .int .i64 a0_8, .int .i64 a0_9, .int .i64 a0_10, .int .i64 a0_11, .int .i64 a0_12, .int .i64 a0_13]) (t := 23) ?hr ?_; (case hd => rfl); (case hg => rfl); (case hr => first | (go_simp; done) | (go_simp; rfl)); intro gb253 hg w7 hbox hb; have n0_ := Aside0.mk (below_step (by repeat (first | (with_reducible first | exact HB.out | apply below_alloc | apply pw_below_drewN | apply below_drew1) | exact HB.out)) hb); have n1_ := Aside0.mk (hbox); have n2_ := Aside0.mk ((by rw [hg]; exact (below_size (by repeat (first | (with_reducible first | exact HB.out | apply below_alloc | apply pw_below_drewN | apply below_drew1) | exact HB.out))) : w.heap.size ≤ gb253)); have n3_ := Aside0.mk ((by rw [hg]; exact (below_size (by repeat (first | (with_reducible first | exact HB.out | apply below_alloc | apply pw_below_drewN | apply below_drew1) | exact HB.out))) : w.heap.size ≤ gb253)); clear HB; have HB := n0_; have BK253 := n1_; have GW253 := n2_; have GE253 := n3_; clear n0_ n1_ n2_ n3_; clear hb hbox hg; have hcz8_0 : w7.cell? ⟨gb253, 0, none⟩ = some (.int .i64 a0_0) := (blk_cell BK253.out 0).trans rfl; have hcz8_1 : w7.cell? ⟨gb253, 1, none⟩ = some (.int .u8 a0_1) := (blk_cell BK253.out 1).trans rfl; have hcz8_2 : w7.cell? ⟨gb253, 2, none⟩ = some (.string a0_2) := (blk_cell BK253.out 2).trans rfl; have hcz8_3 : w7.cell? ⟨gb253, 3, none⟩ = some (.string a0_3) := (blk_cell BK253.out 3).trans rfl; have hcz8_4 : w7.cell? ⟨gb253, 4, none⟩ = some (.string a0_4) := (blk_cell BK253.out 4).trans rfl; have hcz8_5 : w7.cell? ⟨gb253, 5, none⟩ = some (.string a0_5) := (blk_cell BK253.out 5).trans rfl; have hcz8_6 : w7.cell? ⟨gb253, 6, none⟩ = some (.string a0_6) := (blk_cell BK253.out 6).trans rfl; have hcz8_7 : w7.cell? ⟨gb253, 7, none⟩ = some (.int .i64 a0_7) := (blk_cell BK253.out 7).trans rfl; have hcz8_8 : w7.cell? ⟨gb253, 8, none⟩ = some (.int .i64 a0_8) := (blk_cell BK253.out 8).trans rfl; have hcz8_9 : w7.cell? ⟨gb253, 9, none⟩ = some (.int .i64 a0_9) := (blk_cell BK253.out 9).trans rfl; have hcz8_10 : w7.cell? ⟨gb253, 10, none⟩ = some (.int .i64 a0_10) := (blk_cell BK253.out 10).trans rfl; have hcz8_11 : w7.cell? ⟨gb253, 11, none⟩ = some (.int .i64 a0_11) := (blk_cell BK253.out 11).trans rfl; have hcz8_12 : w7.cell? ⟨gb253, 12, none⟩ = some (.int .i64 a0_12) := (blk_cell BK253.out 12).trans rfl; have hcz8_13 : w7.cell? ⟨gb253, 13, none⟩ = some (.int .i64 a0_13) := (blk_cell BK253.out 13).trans rfl; have hfz8_0 := blk_frozen BK253.out 0; have hfz8_1 := blk_frozen BK253.out 1; have hfz8_2 := blk_frozen BK253.out 2; have hfz8_3 := blk_frozen BK253.out 3; have hfz8_4 := blk_frozen BK253.out 4; have hfz8_5 := blk_frozen BK253.out 5; have hfz8_6 := blk_frozen BK253.out 6; have hfz8_7 := blk_frozen BK253.out 7; have hfz8_8 := blk_frozen BK253.out 8; have hfz8_9 := blk_frozen BK253.out 9; have hfz8_10 := blk_frozen BK253.out 10; have hfz8_11 := blk_frozen BK253.out 11; have hfz8_12 := blk_frozen BK253.out 12; have hfz8_13 := blk_frozen BK253.out 13))
        go_ret
        exact ⟨by first | rfl | (simp [errW_none, errW_some] <;> rfl) | (simp [*, errW_none, errW_some] <;> rfl), by repeat (first | (with_reducible first | exact HB.out | apply below_alloc | apply pw_below_drewN | apply below_drew1 | refine below_set ?_ GE253.out) | exact HB.out)⟩
      · rw [if_neg c6] at H
        exact absurd H (by simp)
    · rw [if_neg c5] at H
      exact absurd H (by simp)

-- NOT PRINTED: function 15 (oakumref06_Full)

end Go.Proofs.YtoabboeongbloaaDoor.PHeadGets
