/- Laws that the claim's theorem rests on: out of texts of this session and of the print, less what is not used. -/
import Derived.Test.YtkcgioggnbnfkaaDoorZPVolumeJoinsx0
import Derived.Test.YtkcgioggnbnfkaaDoorZPVolumeJoinsx3
-- Written by a program of this session over the print (contracts by hand for the functions that it passes over).
namespace Go.Proofs.YtkcgioggnbnfkaaDoor.PVolumeJoins
open Go.RowKit Go.Proofs.YtkcgioggnbnfkaaDoorW.PrintWords Go.Proofs.YtkcgioggnbnfkaaDoorW.PrintLast Go.Proofs.YtkcgioggnbnfkaaDoorW.PrintMore
attribute [local go_sem] max2_int min2_int max_two min_two max_three min_three max_four min_four   -- for this text's walks alone
set_option linter.unusedVariables false
set_option linter.unusedSimpArgs false

mutual
def oakumref01_Put.j0 : Nat → Int → Int → Bool → Bool → Option (List Int × Int)
  | 0, _, _, _, _ => none
  | k + 1, x0, x1, x2, x19 => if x19 = true then (some (([] : List Int), 2)) else (if x0 ≥ 0 then ((oakumref01_Most.f k x1).bind fun t163 => (oakumref01_Put.j1 k x0 x1 x2 (decide (x0 ≤ t163)))) else (oakumref01_Put.j1 k x0 x1 x2 false))
def oakumref01_Put.j1 : Nat → Int → Int → Bool → Bool → Option (List Int × Int)
  | 0, _, _, _, _ => none
  | k + 1, x0, x1, x2, x27 => if x27 = true then ((oakumref01_Most.f k (wrap64 (x1 - 1))).bind fun t164 => (if x0 ≤ t164 then (oakumref01_Put.j2 k x0 x1 (wrap64 (x1 - 1))) else (oakumref01_Put.j2 k x0 x1 x1))) else (if x0 < 0 then (oakumref01_Put.j4 k x0 x1 x2 (wrap64 (-(wrap64 (x0 + 1))))) else (oakumref01_Put.j4 k x0 x1 x2 x0))
def oakumref01_Put.j2 : Nat → Int → Int → Int → Option (List Int × Int)
  | 0, _, _, _ => none
  | k + 1, x0, x1, x8 => (oakumref01_digits.f k x0 8 x8).bind fun t165 => (oakumref01_Put.l0 k x1 x8 t165 0)
def oakumref01_Put.l0 : Nat → Int → Int → List Int → Int → Option (List Int × Int)
  | 0, _, _, _, _ => none
  | k + 1, x1, x8, x9, x10 => if x10 < x8 then (if 0 ≤ x10 then (if x10 < (x9.length : Int) then (oakumref01_Put.l0 k x1 x8 (x9.set (x10 : Int).toNat (((rd x9 x10) + 48) % 256)) (wrap64 (x10 + 1))) else (none)) else (none)) else (if x8 < x1 then (if x9.length < 140737488355328 then (some ((x9 ++ [0]), 0)) else (none)) else (some (x9, 0)))
def oakumref01_Put.j4 : Nat → Int → Int → Bool → Int → Option (List Int × Int)
  | 0, _, _, _, _ => none
  | k + 1, x0, x1, x2, x11 => if x2 = true then (if x1 < 9 then ((oakumref01_Power.f k 256 (wrap64 (x1 - 1))).bind fun t173 => (oakumref01_Put.j5 k x0 x1 x11 (decide (x11 ≥ t173)))) else (oakumref01_Put.j5 k x0 x1 x11 false)) else (oakumref01_Put.j5 k x0 x1 x11 true)
def oakumref01_Put.j5 : Nat → Int → Int → Int → Bool → Option (List Int × Int)
  | 0, _, _, _, _ => none
  | k + 1, x0, x1, x11, x77 => if x77 = true then (some (([] : List Int), 5)) else ((some (([128] : List Int) : List Int)).bind fun y174 => ((oakumref01_digits.f k x11 256 (wrap64 (x1 - 1))).bind fun t177 => (if y174.length + t177.length < 140737488355328 then (oakumref01_Put.l1 k x0 x1 (y174 ++ t177) 0) else (none))))
def oakumref01_Put.l1 : Nat → Int → Int → List Int → Int → Option (List Int × Int)
  | 0, _, _, _, _ => none
  | k + 1, x0, x1, x12, x13 => if x13 < x1 then (if x0 < 0 then (if 0 ≤ x13 then (if x13 < (x12.length : Int) then (oakumref01_Put.l1 k x0 x1 (x12.set (x13 : Int).toNat ((255 - (rd x12 x13)) % 256)) (wrap64 (x13 + 1))) else (none)) else (none)) else (some (x12, 0))) else (if x0 < 0 then (if 0 < (x12.length : Int) then (some ((x12.set (0 : Int).toNat 255), 0)) else (none)) else (some (x12, 0)))
end
def oakumref01_Put.f (k : Nat) (a0 : Int) (a1 : Int) (a2 : Bool) : Option (List Int × Int) := if a1 < 2 then (oakumref01_Put.j0 k a0 a1 a2 true) else (oakumref01_Put.j0 k a0 a1 a2 (decide (a1 > 32)))
theorem oakumref01_Put.mono_l : ∀ k, (∀ y0 y1 y2 y3, LeO (oakumref01_Put.j0 k y0 y1 y2 y3) (oakumref01_Put.j0 (k + 1) y0 y1 y2 y3)) ∧ (∀ y0 y1 y2 y3, LeO (oakumref01_Put.j1 k y0 y1 y2 y3) (oakumref01_Put.j1 (k + 1) y0 y1 y2 y3)) ∧ (∀ y0 y1 y2, LeO (oakumref01_Put.j2 k y0 y1 y2) (oakumref01_Put.j2 (k + 1) y0 y1 y2)) ∧ (∀ y0 y1 y2 y3, LeO (oakumref01_Put.l0 k y0 y1 y2 y3) (oakumref01_Put.l0 (k + 1) y0 y1 y2 y3)) ∧ (∀ y0 y1 y2 y3, LeO (oakumref01_Put.j4 k y0 y1 y2 y3) (oakumref01_Put.j4 (k + 1) y0 y1 y2 y3)) ∧ (∀ y0 y1 y2 y3, LeO (oakumref01_Put.j5 k y0 y1 y2 y3) (oakumref01_Put.j5 (k + 1) y0 y1 y2 y3)) ∧ (∀ y0 y1 y2 y3, LeO (oakumref01_Put.l1 k y0 y1 y2 y3) (oakumref01_Put.l1 (k + 1) y0 y1 y2 y3))
  | 0 => ⟨fun _ _ _ _ r h => by simp [oakumref01_Put.j0] at h, fun _ _ _ _ r h => by simp [oakumref01_Put.j1] at h, fun _ _ _ r h => by simp [oakumref01_Put.j2] at h, fun _ _ _ _ r h => by simp [oakumref01_Put.l0] at h, fun _ _ _ _ r h => by simp [oakumref01_Put.j4] at h, fun _ _ _ _ r h => by simp [oakumref01_Put.j5] at h, fun _ _ _ _ r h => by simp [oakumref01_Put.l1] at h⟩
  | k + 1 => by
    obtain ⟨ih0, ih1, ih2, ih3, ih4, ih5, ih6⟩ := oakumref01_Put.mono_l k
    refine ⟨?_, ?_, ?_, ?_, ?_, ?_, ?_⟩
    · intro y0 y1 y2 y3
      unfold oakumref01_Put.j0
      repeat' first
      | (with_reducible exact ih0 _ _ _ _)
      | (with_reducible exact ih1 _ _ _ _)
      | (with_reducible exact ih2 _ _ _)
      | (with_reducible exact ih3 _ _ _ _)
      | (with_reducible exact ih4 _ _ _ _)
      | (with_reducible exact ih5 _ _ _ _)
      | (with_reducible exact ih6 _ _ _ _)
      | (with_reducible exact oakumref01_Most.mono _ _)
      | (with_reducible exact oakumref01_Power.mono _ _ _)
      | (with_reducible exact oakumref01_digits.mono _ _ _ _)
      | (with_reducible exact LeO.refl _)
      | (with_reducible exact LeO.none _)
      | (with_reducible refine LeO.ite ?_ ?_)
      | (with_reducible refine LeO.bind ?_ (fun _ => ?_))
      | exact ih0 _ _ _ _
      | exact ih1 _ _ _ _
      | exact ih2 _ _ _
      | exact ih3 _ _ _ _
      | exact ih4 _ _ _ _
      | exact ih5 _ _ _ _
      | exact ih6 _ _ _ _
      | exact oakumref01_Most.mono _ _
      | exact oakumref01_Power.mono _ _ _
      | exact oakumref01_digits.mono _ _ _ _
      | exact LeO.none _
      | refine LeO.ite ?_ ?_
      | refine LeO.bind ?_ (fun _ => ?_)
    · intro y0 y1 y2 y3
      unfold oakumref01_Put.j1
      repeat' first
      | (with_reducible exact ih0 _ _ _ _)
      | (with_reducible exact ih1 _ _ _ _)
      | (with_reducible exact ih2 _ _ _)
      | (with_reducible exact ih3 _ _ _ _)
      | (with_reducible exact ih4 _ _ _ _)
      | (with_reducible exact ih5 _ _ _ _)
      | (with_reducible exact ih6 _ _ _ _)
      | (with_reducible exact oakumref01_Most.mono _ _)
      | (with_reducible exact oakumref01_Power.mono _ _ _)
      | (with_reducible exact oakumref01_digits.mono _ _ _ _)
      | (with_reducible exact LeO.refl _)
      | (with_reducible exact LeO.none _)
      | (with_reducible refine LeO.ite ?_ ?_)
      | (with_reducible refine LeO.bind ?_ (fun _ => ?_))
      | exact ih0 _ _ _ _
      | exact ih1 _ _ _ _
      | exact ih2 _ _ _
      | exact ih3 _ _ _ _
      | exact ih4 _ _ _ _
      | exact ih5 _ _ _ _
      | exact ih6 _ _ _ _
      | exact oakumref01_Most.mono _ _
      | exact oakumref01_Power.mono _ _ _
      | exact oakumref01_digits.mono _ _ _ _
      | exact LeO.none _
      | refine LeO.ite ?_ ?_
      | refine LeO.bind ?_ (fun _ => ?_)
    · intro y0 y1 y2
      unfold oakumref01_Put.j2
      repeat' first
      | (with_reducible exact ih0 _ _ _ _)
      | (with_reducible exact ih1 _ _ _ _)
      | (with_reducible exact ih2 _ _ _)
      | (with_reducible exact ih3 _ _ _ _)
      | (with_reducible exact ih4 _ _ _ _)
      | (with_reducible exact ih5 _ _ _ _)
      | (with_reducible exact ih6 _ _ _ _)
      | (with_reducible exact oakumref01_Most.mono _ _)
      | (with_reducible exact oakumref01_Power.mono _ _ _)
      | (with_reducible exact oakumref01_digits.mono _ _ _ _)
      | (with_reducible exact LeO.refl _)
      | (with_reducible exact LeO.none _)
      | (with_reducible refine LeO.ite ?_ ?_)
      | (with_reducible refine LeO.bind ?_ (fun _ => ?_))
      | exact ih0 _ _ _ _
      | exact ih1 _ _ _ _
      | exact ih2 _ _ _
      | exact ih3 _ _ _ _
      | exact ih4 _ _ _ _
      | exact ih5 _ _ _ _
      | exact ih6 _ _ _ _
      | exact oakumref01_Most.mono _ _
      | exact oakumref01_Power.mono _ _ _
      | exact oakumref01_digits.mono _ _ _ _
      | exact LeO.none _
      | refine LeO.ite ?_ ?_
      | refine LeO.bind ?_ (fun _ => ?_)
    · intro y0 y1 y2 y3
      unfold oakumref01_Put.l0
      repeat' first
      | (with_reducible exact ih0 _ _ _ _)
      | (with_reducible exact ih1 _ _ _ _)
      | (with_reducible exact ih2 _ _ _)
      | (with_reducible exact ih3 _ _ _ _)
      | (with_reducible exact ih4 _ _ _ _)
      | (with_reducible exact ih5 _ _ _ _)
      | (with_reducible exact ih6 _ _ _ _)
      | (with_reducible exact oakumref01_Most.mono _ _)
      | (with_reducible exact oakumref01_Power.mono _ _ _)
      | (with_reducible exact oakumref01_digits.mono _ _ _ _)
      | (with_reducible exact LeO.refl _)
      | (with_reducible exact LeO.none _)
      | (with_reducible refine LeO.ite ?_ ?_)
      | (with_reducible refine LeO.bind ?_ (fun _ => ?_))
      | exact ih0 _ _ _ _
      | exact ih1 _ _ _ _
      | exact ih2 _ _ _
      | exact ih3 _ _ _ _
      | exact ih4 _ _ _ _
      | exact ih5 _ _ _ _
      | exact ih6 _ _ _ _
      | exact oakumref01_Most.mono _ _
      | exact oakumref01_Power.mono _ _ _
      | exact oakumref01_digits.mono _ _ _ _
      | exact LeO.none _
      | refine LeO.ite ?_ ?_
      | refine LeO.bind ?_ (fun _ => ?_)
    · intro y0 y1 y2 y3
      unfold oakumref01_Put.j4
      repeat' first
      | (with_reducible exact ih0 _ _ _ _)
      | (with_reducible exact ih1 _ _ _ _)
      | (with_reducible exact ih2 _ _ _)
      | (with_reducible exact ih3 _ _ _ _)
      | (with_reducible exact ih4 _ _ _ _)
      | (with_reducible exact ih5 _ _ _ _)
      | (with_reducible exact ih6 _ _ _ _)
      | (with_reducible exact oakumref01_Most.mono _ _)
      | (with_reducible exact oakumref01_Power.mono _ _ _)
      | (with_reducible exact oakumref01_digits.mono _ _ _ _)
      | (with_reducible exact LeO.refl _)
      | (with_reducible exact LeO.none _)
      | (with_reducible refine LeO.ite ?_ ?_)
      | (with_reducible refine LeO.bind ?_ (fun _ => ?_))
      | exact ih0 _ _ _ _
      | exact ih1 _ _ _ _
      | exact ih2 _ _ _
      | exact ih3 _ _ _ _
      | exact ih4 _ _ _ _
      | exact ih5 _ _ _ _
      | exact ih6 _ _ _ _
      | exact oakumref01_Most.mono _ _
      | exact oakumref01_Power.mono _ _ _
      | exact oakumref01_digits.mono _ _ _ _
      | exact LeO.none _
      | refine LeO.ite ?_ ?_
      | refine LeO.bind ?_ (fun _ => ?_)
    · intro y0 y1 y2 y3
      unfold oakumref01_Put.j5
      repeat' first
      | (with_reducible exact ih0 _ _ _ _)
      | (with_reducible exact ih1 _ _ _ _)
      | (with_reducible exact ih2 _ _ _)
      | (with_reducible exact ih3 _ _ _ _)
      | (with_reducible exact ih4 _ _ _ _)
      | (with_reducible exact ih5 _ _ _ _)
      | (with_reducible exact ih6 _ _ _ _)
      | (with_reducible exact oakumref01_Most.mono _ _)
      | (with_reducible exact oakumref01_Power.mono _ _ _)
      | (with_reducible exact oakumref01_digits.mono _ _ _ _)
      | (with_reducible exact LeO.refl _)
      | (with_reducible exact LeO.none _)
      | (with_reducible refine LeO.ite ?_ ?_)
      | (with_reducible refine LeO.bind ?_ (fun _ => ?_))
      | exact ih0 _ _ _ _
      | exact ih1 _ _ _ _
      | exact ih2 _ _ _
      | exact ih3 _ _ _ _
      | exact ih4 _ _ _ _
      | exact ih5 _ _ _ _
      | exact ih6 _ _ _ _
      | exact oakumref01_Most.mono _ _
      | exact oakumref01_Power.mono _ _ _
      | exact oakumref01_digits.mono _ _ _ _
      | exact LeO.none _
      | refine LeO.ite ?_ ?_
      | refine LeO.bind ?_ (fun _ => ?_)
    · intro y0 y1 y2 y3
      unfold oakumref01_Put.l1
      repeat' first
      | (with_reducible exact ih0 _ _ _ _)
      | (with_reducible exact ih1 _ _ _ _)
      | (with_reducible exact ih2 _ _ _)
      | (with_reducible exact ih3 _ _ _ _)
      | (with_reducible exact ih4 _ _ _ _)
      | (with_reducible exact ih5 _ _ _ _)
      | (with_reducible exact ih6 _ _ _ _)
      | (with_reducible exact oakumref01_Most.mono _ _)
      | (with_reducible exact oakumref01_Power.mono _ _ _)
      | (with_reducible exact oakumref01_digits.mono _ _ _ _)
      | (with_reducible exact LeO.refl _)
      | (with_reducible exact LeO.none _)
      | (with_reducible refine LeO.ite ?_ ?_)
      | (with_reducible refine LeO.bind ?_ (fun _ => ?_))
      | exact ih0 _ _ _ _
      | exact ih1 _ _ _ _
      | exact ih2 _ _ _
      | exact ih3 _ _ _ _
      | exact ih4 _ _ _ _
      | exact ih5 _ _ _ _
      | exact ih6 _ _ _ _
      | exact oakumref01_Most.mono _ _
      | exact oakumref01_Power.mono _ _ _
      | exact oakumref01_digits.mono _ _ _ _
      | exact LeO.none _
      | refine LeO.ite ?_ ?_
      | refine LeO.bind ?_ (fun _ => ?_)
theorem oakumref01_Put.mono : ∀ a0 a1 a2 k, LeO (oakumref01_Put.f k a0 a1 a2) (oakumref01_Put.f (k + 1) a0 a1 a2) := by
  intro a0 a1 a2 k
  obtain ⟨ih0, ih1, ih2, ih3, ih4, ih5, ih6⟩ := oakumref01_Put.mono_l k
  unfold oakumref01_Put.f
  repeat' first
      | (with_reducible exact ih0 _ _ _ _)
      | (with_reducible exact ih1 _ _ _ _)
      | (with_reducible exact ih2 _ _ _)
      | (with_reducible exact ih3 _ _ _ _)
      | (with_reducible exact ih4 _ _ _ _)
      | (with_reducible exact ih5 _ _ _ _)
      | (with_reducible exact ih6 _ _ _ _)
      | (with_reducible exact oakumref01_Most.mono _ _)
      | (with_reducible exact oakumref01_Power.mono _ _ _)
      | (with_reducible exact oakumref01_digits.mono _ _ _ _)
      | (with_reducible exact LeO.refl _)
      | (with_reducible exact LeO.none _)
      | (with_reducible refine LeO.ite ?_ ?_)
      | (with_reducible refine LeO.bind ?_ (fun _ => ?_))
      | exact ih0 _ _ _ _
      | exact ih1 _ _ _ _
      | exact ih2 _ _ _
      | exact ih3 _ _ _ _
      | exact ih4 _ _ _ _
      | exact ih5 _ _ _ _
      | exact ih6 _ _ _ _
      | exact oakumref01_Most.mono _ _
      | exact oakumref01_Power.mono _ _ _
      | exact oakumref01_digits.mono _ _ _ _
      | exact LeO.none _
      | refine LeO.ite ?_ ?_
      | refine LeO.bind ?_ (fun _ => ?_)
set_option maxHeartbeats 8000000 in
set_option maxRecDepth 100000 in
theorem oakumref01_Put.calls (k : Nat) (a0 : Int) (a1 : Int) (a2 : Bool) (r1 : List Int) (r2 : Int) (w : World) (h : oakumref01_Put.f k a0 a1 a2 = some (r1, r2)) :
    Calls Tryd.prog 33 #[.int .i64 a0, .int .i64 a1, .bool a2] w fun e w' => ∃ v0_ : Value, e = .returned (.tuple #[v0_, .int .i64 r2]) ∧ Kd.R (Kd.int .u8) 5 w' w.heap.size (fun _ => True) v0_ r1 ∧ Below w.heap.size w w' := by
  have HB := Aside0.mk (Below.refl w.heap.size w)
  have H : (if a1 < 2 then (oakumref01_Put.j0 k a0 a1 a2 true) else (oakumref01_Put.j0 k a0 a1 a2 (decide (a1 > 32)))) = some (r1, r2) := h
  clear h
  have HC4 := Aside0.mk H
  clear H
  go_enter Tryd.func33, Tryd.ntmps33
  go_upto_region 1 with (fail)
  go_cut [19] (fun v19 wc => ∃ (kq : Nat) (x19_3 : Bool), v19 = .bool x19_3 ∧ Aside0 (oakumref01_Put.j0 kq a0 a1 a2 x19_3 = some (r1, r2)) ∧ Aside0 (kq ≤ k) ∧ Aside0 (Below w.heap.size w wc))
  case first =>
    have H := HC4.out
    clear HC4
    by_cases c5 : a1 < 2
    · rw [if_pos c5] at H
      have c5b0 : decide (a1 < 2) = true := decide_eq_true c5
      clear c5
      (first | rw [c5b0] | (simp only [i64_w, i32_w]; rw [c5b0]) | skip)
      have H' := Aside0.mk H
      clear H
      go_wp2
      go_meet
      case rel => exact ⟨_, (true), (by first | rfl | (simp; done) | (simp [*]; done)), H', ⟨by first | omega | exact Nat.le_refl _⟩, ⟨by repeat (first | (with_reducible first | exact HB.out | apply below_alloc | apply pw_below_drewN | apply below_drew1) | exact HB.out)⟩⟩
    · rw [if_neg c5] at H
      have c5b0 : decide (a1 < 2) = false := decide_eq_false c5
      clear c5
      (first | rw [c5b0] | (simp only [i64_w, i32_w]; rw [c5b0]) | skip)
      have H' := Aside0.mk H
      clear H
      go_wp2
      go_meet
      case rel => exact ⟨_, (decide (a1 > 32)), (by first | rfl | (simp; done) | (simp [*]; done)), H', ⟨by first | omega | exact Nat.le_refl _⟩, ⟨by repeat (first | (with_reducible first | exact HB.out | apply below_alloc | apply pw_below_drewN | apply below_drew1) | exact HB.out)⟩⟩
  case rest =>
    clear HC4
    try clear p2
    try clear c3
    try clear c5
    try clear c5b0
    obtain ⟨kq, x19_3, rfl, HA, HJ3, HB⟩ := hcut
    cases kq with
    | zero => exact absurd HA.out (by simp [oakumref01_Put.j0])
    | succ kj3 =>
      have H := HA.out
      clear HA
      simp only [oakumref01_Put.j0] at H
      by_cases c6 : x19_3 = true
      · subst c6
        have H1 : (some (([] : List Int), 2)) = some (r1, r2) := by rw [if_pos rfl] at H; exact H
        clear H
        have H := H1
        clear H1
        simp only [Option.some.injEq, Prod.mk.injEq] at H
        obtain ⟨rfl, rfl⟩ := H
        go_wp2
        go_ret2
        exact ⟨_, by first | rfl | (simp [errW_none, errW_some] <;> rfl) | (simp [*, errW_none, errW_some] <;> rfl), by first | exact Kd.R_nil _ _ _ _ _ | exact Kd.N_nil _ _ _ _ _ | exact Kd.V_nil _ _ _ _ _ | exact Kd.Q_nil _ _ _ _ _ | exact Kd.S_nil _ _ _ _ _, by repeat (first | (with_reducible first | exact HB.out | apply below_alloc | apply pw_below_drewN | apply below_drew1) | exact HB.out)⟩
      · replace c6 := Bool.eq_false_iff.mpr c6
        subst c6
        have H1 : (if a0 ≥ 0 then ((oakumref01_Most.f kj3 a1).bind fun t163 => (oakumref01_Put.j1 kj3 a0 a1 a2 (decide (a0 ≤ t163)))) else (oakumref01_Put.j1 kj3 a0 a1 a2 false)) = some (r1, r2) := by rw [if_neg (show ¬ (false = true) by decide)] at H; exact H
        clear H
        have H := H1
        clear H1
        have HC7 := Aside0.mk H
        clear H
        go_upto_region 3 with (fail)
        go_cut [27] (fun v27 wc => ∃ (kq : Nat) (x27_6 : Bool), v27 = .bool x27_6 ∧ Aside0 (oakumref01_Put.j1 kq a0 a1 a2 x27_6 = some (r1, r2)) ∧ Aside0 (kq ≤ kj3) ∧ Aside0 (Below w.heap.size w wc))
        case first =>
          have H := HC7.out
          clear HC7
          by_cases c8 : a0 ≥ 0
          · rw [if_pos c8] at H
            have c8b0 : decide (0 ≤ a0) = true := decide_eq_true c8
            clear c8
            (first | rw [c8b0] | (simp only [i64_w, i32_w]; rw [c8b0]) | skip)
            replace H := Option.bind_eq_some_iff.mp H
            obtain ⟨t163, A90, H⟩ := H
            replace H : (oakumref01_Put.j1 kj3 a0 a1 a2 (decide (a0 ≤ t163))) = some (r1, r2) := H
            have A9 := Aside0.mk A90
            clear A90
            have H' := Aside0.mk H
            clear H
            go_wp2_with (first | (go_at_call 42; (with_reducible refine (oakumref01_Most.calls kj3 a1 t163 _ A9.out).mono ?_); rintro e w' ⟨rfl, ⟨nd, rfl⟩⟩))
            go_meet
            case rel => exact ⟨_, (decide (a0 ≤ t163)), (by first | rfl | (simp; done) | (simp [*]; done)), H', ⟨by have := HJ3.out; first | omega | exact Nat.le_refl _⟩, ⟨by repeat (first | (with_reducible first | exact HB.out | apply below_alloc | apply pw_below_drewN | apply below_drew1) | exact HB.out)⟩⟩
          · rw [if_neg c8] at H
            have c8b0 : decide (0 ≤ a0) = false := decide_eq_false c8
            clear c8
            (first | rw [c8b0] | (simp only [i64_w, i32_w]; rw [c8b0]) | skip)
            have H' := Aside0.mk H
            clear H
            go_wp2
            go_meet
            case rel => exact ⟨_, (false), (by first | rfl | (simp; done) | (simp [*]; done)), H', ⟨by have := HJ3.out; first | omega | exact Nat.le_refl _⟩, ⟨by repeat (first | (with_reducible first | exact HB.out | apply below_alloc | apply pw_below_drewN | apply below_drew1) | exact HB.out)⟩⟩
        case rest =>
          clear HC7
          try clear p2
          try clear c3
          try clear c5
          try clear c5b0
          try clear c6
          try clear c8
          try clear c8b0
          try clear p2
          obtain ⟨kq, x27_6, rfl, HA, HJ6, HB⟩ := hcut
          cases kq with
          | zero => exact absurd HA.out (by simp [oakumref01_Put.j1])
          | succ kj6 =>
            have H := HA.out
            clear HA
            simp only [oakumref01_Put.j1] at H
            by_cases c10 : x27_6 = true
            · subst c10
              have H1 : ((oakumref01_Most.f kj6 (wrap64 (a1 - 1))).bind fun t164 => (if a0 ≤ t164 then (oakumref01_Put.j2 kj6 a0 a1 (wrap64 (a1 - 1))) else (oakumref01_Put.j2 kj6 a0 a1 a1))) = some (r1, r2) := by rw [if_pos rfl] at H; exact H
              clear H
              have H := H1
              clear H1
              replace H := Option.bind_eq_some_iff.mp H
              obtain ⟨t164, A110, H⟩ := H
              replace H : (if a0 ≤ t164 then (oakumref01_Put.j2 kj6 a0 a1 (wrap64 (a1 - 1))) else (oakumref01_Put.j2 kj6 a0 a1 a1)) = some (r1, r2) := H
              have A11 := Aside0.mk A110
              clear A110
              have HC12 := Aside0.mk H
              clear H
              go_upto_if 33 with (first | ((with_reducible refine gate_callee (f := 42) rfl ?_); refine goesL_ (some 32) rfl rfl Tryd.func42 (by kernel_rfl) rfl #[.int .i64 (wrap64 (a1 - 1))] rfl (by (try simp only [List.map_toArray, List.map_cons, List.map_nil]); first | done | rfl | (simp only [List.length_drop, List.length_take]; rfl)) ?_; (with_reducible refine (oakumref01_Most.calls kj6 (wrap64 (a1 - 1)) t164 _ A11.out).mono ?_); rintro e w' ⟨rfl, ⟨nd, rfl⟩⟩; refine ⟨_, rfl, ?_⟩))
              (try simp only [Act.put, List.setIfInBounds_toArray, List.set_cons_zero, List.set_cons_succ])
              go_cut [8] (fun v8 wc => ∃ (kq : Nat) (x8_11 : Int), v8 = .int .i64 x8_11 ∧ Aside0 (oakumref01_Put.j2 kq a0 a1 x8_11 = some (r1, r2)) ∧ Aside0 (kq ≤ kj6) ∧ Aside0 (Below w.heap.size w wc))
              case first =>
                have H := HC12.out
                clear HC12
                by_cases c13 : a0 ≤ t164
                · rw [if_pos c13] at H
                  have c13b0 : decide (a0 ≤ t164) = true := decide_eq_true c13
                  clear c13
                  (first | rw [c13b0] | (simp only [i64_w, i32_w]; rw [c13b0]) | skip)
                  have H' := Aside0.mk H
                  clear H
                  go_wp2
                  go_meet
                  case rel => exact ⟨_, (wrap64 (a1 - 1)), (by first | rfl | (simp; done) | (simp [*]; done)), H', ⟨by have := HJ3.out; have := HJ6.out; first | omega | exact Nat.le_refl _⟩, ⟨by repeat (first | (with_reducible first | exact HB.out | apply below_alloc | apply pw_below_drewN | apply below_drew1) | exact HB.out)⟩⟩
                · rw [if_neg c13] at H
                  have c13b0 : decide (a0 ≤ t164) = false := decide_eq_false c13
                  clear c13
                  (first | rw [c13b0] | (simp only [i64_w, i32_w]; rw [c13b0]) | skip)
                  have H' := Aside0.mk H
                  clear H
                  go_wp2
                  go_meet
                  case rel => exact ⟨_, (a1), (by first | rfl | (simp; done) | (simp [*]; done)), H', ⟨by have := HJ3.out; have := HJ6.out; first | omega | exact Nat.le_refl _⟩, ⟨by repeat (first | (with_reducible first | exact HB.out | apply below_alloc | apply pw_below_drewN | apply below_drew1) | exact HB.out)⟩⟩
              case rest =>
                clear HC12
                try clear c1
                try clear p2
                try clear c3
                try clear c4
                try clear c5
                try clear c5b0
                try clear c6
                try clear p6
                try clear c8
                try clear c8b0
                try clear c10
                try clear c13
                try clear c13b0
                try clear p2
                obtain ⟨kq, x8_11, rfl, HA, HJ11, HB⟩ := hcut
                cases kq with
                | zero => exact absurd HA.out (by simp [oakumref01_Put.j2])
                | succ kj11 =>
                  have H := HA.out
                  clear HA
                  simp only [oakumref01_Put.j2] at H
                  replace H := Option.bind_eq_some_iff.mp H
                  obtain ⟨t165, A140, H⟩ := H
                  replace H : (oakumref01_Put.l0 kj11 a1 x8_11 t165 0) = some (r1, r2) := H
                  have A14 := Aside0.mk A140
                  clear A140
                  have H' := Aside0.mk H
                  clear H
                  go_wp2_with (first | ((with_reducible refine gate_callee (f := 43) rfl ?_); refine goesL_ (some 38) rfl rfl Tryd.func43 (by kernel_rfl) rfl #[.int .i64 a0, .int .i64 8, .int .i64 x8_11] rfl (by (try simp only [List.map_toArray, List.map_cons, List.map_nil]); first | done | rfl | (simp only [List.length_drop, List.length_take]; rfl)) ?_; (with_reducible refine (oakumref01_digits.calls kj11 a0 8 x8_11 t165 _ A14.out).mono ?_); rintro e w15 ⟨v166, rfl, ho0, hb⟩; refine ⟨_, rfl, ?_⟩; have n0_ := Aside0.mk (Kd.R_lower ho0 (below_size (by repeat (first | (with_reducible first | exact HB.out | apply below_alloc | apply pw_below_drewN | apply below_drew1) | exact HB.out)))); have n1_ := Aside0.mk (below_step (by repeat (first | (with_reducible first | exact HB.out | apply below_alloc | apply pw_below_drewN | apply below_drew1) | exact HB.out)) hb); clear HB; have HO167 := n0_; have HB := n1_; clear n0_ n1_; (try clear hb); (try clear hb2); (try clear hk); (try clear hi); (try clear ho0)))
                  go_loopg [10] kj11 (fun kq v10 w' => ∃ (x9_4 : List Int) (x10_4 : Int), v10 = .int .i64 x10_4 ∧ Aside0 (oakumref01_Put.l0 kq a1 x8_11 x9_4 x10_4 = some (r1, r2)) ∧ Aside0 (kq ≤ kj11) ∧ Aside0 (Kd.R (Kd.int .u8) 5 w' w.heap.size (fun _ => True) v166 x9_4) ∧ Aside0 (Below w.heap.size w w'))
                  case atStart => exact ⟨(t165), (0), (by first | rfl | (simp; done) | (simp [*]; done)), H', ⟨Nat.le_refl _⟩, ⟨by (with_reducible repeat (first | apply Kd.R_alloc | apply Kd.R_drewN | apply Kd.R_drew)); exact HO167.out⟩, ⟨by repeat (first | (with_reducible first | exact HB.out | apply below_alloc | apply pw_below_drewN | apply below_drew1) | exact HB.out)⟩⟩
                  case round =>
                    clear H'
                    try clear c1
                    try clear p2
                    try clear c3
                    try clear c4
                    try clear c5
                    try clear c5b0
                    try clear c6
                    try clear p6
                    try clear c8
                    try clear c8b0
                    try clear c10
                    try clear c13
                    try clear c13b0
                    try clear p2
                    try clear p6
                    obtain ⟨x9_4, x10_4, rfl, HA, HK4, HO_9, HB⟩ := hrel
                    cases gk with
                    | zero => exact absurd HA.out (by simp [oakumref01_Put.l0])
                    | succ k4 =>
                      have H := HA.out
                      clear HA
                      simp only [oakumref01_Put.l0] at H
                      by_cases c16 : x10_4 < x8_11
                      · rw [if_pos c16] at H
                        have c16b0 : decide (x10_4 < x8_11) = true := decide_eq_true c16
                        clear c16
                        by_cases c17 : 0 ≤ x10_4
                        · rw [if_pos c17] at H
                          have c17b0 : decide (0 ≤ x10_4) = true := decide_eq_true c17
                          clear c17
                          by_cases c18 : x10_4 < (x9_4.length : Int)
                          · rw [if_pos c18] at H
                            have c18b0 : decide (x10_4 < (x9_4.length : Int)) = true := decide_eq_true c18
                            clear c18
                            obtain ⟨y169, hy169⟩ : ∃ y_ : List Int, y_ = (x9_4.set (x10_4 : Int).toNat (((rd x9_4 x10_4) + 48) % 256)) := ⟨_, rfl⟩
                            replace H : (oakumref01_Put.l0 k4 a1 x8_11 y169 (wrap64 (x10_4 + 1))) = some (r1, r2) := by first | (rw [hy169]; with_reducible exact H) | (have H2_ := (Option.bind_some _ _).symm.trans H; rw [hy169]; with_reducible exact H2_) | (have H2_ := (Option.bind_some _ _).symm.trans H; with_reducible exact H2_) | with_reducible exact H | (rw [hy169]; exact H) | exact H
                            have Ny169 := Aside0.mk hy169
                            clear hy169
                            have H' := Aside0.mk H
                            clear H
                            obtain ⟨Ao20, co20, eo20⟩ := Kd.R_slice HO_9.out
                            subst eo20
                            have p168 : 0 ≤ (x10_4 : Int) := of_decide_eq_true (by first | (with_reducible assumption) | assumption)
                            have q168 : x10_4 < (x9_4.length : Int) := of_decide_eq_true (by first | (with_reducible assumption) | assumption)
                            obtain ⟨ad168, e168, hx168_0⟩ := Kd.at_int (Kd.R_reads' HO_9.out).2.2 x10_4 p168 q168
                            cases e168
                            replace p168 := eq_true p168
                            replace q168 := eq_true q168
                            have p19 : 0 ≤ (x10_4 : Int) := of_decide_eq_true (by first | (with_reducible assumption) | assumption)
                            have q19 : (x10_4 : Int) < ((x9_4.length : Int) : Int) := of_decide_eq_true (by first | (with_reducible assumption) | assumption)
                            obtain ⟨go19, co19, eo19, gb19, gl19, cl19, HG19⟩ := Kd.R_form HO_9.out (by omega)
                            (first | cases eo19 | (injection eo19 with ea_ en_ ec_; (first | subst ea_ | (injection ea_ with ea_; subst ea_)); subst ec_; clear en_))
                            have GB19 := Aside0.mk gb19
                            have GG19 := Aside0.mk HG19
                            clear gb19 gl19 HG19
                            (first | simp only [add_plain] at hx168_0 | skip)
                            obtain ⟨hx19_0, hf19_0⟩ := Kd.R_celln 0 HO_9.out (x10_4 : Int) p19 q19
                            replace p19 := eq_true p19
                            replace q19 := eq_true q19
                            have HP21 := Kd.R_putg HO_9.out (x10_4 : Int) (((rd x9_4 x10_4) + 48) % 256)
                            go_wp2_with (first | ((with_reducible refine gate_store (t := 5) (p := 51) rfl ?_); refine store_event (t := 5) (p := 51) (v := ?vo_w22) (w1 := (wr.setCell ⟨go19, (x10_4 : Int).toNat, none⟩ (.int .u8 (((rd x9_4 x10_4) + 48) % 256)))) ?hg ?ho ?hn ?hr ?_; (case ho => rfl); (case hg => rfl); (case hn => rfl); (case hr => first | (go_simp; done) | (go_simp; rfl)); intro w22 hw; have hg : wr.grownBy w22 (some go19) := (by rw [hw]; exact HP21.2); have hp_ : Kd.R (Kd.int .u8) 5 w22 w.heap.size (fun _ => True) (.slice (some ⟨go19, 0, none⟩) x9_4.length co20) y169 := (by rw [hw, Ny169.out]; exact HP21.1); clear HP21; have n0_ := Aside0.mk (hp_); have n1_ := Aside0.mk ((by rw [hw]; exact below_set (HB.out) GB19.out : Below w.heap.size w w22)); clear HO_9; clear HB; have HO_9 := n0_; have HB := n1_; clear n0_ n1_; clear hg hw hp_))
                            go_roundg k4
                            case measure => have := HJ3.out; have := HJ6.out; have := HJ11.out; have := HK4.out; omega
                            case rel => exact ⟨(y169), (wrap64 (x10_4 + 1)), (by first | rfl | (simp; done) | (simp [*]; done)), H', ⟨by have := HJ3.out; have := HJ6.out; have := HJ11.out; have := HK4.out; omega⟩, ⟨by (with_reducible repeat (first | apply Kd.R_alloc | apply Kd.R_drewN | apply Kd.R_drew)); exact HO_9.out⟩, ⟨by repeat (first | (with_reducible first | exact HB.out | apply below_alloc | apply pw_below_drewN | apply below_drew1) | exact HB.out)⟩⟩
                          · rw [if_neg c18] at H
                            exact absurd H (by simp)
                        · rw [if_neg c17] at H
                          exact absurd H (by simp)
                      · rw [if_neg c16] at H
                        have c16b0 : decide (x10_4 < x8_11) = false := decide_eq_false c16
                        clear c16
                        by_cases c23 : x8_11 < a1
                        · rw [if_pos c23] at H
                          have c23b0 : decide (x8_11 < a1) = true := decide_eq_true c23
                          clear c23
                          by_cases c24 : x9_4.length < 140737488355328
                          · rw [if_pos c24] at H
                            have LMc24 := Aside0.mk c24
                            clear c24
                            obtain ⟨y170, hy170⟩ : ∃ y_ : List Int, y_ = (x9_4 ++ [0]) := ⟨_, rfl⟩
                            replace H : (some (y170, 0)) = some (r1, r2) := by first | (rw [hy170]; with_reducible exact H) | (have H2_ := (Option.bind_some _ _).symm.trans H; rw [hy170]; with_reducible exact H2_) | (have H2_ := (Option.bind_some _ _).symm.trans H; with_reducible exact H2_) | with_reducible exact H | (rw [hy170]; exact H) | exact H
                            have Ny170 := Aside0.mk hy170
                            clear hy170
                            simp only [Option.some.injEq, Prod.mk.injEq] at H
                            obtain ⟨rfl, rfl⟩ := H
                            go_wp2_with (first | ((with_reducible refine gate_builtin (b := .append) (xs := #[.tmp 55, .tmp 56]) rfl ?_); at_builtin; refine Kd.R_append (Kd.int .u8) (w0 := w) w.heap.size rfl (.tmp 55) (.tmp 56) 22 5 (.int .u8 0) 1 rfl Tryd.underlying22 info5 rfl (by decide) (by omega) v166 x9_4 0 [.int .u8 0] (fun _ => True) (fun _ => False) rfl rfl ?aP (fun _ hk => hk.elim) ?aF ?aO ?aB ?aS ?aL ?_; (case aP => exact rfl); (case aB => exact (by repeat (first | (with_reducible first | exact HB.out | apply below_alloc | apply pw_below_drewN | apply below_drew1) | exact HB.out))); (case aF => exact (fun _ _ => trivial)); (case aO => exact (by (with_reducible repeat (first | apply Kd.R_alloc | apply Kd.R_drewN | apply Kd.R_drew)); exact HO_9.out)); (case aS => exact (below_size (by repeat (first | (with_reducible first | exact HB.out | apply below_alloc | apply pw_below_drewN | apply below_drew1) | exact HB.out)))); (case aL => have := LMc24.out; omega); intro v171 w25 ho hb hg hat; rw [← Ny170.out] at ho; have n0_ := Aside0.mk (hb); have n1_ := Aside0.mk (ho); clear HB; clear HO_9; have HB := n0_; have HO172 := n1_; clear n0_ n1_; clear ho hb hg hat))
                            go_ret2
                            exact ⟨_, by first | rfl | (simp [errW_none, errW_some] <;> rfl) | (simp [*, errW_none, errW_some] <;> rfl), by (with_reducible repeat (first | apply Kd.R_alloc | apply Kd.R_drewN | apply Kd.R_drew)); exact HO172.out, by repeat (first | (with_reducible first | exact HB.out | apply below_alloc | apply pw_below_drewN | apply below_drew1) | exact HB.out)⟩
                          · rw [if_neg c24] at H
                            exact absurd H (by simp)
                        · rw [if_neg c23] at H
                          have c23b0 : decide (x8_11 < a1) = false := decide_eq_false c23
                          clear c23
                          simp only [Option.some.injEq, Prod.mk.injEq] at H
                          obtain ⟨rfl, rfl⟩ := H
                          go_wp2
                          go_ret2
                          exact ⟨_, by first | rfl | (simp [errW_none, errW_some] <;> rfl) | (simp [*, errW_none, errW_some] <;> rfl), by (with_reducible repeat (first | apply Kd.R_alloc | apply Kd.R_drewN | apply Kd.R_drew)); exact HO_9.out, by repeat (first | (with_reducible first | exact HB.out | apply below_alloc | apply pw_below_drewN | apply below_drew1) | exact HB.out)⟩
            · replace c10 := Bool.eq_false_iff.mpr c10
              subst c10
              have H1 : (if a0 < 0 then (oakumref01_Put.j4 kj6 a0 a1 a2 (wrap64 (-(wrap64 (a0 + 1))))) else (oakumref01_Put.j4 kj6 a0 a1 a2 a0)) = some (r1, r2) := by rw [if_neg (show ¬ (false = true) by decide)] at H; exact H
              clear H
              have H := H1
              clear H1
              have HC26 := Aside0.mk H
              clear H
              go_upto_if 61 with (fail)
              go_cut [11] (fun v11 wc => ∃ (kq : Nat) (x11_25 : Int), v11 = .int .i64 x11_25 ∧ Aside0 (oakumref01_Put.j4 kq a0 a1 a2 x11_25 = some (r1, r2)) ∧ Aside0 (kq ≤ kj6) ∧ Aside0 (Below w.heap.size w wc))
              case first =>
                have H := HC26.out
                clear HC26
                by_cases c27 : a0 < 0
                · rw [if_pos c27] at H
                  have c27b0 : decide (a0 < 0) = true := decide_eq_true c27
                  clear c27
                  (first | rw [c27b0] | (simp only [i64_w, i32_w]; rw [c27b0]) | skip)
                  have H' := Aside0.mk H
                  clear H
                  go_wp2
                  go_meet
                  case rel => exact ⟨_, (wrap64 (-(wrap64 (a0 + 1)))), (by first | rfl | (simp; done) | (simp [*]; done)), H', ⟨by have := HJ3.out; have := HJ6.out; first | omega | exact Nat.le_refl _⟩, ⟨by repeat (first | (with_reducible first | exact HB.out | apply below_alloc | apply pw_below_drewN | apply below_drew1) | exact HB.out)⟩⟩
                · rw [if_neg c27] at H
                  have c27b0 : decide (a0 < 0) = false := decide_eq_false c27
                  clear c27
                  (first | rw [c27b0] | (simp only [i64_w, i32_w]; rw [c27b0]) | skip)
                  have H' := Aside0.mk H
                  clear H
                  go_wp2
                  go_meet
                  case rel => exact ⟨_, (a0), (by first | rfl | (simp; done) | (simp [*]; done)), H', ⟨by have := HJ3.out; have := HJ6.out; first | omega | exact Nat.le_refl _⟩, ⟨by repeat (first | (with_reducible first | exact HB.out | apply below_alloc | apply pw_below_drewN | apply below_drew1) | exact HB.out)⟩⟩
              case rest =>
                clear HC26
                try clear c1
                try clear p1
                try clear q1
                try clear hx1
                try clear c2
                try clear p2
                try clear c3
                try clear c4
                try clear c5
                try clear c5b0
                try clear c6
                try clear p6
                try clear c8
                try clear c8b0
                try clear c10
                try clear c13
                try clear c13b0
                try clear c16
                try clear c16b0
                try clear p16
                try clear q16
                try clear hx16
                try clear c17
                try clear c17b0
                try clear c18
                try clear c18b0
                try clear p19
                try clear q19
                try clear hx19
                try clear hf19
                try clear c23
                try clear c23b0
                try clear c24
                try clear c27
                try clear c27b0
                try clear hx168_0
                try clear hx19_0
                try clear p168
                try clear p19
                try clear p2
                try clear p6
                try clear q168
                try clear q19
                obtain ⟨kq, x11_25, rfl, HA, HJ25, HB⟩ := hcut
                cases kq with
                | zero => exact absurd HA.out (by simp [oakumref01_Put.j4])
                | succ kj25 =>
                  have H := HA.out
                  clear HA
                  simp only [oakumref01_Put.j4] at H
                  have HC28 := Aside0.mk H
                  clear H
                  go_upto_region 18 with (fail)
                  go_cut [77] (fun v77 wc => ∃ (kq : Nat) (x77_27 : Bool), v77 = .bool x77_27 ∧ Aside0 (oakumref01_Put.j5 kq a0 a1 x11_25 x77_27 = some (r1, r2)) ∧ Aside0 (kq ≤ kj25) ∧ Aside0 (Below w.heap.size w wc))
                  case first =>
                    have H := HC28.out
                    clear HC28
                    by_cases c29 : a2 = true
                    · subst c29
                      have H1 : (if a1 < 9 then ((oakumref01_Power.f kj25 256 (wrap64 (a1 - 1))).bind fun t173 => (oakumref01_Put.j5 kj25 a0 a1 x11_25 (decide (x11_25 ≥ t173)))) else (oakumref01_Put.j5 kj25 a0 a1 x11_25 false)) = some (r1, r2) := by rw [if_pos rfl] at H; exact H
                      clear H
                      have H := H1
                      clear H1
                      by_cases c30 : a1 < 9
                      · rw [if_pos c30] at H
                        have c30b0 : decide (a1 < 9) = true := decide_eq_true c30
                        clear c30
                        (first | rw [c30b0] | (simp only [i64_w, i32_w]; rw [c30b0]) | skip)
                        replace H := Option.bind_eq_some_iff.mp H
                        obtain ⟨t173, A310, H⟩ := H
                        replace H : (oakumref01_Put.j5 kj25 a0 a1 x11_25 (decide (x11_25 ≥ t173))) = some (r1, r2) := H
                        have A31 := Aside0.mk A310
                        clear A310
                        have H' := Aside0.mk H
                        clear H
                        go_wp2_with (first | (go_at_call 44; (with_reducible refine (oakumref01_Power.calls kj25 256 (wrap64 (a1 - 1)) t173 _ A31.out).mono ?_); rintro e w' ⟨rfl, ⟨nd, rfl⟩⟩))
                        go_meet
                        case rel => exact ⟨_, (decide (x11_25 ≥ t173)), (by first | rfl | (simp; done) | (simp [*]; done)), H', ⟨by have := HJ3.out; have := HJ6.out; have := HJ25.out; first | omega | exact Nat.le_refl _⟩, ⟨by repeat (first | (with_reducible first | exact HB.out | apply below_alloc | apply pw_below_drewN | apply below_drew1) | exact HB.out)⟩⟩
                      · rw [if_neg c30] at H
                        have c30b0 : decide (a1 < 9) = false := decide_eq_false c30
                        clear c30
                        (first | rw [c30b0] | (simp only [i64_w, i32_w]; rw [c30b0]) | skip)
                        have H' := Aside0.mk H
                        clear H
                        go_wp2
                        go_meet
                        case rel => exact ⟨_, (false), (by first | rfl | (simp; done) | (simp [*]; done)), H', ⟨by have := HJ3.out; have := HJ6.out; have := HJ25.out; first | omega | exact Nat.le_refl _⟩, ⟨by repeat (first | (with_reducible first | exact HB.out | apply below_alloc | apply pw_below_drewN | apply below_drew1) | exact HB.out)⟩⟩
                    · replace c29 := Bool.eq_false_iff.mpr c29
                      subst c29
                      have H1 : (oakumref01_Put.j5 kj25 a0 a1 x11_25 true) = some (r1, r2) := by rw [if_neg (show ¬ (false = true) by decide)] at H; exact H
                      clear H
                      have H := H1
                      clear H1
                      have H' := Aside0.mk H
                      clear H
                      go_wp2
                      go_meet
                      case rel => exact ⟨_, (true), (by first | rfl | (simp; done) | (simp [*]; done)), H', ⟨by have := HJ3.out; have := HJ6.out; have := HJ25.out; first | omega | exact Nat.le_refl _⟩, ⟨by repeat (first | (with_reducible first | exact HB.out | apply below_alloc | apply pw_below_drewN | apply below_drew1) | exact HB.out)⟩⟩
                  case rest =>
                    clear HC28
                    try clear c1
                    try clear p1
                    try clear q1
                    try clear hx1
                    try clear c2
                    try clear p2
                    try clear c3
                    try clear c4
                    try clear c5
                    try clear c5b0
                    try clear c6
                    try clear p6
                    try clear c8
                    try clear c8b0
                    try clear c10
                    try clear c13
                    try clear c13b0
                    try clear c16
                    try clear c16b0
                    try clear p16
                    try clear q16
                    try clear hx16
                    try clear c17
                    try clear c17b0
                    try clear c18
                    try clear c18b0
                    try clear p19
                    try clear q19
                    try clear hx19
                    try clear hf19
                    try clear c23
                    try clear c23b0
                    try clear c24
                    try clear c27
                    try clear c27b0
                    try clear c29
                    try clear c30
                    try clear c30b0
                    try clear hx168_0
                    try clear hx19_0
                    try clear p1
                    try clear p16
                    try clear p168
                    try clear p19
                    try clear p2
                    try clear p6
                    try clear q1
                    try clear q16
                    try clear q168
                    try clear q19
                    obtain ⟨kq, x77_27, rfl, HA, HJ27, HB⟩ := hcut
                    cases kq with
                    | zero => exact absurd HA.out (by simp [oakumref01_Put.j5])
                    | succ kj27 =>
                      have H := HA.out
                      clear HA
                      simp only [oakumref01_Put.j5] at H
                      by_cases c32 : x77_27 = true
                      · subst c32
                        have H1 : (some (([] : List Int), 5)) = some (r1, r2) := by rw [if_pos rfl] at H; exact H
                        clear H
                        have H := H1
                        clear H1
                        simp only [Option.some.injEq, Prod.mk.injEq] at H
                        obtain ⟨rfl, rfl⟩ := H
                        go_wp2
                        go_ret2
                        exact ⟨_, by first | rfl | (simp [errW_none, errW_some] <;> rfl) | (simp [*, errW_none, errW_some] <;> rfl), by first | exact Kd.R_nil _ _ _ _ _ | exact Kd.N_nil _ _ _ _ _ | exact Kd.V_nil _ _ _ _ _ | exact Kd.Q_nil _ _ _ _ _ | exact Kd.S_nil _ _ _ _ _, by repeat (first | (with_reducible first | exact HB.out | apply below_alloc | apply pw_below_drewN | apply below_drew1) | exact HB.out)⟩
                      · replace c32 := Bool.eq_false_iff.mpr c32
                        subst c32
                        have H1 : ((some (([128] : List Int) : List Int)).bind fun y174 => ((oakumref01_digits.f kj27 x11_25 256 (wrap64 (a1 - 1))).bind fun t177 => (if y174.length + t177.length < 140737488355328 then (oakumref01_Put.l1 kj27 a0 a1 (y174 ++ t177) 0) else (none)))) = some (r1, r2) := by rw [if_neg (show ¬ (false = true) by decide)] at H; exact H
                        clear H
                        have H := H1
                        clear H1
                        obtain ⟨y174, hy174⟩ : ∃ y_ : List Int, y_ = (([128] : List Int)) := ⟨_, rfl⟩
                        replace H : ((oakumref01_digits.f kj27 x11_25 256 (wrap64 (a1 - 1))).bind fun t177 => (if y174.length + t177.length < 140737488355328 then (oakumref01_Put.l1 kj27 a0 a1 (y174 ++ t177) 0) else (none))) = some (r1, r2) := by first | (rw [hy174]; with_reducible exact H) | (have H2_ := (Option.bind_some _ _).symm.trans H; rw [hy174]; with_reducible exact H2_) | (have H2_ := (Option.bind_some _ _).symm.trans H; with_reducible exact H2_) | with_reducible exact H | (rw [hy174]; exact H) | exact H
                        have Ny174 := Aside0.mk hy174
                        clear hy174
                        replace H := Option.bind_eq_some_iff.mp H
                        obtain ⟨t177, A330, H⟩ := H
                        replace H : (if y174.length + t177.length < 140737488355328 then (oakumref01_Put.l1 kj27 a0 a1 (y174 ++ t177) 0) else (none)) = some (r1, r2) := H
                        have A33 := Aside0.mk A330
                        clear A330
                        by_cases c34 : y174.length + t177.length < 140737488355328
                        · rw [if_pos c34] at H
                          have LMc34 := Aside0.mk c34
                          clear c34
                          obtain ⟨y180, hy180⟩ : ∃ y_ : List Int, y_ = (y174 ++ t177) := ⟨_, rfl⟩
                          replace H : (oakumref01_Put.l1 kj27 a0 a1 y180 0) = some (r1, r2) := by first | (rw [hy180]; with_reducible exact H) | (have H2_ := (Option.bind_some _ _).symm.trans H; rw [hy180]; with_reducible exact H2_) | (have H2_ := (Option.bind_some _ _).symm.trans H; with_reducible exact H2_) | with_reducible exact H | (rw [hy180]; exact H) | exact H
                          have Ny180 := Aside0.mk hy180
                          clear hy180
                          have H' := Aside0.mk H
                          clear H
                          go_wp2_with (first | ((with_reducible refine gate_dst (N := 78) rfl ?_); refine Kd.R_lit (Kd.int .u8) _ 5 ?hg (N := 78) ?hd (xs := ([128] : List Int)) (inner := [.int .u8 128]) (ok := fun _ => True) (okp := fun _ => True) ?hr ?hp (fun _ hk => hk) trivial (Below.refl _ _) (Nat.le_refl _) (by simp) ?_; (case hd => rfl); (case hg => rfl); (case hr => first | (go_simp; done) | (go_simp; rfl)); (case hp => exact (Reps.one (show Kd.M (Kd.int .u8) _ _ _ 128 [.int .u8 128] from rfl) (Reps.none _ _))); intro v175 w35 ho36 hb hg_ hnew_; clear hg_ hnew_; (first | rw [← Ny174.out] at ho36 | (simp only [Int.reduceToNat] at ho36; rw [← Ny174.out] at ho36)); have n0_ := Aside0.mk (Kd.R_lower ho36 (below_size (by repeat (first | (with_reducible first | exact HB.out | apply below_alloc | apply pw_below_drewN | apply below_drew1) | exact HB.out)))); have n1_ := Aside0.mk (below_step (by repeat (first | (with_reducible first | exact HB.out | apply below_alloc | apply pw_below_drewN | apply below_drew1) | exact HB.out)) hb); clear HB; have HO176 := n0_; have HB := n1_; clear n0_ n1_; clear hb ho36) | ((with_reducible refine gate_callee (f := 43) rfl ?_); refine goesL_ (some 82) rfl rfl Tryd.func43 (by kernel_rfl) rfl #[.int .i64 x11_25, .int .i64 256, .int .i64 (wrap64 (a1 - 1))] rfl (by (try simp only [List.map_toArray, List.map_cons, List.map_nil]); first | done | rfl | (simp only [List.length_drop, List.length_take]; rfl)) ?_; (with_reducible refine (oakumref01_digits.calls kj27 x11_25 256 (wrap64 (a1 - 1)) t177 _ A33.out).mono ?_); rintro e w37 ⟨v178, rfl, ho0, hb⟩; refine ⟨_, rfl, ?_⟩; have n0_ := Aside0.mk (Kd.R_elder' (by (with_reducible repeat (first | apply Kd.R_alloc | apply Kd.R_drewN | apply Kd.R_drew)); exact HO176.out) (Kd.R_base ho0) hb); have n1_ := Aside0.mk (Kd.R_lower (Kd.R_new' ho0 (Kd.R_lt (by (with_reducible repeat (first | apply Kd.R_alloc | apply Kd.R_drewN | apply Kd.R_drew)); exact HO176.out))) (below_size (by repeat (first | (with_reducible first | exact HB.out | apply below_alloc | apply pw_below_drewN | apply below_drew1) | exact HB.out)))); have n2_ := Aside0.mk (below_step (by repeat (first | (with_reducible first | exact HB.out | apply below_alloc | apply pw_below_drewN | apply below_drew1) | exact HB.out)) hb); clear HO176; clear HB; have HO176 := n0_; have HO179 := n1_; have HB := n2_; clear n0_ n1_ n2_; (try clear hb); (try clear hb2); (try clear hk); (try clear hi); (try clear ho0); obtain ⟨Ao39, co39, eo39⟩ := Kd.R_slice HO179.out; subst eo39) | ((with_reducible refine gate_builtin (b := .append) (xs := #[.tmp 78, .tmp 82]) rfl ?_); at_builtin; refine Kd.R_append_rows (Kd.int .u8) (w0 := w) w.heap.size rfl (.tmp 78) (.tmp 82) 22 5 (.int .u8 0) 1 rfl Tryd.underlying22 info5 rfl (by decide) (by omega) v175 y174 t177 _ _ _ (fun k_ => some k_ ≠ (.slice Ao39 t177.length co39 : Value).ownBlock) (fun _ => False) rfl rfl ?aO ?aR (fun _ _ h => h) (fun _ h => h.elim) ?aF ?aB ?aS ?aL ?_; (case aR => repeat (first | exact (Kd.R_reads' HO179.out).2.2 | (with_reducible refine Kd.C_alloc ?_ _) | (with_reducible refine Kd.C_drewN ?_ _) | (with_reducible refine Kd.C_drew ?_))); (case aB => exact (by repeat (first | (with_reducible first | exact HB.out | apply below_alloc | apply pw_below_drewN | apply below_drew1) | exact HB.out))); (case aF => exact (fun k_ hk => Kd.fresh' (Kd.R_lt (by (with_reducible repeat (first | apply Kd.R_alloc | apply Kd.R_drewN | apply Kd.R_drew)); exact HO179.out)) k_ hk)); (case aO => exact (by (with_reducible repeat (first | apply Kd.R_alloc | apply Kd.R_drewN | apply Kd.R_drew)); exact Kd.R_mono HO176.out (fun _ hk => hk.2))); (case aS => exact (below_size (by repeat (first | (with_reducible first | exact HB.out | apply below_alloc | apply pw_below_drewN | apply below_drew1) | exact HB.out)))); (case aL => have := LMc34.out; omega); intro v181 w38 ho hb hg hat; rw [← Ny180.out] at ho; have n0_ := Aside0.mk (Kd.R_after (ok := (fun _ => True)) (by (with_reducible repeat (first | apply Kd.R_alloc | apply Kd.R_drewN | apply Kd.R_drew)); exact HO179.out) hg hat); have n1_ := Aside0.mk (hb); have n2_ := Aside0.mk (ho); clear HO179; clear HB; clear HO176; have HO179 := n0_; have HB := n1_; have HO182 := n2_; clear n0_ n1_ n2_; clear ho hb hg hat))
                          go_loopg [13] kj27 (fun kq v13 w' => ∃ (x12_5 : List Int) (x13_5 : Int), v13 = .int .i64 x13_5 ∧ Aside0 (oakumref01_Put.l1 kq a0 a1 x12_5 x13_5 = some (r1, r2)) ∧ Aside0 (kq ≤ kj27) ∧ Aside0 (Kd.R (Kd.int .u8) 5 w' w.heap.size (fun _ => True) v181 x12_5) ∧ Aside0 (Below w.heap.size w w'))
                          case atStart => exact ⟨(y180), (0), (by first | rfl | (simp; done) | (simp [*]; done)), H', ⟨Nat.le_refl _⟩, ⟨by (with_reducible repeat (first | apply Kd.R_alloc | apply Kd.R_drewN | apply Kd.R_drew)); exact Kd.R_mono HO182.out (fun _ hk => trivial)⟩, ⟨by repeat (first | (with_reducible first | exact HB.out | apply below_alloc | apply pw_below_drewN | apply below_drew1) | exact HB.out)⟩⟩
                          case round =>
                            clear H'
                            try clear c1
                            try clear p1
                            try clear q1
                            try clear hx1
                            try clear c2
                            try clear p2
                            try clear c3
                            try clear c4
                            try clear c5
                            try clear c5b0
                            try clear c6
                            try clear p6
                            try clear c8
                            try clear c8b0
                            try clear c10
                            try clear c13
                            try clear c13b0
                            try clear c16
                            try clear c16b0
                            try clear p16
                            try clear q16
                            try clear hx16
                            try clear c17
                            try clear c17b0
                            try clear c18
                            try clear c18b0
                            try clear p19
                            try clear q19
                            try clear hx19
                            try clear hf19
                            try clear c23
                            try clear c23b0
                            try clear c24
                            try clear c27
                            try clear c27b0
                            try clear c29
                            try clear c30
                            try clear c30b0
                            try clear c32
                            try clear c33
                            try clear c34
                            try clear hx168_0
                            try clear hx19_0
                            try clear p1
                            try clear p16
                            try clear p168
                            try clear p19
                            try clear p2
                            try clear p6
                            try clear q1
                            try clear q16
                            try clear q168
                            try clear q19
                            obtain ⟨x12_5, x13_5, rfl, HA, HK5, HO_12, HB⟩ := hrel
                            cases gk with
                            | zero => exact absurd HA.out (by simp [oakumref01_Put.l1])
                            | succ k5 =>
                              have H := HA.out
                              clear HA
                              simp only [oakumref01_Put.l1] at H
                              by_cases c40 : x13_5 < a1
                              · rw [if_pos c40] at H
                                have c40b0 : decide (x13_5 < a1) = true := decide_eq_true c40
                                clear c40
                                by_cases c41 : a0 < 0
                                · rw [if_pos c41] at H
                                  have c41b0 : decide (a0 < 0) = true := decide_eq_true c41
                                  clear c41
                                  by_cases c42 : 0 ≤ x13_5
                                  · rw [if_pos c42] at H
                                    have c42b0 : decide (0 ≤ x13_5) = true := decide_eq_true c42
                                    clear c42
                                    by_cases c43 : x13_5 < (x12_5.length : Int)
                                    · rw [if_pos c43] at H
                                      have c43b0 : decide (x13_5 < (x12_5.length : Int)) = true := decide_eq_true c43
                                      clear c43
                                      obtain ⟨y184, hy184⟩ : ∃ y_ : List Int, y_ = (x12_5.set (x13_5 : Int).toNat ((255 - (rd x12_5 x13_5)) % 256)) := ⟨_, rfl⟩
                                      replace H : (oakumref01_Put.l1 k5 a0 a1 y184 (wrap64 (x13_5 + 1))) = some (r1, r2) := by first | (rw [hy184]; with_reducible exact H) | (have H2_ := (Option.bind_some _ _).symm.trans H; rw [hy184]; with_reducible exact H2_) | (have H2_ := (Option.bind_some _ _).symm.trans H; with_reducible exact H2_) | with_reducible exact H | (rw [hy184]; exact H) | exact H
                                      have Ny184 := Aside0.mk hy184
                                      clear hy184
                                      have H' := Aside0.mk H
                                      clear H
                                      obtain ⟨Ao45, co45, eo45⟩ := Kd.R_slice HO_12.out
                                      subst eo45
                                      have p183 : 0 ≤ (x13_5 : Int) := of_decide_eq_true (by first | (with_reducible assumption) | assumption)
                                      have q183 : x13_5 < (x12_5.length : Int) := of_decide_eq_true (by first | (with_reducible assumption) | assumption)
                                      obtain ⟨ad183, e183, hx183_0⟩ := Kd.at_int (Kd.R_reads' HO_12.out).2.2 x13_5 p183 q183
                                      cases e183
                                      replace p183 := eq_true p183
                                      replace q183 := eq_true q183
                                      have p44 : 0 ≤ (x13_5 : Int) := of_decide_eq_true (by first | (with_reducible assumption) | assumption)
                                      have q44 : (x13_5 : Int) < ((x12_5.length : Int) : Int) := of_decide_eq_true (by first | (with_reducible assumption) | assumption)
                                      obtain ⟨go44, co44, eo44, gb44, gl44, cl44, HG44⟩ := Kd.R_form HO_12.out (by omega)
                                      (first | cases eo44 | (injection eo44 with ea_ en_ ec_; (first | subst ea_ | (injection ea_ with ea_; subst ea_)); subst ec_; clear en_))
                                      have GB44 := Aside0.mk gb44
                                      have GG44 := Aside0.mk HG44
                                      clear gb44 gl44 HG44
                                      (first | simp only [add_plain] at hx183_0 | skip)
                                      obtain ⟨hx44_0, hf44_0⟩ := Kd.R_celln 0 HO_12.out (x13_5 : Int) p44 q44
                                      replace p44 := eq_true p44
                                      replace q44 := eq_true q44
                                      have HP46 := Kd.R_putg HO_12.out (x13_5 : Int) ((255 - (rd x12_5 x13_5)) % 256)
                                      go_wp2_with (first | ((with_reducible refine gate_store (t := 5) (p := 100) rfl ?_); refine store_event (t := 5) (p := 100) (v := ?vo_w47) (w1 := (wr.setCell ⟨go44, (x13_5 : Int).toNat, none⟩ (.int .u8 ((255 - (rd x12_5 x13_5)) % 256)))) ?hg ?ho ?hn ?hr ?_; (case ho => rfl); (case hg => rfl); (case hn => rfl); (case hr => first | (go_simp; done) | (go_simp; rfl)); intro w47 hw; have hg : wr.grownBy w47 (some go44) := (by rw [hw]; exact HP46.2); have hp_ : Kd.R (Kd.int .u8) 5 w47 w.heap.size (fun _ => True) (.slice (some ⟨go44, 0, none⟩) x12_5.length co45) y184 := (by rw [hw, Ny184.out]; exact HP46.1); clear HP46; have n0_ := Aside0.mk (hp_); have n1_ := Aside0.mk ((by rw [hw]; exact below_set (HB.out) GB44.out : Below w.heap.size w w47)); clear HO_12; clear HB; have HO_12 := n0_; have HB := n1_; clear n0_ n1_; clear hg hw hp_))
                                      go_roundg k5
                                      case measure => have := HJ3.out; have := HJ6.out; have := HJ25.out; have := HJ27.out; have := HK5.out; omega
                                      case rel => exact ⟨(y184), (wrap64 (x13_5 + 1)), (by first | rfl | (simp; done) | (simp [*]; done)), H', ⟨by have := HJ3.out; have := HJ6.out; have := HJ25.out; have := HJ27.out; have := HK5.out; omega⟩, ⟨by (with_reducible repeat (first | apply Kd.R_alloc | apply Kd.R_drewN | apply Kd.R_drew)); exact HO_12.out⟩, ⟨by repeat (first | (with_reducible first | exact HB.out | apply below_alloc | apply pw_below_drewN | apply below_drew1) | exact HB.out)⟩⟩
                                    · rw [if_neg c43] at H
                                      exact absurd H (by simp)
                                  · rw [if_neg c42] at H
                                    exact absurd H (by simp)
                                · rw [if_neg c41] at H
                                  have c41b0 : decide (a0 < 0) = false := decide_eq_false c41
                                  clear c41
                                  simp only [Option.some.injEq, Prod.mk.injEq] at H
                                  obtain ⟨rfl, rfl⟩ := H
                                  go_wp2
                                  go_ret2
                                  exact ⟨_, by first | rfl | (simp [errW_none, errW_some] <;> rfl) | (simp [*, errW_none, errW_some] <;> rfl), by (with_reducible repeat (first | apply Kd.R_alloc | apply Kd.R_drewN | apply Kd.R_drew)); exact HO_12.out, by repeat (first | (with_reducible first | exact HB.out | apply below_alloc | apply pw_below_drewN | apply below_drew1) | exact HB.out)⟩
                              · rw [if_neg c40] at H
                                have c40b0 : decide (x13_5 < a1) = false := decide_eq_false c40
                                clear c40
                                by_cases c48 : a0 < 0
                                · rw [if_pos c48] at H
                                  have c48b0 : decide (a0 < 0) = true := decide_eq_true c48
                                  clear c48
                                  by_cases c49 : 0 < (x12_5.length : Int)
                                  · rw [if_pos c49] at H
                                    have c49b0 : decide (0 < (x12_5.length : Int)) = true := decide_eq_true c49
                                    have c49b1 : decide (0 < x12_5.length) = true := decide_eq_true (by omega)
                                    clear c49
                                    obtain ⟨y185, hy185⟩ : ∃ y_ : List Int, y_ = (x12_5.set (0 : Int).toNat 255) := ⟨_, rfl⟩
                                    replace H : (some (y185, 0)) = some (r1, r2) := by first | (rw [hy185]; with_reducible exact H) | (have H2_ := (Option.bind_some _ _).symm.trans H; rw [hy185]; with_reducible exact H2_) | (have H2_ := (Option.bind_some _ _).symm.trans H; with_reducible exact H2_) | with_reducible exact H | (rw [hy185]; exact H) | exact H
                                    have Ny185 := Aside0.mk hy185
                                    clear hy185
                                    simp only [Option.some.injEq, Prod.mk.injEq] at H
                                    obtain ⟨rfl, rfl⟩ := H
                                    have p50 : 0 ≤ (0 : Int) := (by omega)
                                    have q50 : (0 : Int) < ((x12_5.length : Int) : Int) := of_decide_eq_true (by first | (with_reducible assumption) | assumption)
                                    have qi50 : (0 < x12_5.length) = True := eq_true (by omega)
                                    obtain ⟨go50, co50, eo50, gb50, gl50, cl50, HG50⟩ := Kd.R_form HO_12.out (by omega)
                                    (first | cases eo50 | (injection eo50 with ea_ en_ ec_; (first | subst ea_ | (injection ea_ with ea_; subst ea_)); subst ec_; clear en_))
                                    have GB50 := Aside0.mk gb50
                                    have GG50 := Aside0.mk HG50
                                    clear gb50 gl50 HG50
                                    obtain ⟨hx50_0, hf50_0⟩ := Kd.R_celln 0 HO_12.out (0 : Int) p50 q50
                                    (try rw [show ((0 : Int)).toNat = 0 from rfl] at hx50_0)
                                    (try simp only [Nat.reduceMul, Nat.zero_mul, Nat.zero_add, Nat.reduceAdd] at hx50_0)
                                    (try rw [show ((0 : Int)).toNat = 0 from rfl] at hf50_0)
                                    (try simp only [Nat.reduceMul, Nat.zero_mul, Nat.zero_add, Nat.reduceAdd] at hf50_0)
                                    replace p50 := eq_true p50
                                    replace q50 := eq_true q50
                                    have HP51 := Kd.R_putg HO_12.out (0 : Int) 255
                                    go_wp2_with (first | ((with_reducible refine gate_store (t := 5) (p := 104) rfl ?_); refine store_event (t := 5) (p := 104) (v := ?vo_w52) (w1 := (wr.setCell ⟨go50, (0 : Int).toNat, none⟩ (.int .u8 255))) ?hg ?ho ?hn ?hr ?_; (case ho => rfl); (case hg => rfl); (case hn => rfl); (case hr => first | (go_simp; done) | (go_simp; rfl)); intro w52 hw; have hg : wr.grownBy w52 (some go50) := (by rw [hw]; exact HP51.2); have hp_ : Kd.R (Kd.int .u8) 5 w52 w.heap.size (fun _ => True) (.slice (some ⟨go50, 0, none⟩) x12_5.length co50) y185 := (by rw [hw, Ny185.out]; exact HP51.1); clear HP51; have n0_ := Aside0.mk (hp_); have n1_ := Aside0.mk ((by rw [hw]; exact below_set (HB.out) GB50.out : Below w.heap.size w w52)); clear HO_12; clear HB; have HO_12 := n0_; have HB := n1_; clear n0_ n1_; clear hg hw hp_))
                                    go_ret2
                                    exact ⟨_, by first | rfl | (simp [errW_none, errW_some] <;> rfl) | (simp [*, errW_none, errW_some] <;> rfl), by (with_reducible repeat (first | apply Kd.R_alloc | apply Kd.R_drewN | apply Kd.R_drew)); exact HO_12.out, by repeat (first | (with_reducible first | exact HB.out | apply below_alloc | apply pw_below_drewN | apply below_drew1) | exact HB.out)⟩
                                  · rw [if_neg c49] at H
                                    exact absurd H (by simp)
                                · rw [if_neg c48] at H
                                  have c48b0 : decide (a0 < 0) = false := decide_eq_false c48
                                  clear c48
                                  simp only [Option.some.injEq, Prod.mk.injEq] at H
                                  obtain ⟨rfl, rfl⟩ := H
                                  go_wp2
                                  go_ret2
                                  exact ⟨_, by first | rfl | (simp [errW_none, errW_some] <;> rfl) | (simp [*, errW_none, errW_some] <;> rfl), by (with_reducible repeat (first | apply Kd.R_alloc | apply Kd.R_drewN | apply Kd.R_drew)); exact HO_12.out, by repeat (first | (with_reducible first | exact HB.out | apply below_alloc | apply pw_below_drewN | apply below_drew1) | exact HB.out)⟩
                        · rw [if_neg c34] at H
                          exact absurd H (by simp)

end Go.Proofs.YtkcgioggnbnfkaaDoor.PVolumeJoins
