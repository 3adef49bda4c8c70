/- Laws that the claim's theorem rests on: out of texts of this session and of the print, less what is not used. -/
import Derived.Test.YtkcgioggnbnfkaaDoorZPVolumeJoinsx0
import Derived.Test.YtkcgioggnbnfkaaDoorZPVolumeJoinsx3
-- Written by a program of this session over the print (contracts by hand for the functions that it passes over).
namespace Go.Proofs.YtkcgioggnbnfkaaDoor.PVolumeJoins
open Go.RowKit Go.Proofs.YtkcgioggnbnfkaaDoorW.PrintWords Go.Proofs.YtkcgioggnbnfkaaDoorW.PrintLast Go.Proofs.YtkcgioggnbnfkaaDoorW.PrintMore
attribute [local go_sem] max2_int min2_int max_two min_two max_three min_three max_four min_four   -- for this text's walks alone
set_option linter.unusedVariables false
set_option linter.unusedSimpArgs false

mutual
def oakumref01_Put.j0 : Nat → Int → Int → Bool → Bool → Option (List Int × Int)
  | 0, _, _, _, _ => none
  | k + 1, x0, x1, x2, x19 => if x19 = true then (some (([] : List Int), 2)) else (if x0 ≥ 0 then ((oakumref01_Most.f k x1).bind fun t163 => (oakumref01_Put.j1 k x0 x1 x2 (decide (x0 ≤ t163)))) else (oakumref01_Put.j1 k x0 x1 x2 false))
def oakumref01_Put.j1 : Nat → Int → Int → Bool → Bool → Option (List Int × Int)
  | 0, _, _, _, _ => none
  | k + 1, x0, x1, x2, x27 => if x27 = true then ((oakumref01_Most.f k (wrap64 (x1 - 1))).bind fun t164 => (if x0 ≤ t164 then (oakumref01_Put.j2 k x0 x1 (wrap64 (x1 - 1))) else (oakumref01_Put.j2 k x0 x1 x1))) else (if x0 < 0 then (oakumref01_Put.j4 k x0 x1 x2 (wrap64 (-(wrap64 (x0 + 1))))) else (oakumref01_Put.j4 k x0 x1 x2 x0))
def oakumref01_Put.j2 : Nat → Int → Int → Int → Option (List Int × Int)
  | 0, _, _, _ => none
  | k + 1, x0, x1, x8 => (oakumref01_digits.f k x0 8 x8).bind fun t165 => (oakumref01_Put.l0 k x1 x8 t165 0)
def oakumref01_Put.l0 : Nat → Int → Int → List Int → Int → Option (List Int × Int)
  | 0, _, _, _, _ => none
  | k + 1, x1, x8, x9, x10 => if x10 < x8 then (if 0 ≤ x10 then (if x10 < (x9.length : Int) then (oakumref01_Put.l0 k x1 x8 (x9.set (x10 : Int).toNat (((rd x9 x10) + 48) % 256)) (wrap64 (x10 + 1))) else (none)) else (none)) else (if x8 < x1 then (if x9.length < 140737488355328 then (some ((x9 ++ [0]), 0)) else (none)) else (some (x9, 0)))
def oakumref01_Put.j4 : Nat → Int → Int → Bool → Int → Option (List Int × Int)
  | 0, _, _, _, _ => none
  | k + 1, x0, x1, x2, x11 => if x2 = true then (if x1 < 9 then ((oakumref01_Power.f k 256 (wrap64 (x1 - 1))).bind fun t173 => (oakumref01_Put.j5 k x0 x1 x11 (decide (x11 ≥ t173)))) else (oakumref01_Put.j5 k x0 x1 x11 false)) else (oakumref01_Put.j5 k x0 x1 x11 true)
def oakumref01_Put.j5 : Nat → Int → Int → Int → Bool → Option (List Int × Int)
  | 0, _, _, _, _ => none
  | k + 1, x0, x1, x11, x77 => if x77 = true then (some (([] : List Int), 5)) else ((some (([128] : List Int) : List Int)).bind fun y174 => ((oakumref01_digits.f k x11 256 (wrap64 (x1 - 1))).bind fun t177 => (if y174.length + t177.length < 140737488355328 then (oakumref01_Put.l1 k x0 x1 (y174 ++ t177) 0) else (none))))
def oakumref01_Put.l1 : Nat → Int → Int → List Int → Int → Option (List Int × Int)
  | 0, _, _, _, _ => none
  | k + 1, x0, x1, x12, x13 => if x13 < x1 then (if x0 < 0 then (if 0 ≤ x13 then (if x13 < (x12.length : Int) then (oakumref01_Put.l1 k x0 x1 (x12.set (x13 : Int).toNat ((255 - (rd x12 x13)) % 256)) (wrap64 (x13 + 1))) else (none)) else (none)) else (some (x12, 0))) else (if x0 < 0 then (if 0 < (x12.length : Int) then (some ((x12.set (0 : Int).toNat 255), 0)) else (none)) else (some (x12, 0)))
end
def oakumref01_Put.f (k : Nat) (a0 : Int) (a1 : Int) (a2 : Bool) : Option (List Int × Int) := if a1 < 2 then (oakumref01_Put.j0 k a0 a1 a2 true) else (oakumref01_Put.j0 k a0 a1 a2 (decide (a1 > 32)))
theorem oakumref01_Put.mono_l : ∀ k, (∀ y0 y1 y2 y3, LeO (oakumref01_Put.j0 k y0 y1 y2 y3) (oakumref01_Put.j0 (k + 1) y0 y1 y2 y3)) ∧ (∀ y0 y1 y2 y3, LeO (oakumref01_Put.j1 k y0 y1 y2 y3) (oakumref01_Put.j1 (k + 1) y0 y1 y2 y3)) ∧ (∀ y0 y1 y2, LeO (oakumref01_Put.j2 k y0 y1 y2) (oakumref01_Put.j2 (k + 1) y0 y1 y2)) ∧ (∀ y0 y1 y2 y3, LeO (oakumref01_Put.l0 k y0 y1 y2 y3) (oakumref01_Put.l0 (k + 1) y0 y1 y2 y3)) ∧ (∀ y0 y1 y2 y3, LeO (oakumref01_Put.j4 k y0 y1 y2 y3) (oakumref01_Put.j4 (k + 1) y0 y1 y2 y3)) ∧ (∀ y0 y1 y2 y3, LeO (oakumref01_Put.j5 k y0 y1 y2 y3) (oakumref01_Put.j5 (k + 1) y0 y1 y2 y3)) ∧ (∀ y0 y1 y2 y3, LeO (oakumref01_Put.l1 k y0 y1 y2 y3) (oakumref01_Put.l1 (k + 1) y0 y1 y2 y3))
  | 0 => ⟨fun _ _ _ _ r h => by simp [oakumref01_Put.j0] at h, fun _ _ _ _ r h => by simp [oakumref01_Put.j1] at h, fun _ _ _ r h => by simp [oakumref01_Put.j2] at h, fun _ _ _ _ r h => by simp [oakumref01_Put.l0] at h, fun _ _ _ _ r h => by simp [oakumref01_Put.j4] at h, fun _ _ _ _ r h => by simp [oakumref01_Put.j5] at h, fun _ _ _ _ r h => by simp [oakumref01_Put.l1] at h⟩
  | k + 1 => by
    obtain ⟨ih0, ih1, ih2, ih3, ih4, ih5, ih6⟩ := oakumref01_Put.mono_l k
    refine ⟨?_, ?_, ?_, ?_, ?_, ?_, ?_⟩
    · intro y0 y1 y2 y3
      unfold oakumref01_Put.j0
      repeat' first
      | (with_reducible exact ih0 _ _ _ _)
      | (with_reducible exact ih1 _ _ _ _)
      | (with_reducible exact ih2 _ _ _)
      | (with_reducible exact ih3 _ _ _ _)
      | (with_reducible exact ih4 _ _ _ _)
      | (with_reducible exact ih5 _ _ _ _)
      | (with_reducible exact ih6 _ _ _ _)
      | (with_reducible exact oakumref01_Most.mono _ _)
      | (with_reducible exact oakumref01_Power.mono _ _ _)
      | (with_reducible exact oakumref01_digits.mono _ _ _ _)
      | (with_reducible exact LeO.refl _)
      | (with_reducible exact LeO.none _)
      | (with_reducible refine LeO.ite ?_ ?_)
      | (with_reducible refine LeO.bind ?_ (fun _ => ?_))
      | exact ih0 _ _ _ _
      | exact ih1 _ _ _ _
      | exact ih2 _ _ _
      | exact ih3 _ _ _ _
      | exact ih4 _ _ _ _
      | exact ih5 _ _ _ _
      | exact ih6 _ _ _ _
      | exact oakumref01_Most.mono _ _
      | exact oakumref01_Power.mono _ _ _
      | exact oakumref01_digits.mono _ _ _ _
      | exact LeO.none _
      | refine LeO.ite ?_ ?_
      | refine LeO.bind ?_ (fun _ => ?_)
    · intro y0 y1 y2 y3
      unfold oakumref01_Put.j1
      repeat' first
      | (with_reducible exact ih0 _ _ _ _)
      | (with_reducible exact ih1 _ _ _ _)
      | (with_reducible exact ih2 _ _ _)
      | (with_reducible exact ih3 _ _ _ _)
      | (with_reducible exact ih4 _ _ _ _)
      | (with_reducible exact ih5 _ _ _ _)
      | (with_reducible exact ih6 _ _ _ _)
      | (with_reducible exact oakumref01_Most.mono _ _)
      | (with_reducible exact oakumref01_Power.mono _ _ _)
      | (with_reducible exact oakumref01_digits.mono _ _ _ _)
      | (with_reducible exact LeO.refl _)
      | (with_reducible exact LeO.none _)
      | (with_reducible refine LeO.ite ?_ ?_)
      | (with_reducible refine LeO.bind ?_ (fun _ => ?_))
      | exact ih0 _ _ _ _
      | exact ih1 _ _ _ _
      | exact ih2 _ _ _
      | exact ih3 _ _ _ _
      | exact ih4 _ _ _ _
      | exact ih5 _ _ _ _
      | exact ih6 _ _ _ _
      | exact oakumref01_Most.mono _ _
      | exact oakumref01_Power.mono _ _ _
      | exact oakumref01_digits.mono _ _ _ _
      | exact LeO.none _
      | refine LeO.ite ?_ ?_
      | refine LeO.bind ?_ (fun _ => ?_)
    · intro y0 y1 y2
      unfold oakumref01_Put.j2
      repeat' first
      | (with_reducible exact ih0 _ _ _ _)
      | (with_reducible exact ih1 _ _ _ _)
      | (with_reducible exact ih2 _ _ _)
      | (with_reducible exact ih3 _ _ _ _)
      | (with_reducible exact ih4 _ _ _ _)
      | (with_reducible exact ih5 _ _ _ _)
      | (with_reducible exact ih6 _ _ _ _)
      | (with_reducible exact oakumref01_Most.mono _ _)
      | (with_reducible exact oakumref01_Power.mono _ _ _)
      | (with_reducible exact oakumref01_digits.mono _ _ _ _)
      | (with_reducible exact LeO.refl _)
      | (with_reducible exact LeO.none _)
      | (with_reducible refine LeO.ite ?_ ?_)
      | (with_reducible refine LeO.bind ?_ (fun _ => ?_))
      | exact ih0 _ _ _ _
      | exact ih1 _ _ _ _
      | exact ih2 _ _ _
      | exact ih3 _ _ _ _
      | exact ih4 _ _ _ _
      | exact ih5 _ _ _ _
      | exact ih6 _ _ _ _
      | exact oakumref01_Most.mono _ _
      | exact oakumref01_Power.mono _ _ _
      | exact oakumref01_digits.mono _ _ _ _
      | exact LeO.none _
      | refine LeO.ite ?_ ?_
      | refine LeO.bind ?_ (fun _ => ?_)
    · intro y0 y1 y2 y3
      unfold oakumref01_Put.l0
      repeat' first
      | (with_reducible exact ih0 _ _ _ _)
      | (with_reducible exact ih1 _ _ _ _)
      | (with_reducible exact ih2 _ _ _)
      | (with_reducible exact ih3 _ _ _ _)
      | (with_reducible exact ih4 _ _ _ _)
      | (with_reducible exact ih5 _ _ _ _)
      | (with_reducible exact ih6 _ _ _ _)
      | (with_reducible exact oakumref01_Most.mono _ _)
      | (with_reducible exact oakumref01_Power.mono _ _ _)
      | (with_reducible exact oakumref01_digits.mono _ _ _ _)
      | (with_reducible exact LeO.refl _)
      | (with_reducible exact LeO.none _)
      | (with_reducible refine LeO.ite ?_ ?_)
      | (with_reducible refine LeO.bind ?_ (fun _ => ?_))
      | exact ih0 _ _ _ _
      | exact ih1 _ _ _ _
      | exact ih2 _ _ _
      | exact ih3 _ _ _ _
      | exact ih4 _ _ _ _
      | exact ih5 _ _ _ _
      | exact ih6 _ _ _ _
      | exact oakumref01_Most.mono _ _
      | exact oakumref01_Power.mono _ _ _
      | exact oakumref01_digits.mono _ _ _ _
      | exact LeO.none _
      | refine LeO.ite ?_ ?_
      | refine LeO.bind ?_ (fun _ => ?_)
    · intro y0 y1 y2 y3
      unfold oakumref01_Put.j4
      repeat' first
      | (with_reducible exact ih0 _ _ _ _)
      | (with_reducible exact ih1 _ _ _ _)
      | (with_reducible exact ih2 _ _ _)
      | (with_reducible exact ih3 _ _ _ _)
      | (with_reducible exact ih4 _ _ _ _)
      | (with_reducible exact ih5 _ _ _ _)
      | (with_reducible exact ih6 _ _ _ _)
      | (with_reducible exact oakumref01_Most.mono _ _)
      | (with_reducible exact oakumref01_Power.mono _ _ _)
      | (with_reducible exact oakumref01_digits.mono _ _ _ _)
      | (with_reducible exact LeO.refl _)
      | (with_reducible exact LeO.none _)
      | (with_reducible refine LeO.ite ?_ ?_)
      | (with_reducible refine LeO.bind ?_ (fun _ => ?_))
      | exact ih0 _ _ _ _
      | exact ih1 _ _ _ _
      | exact ih2 _ _ _
      | exact ih3 _ _ _ _
      | exact ih4 _ _ _ _
      | exact ih5 _ _ _ _
      | exact ih6 _ _ _ _
      | exact oakumref01_Most.mono _ _
      | exact oakumref01_Power.mono _ _ _
      | exact oakumref01_digits.mono _ _ _ _
      | exact LeO.none _
      | refine LeO.ite ?_ ?_
      | refine LeO.bind ?_ (fun _ => ?_)
    · intro y0 y1 y2 y3
      unfold oakumref01_Put.j5
      repeat' first
      | (with_reducible exact ih0 _ _ _ _)
      | (with_reducible exact ih1 _ _ _ _)
      | (with_reducible exact ih2 _ _ _)
      | (with_reducible exact ih3 _ _ _ _)
      | (with_reducible exact ih4 _ _ _ _)
      | (with_reducible exact ih5 _ _ _ _)
      | (with_reducible exact ih6 _ _ _ _)
      | (with_reducible exact oakumref01_Most.mono _ _)
      | (with_reducible exact oakumref01_Power.mono _ _ _)
      | (with_reducible exact oakumref01_digits.mono _ _ _ _)
      | (with_reducible exact LeO.refl _)
      | (with_reducible exact LeO.none _)
      | (with_reducible refine LeO.ite ?_ ?_)
      | (with_reducible refine LeO.bind ?_ (fun _ => ?_))
      | exact ih0 _ _ _ _
      | exact ih1 _ _ _ _
      | exact ih2 _ _ _
      | exact ih3 _ _ _ _
      | exact ih4 _ _ _ _
      | exact ih5 _ _ _ _
      | exact ih6 _ _ _ _
      | exact oakumref01_Most.mono _ _
      | exact oakumref01_Power.mono _ _ _
      | exact oakumref01_digits.mono _ _ _ _
      | exact LeO.none _
      | refine LeO.ite ?_ ?_
      | refine LeO.bind ?_ (fun _ => ?_)
    · intro y0 y1 y2 y3
      unfold oakumref01_Put.l1
      repeat' first
      | (with_reducible exact ih0 _ _ _ _)
      | (with_reducible exact ih1 _ _ _ _)
      | (with_reducible exact ih2 _ _ _)
      | (with_reducible exact ih3 _ _ _ _)
      | (with_reducible exact ih4 _ _ _ _)
      | (with_reducible exact ih5 _ _ _ _)
      | (with_reducible exact ih6 _ _ _ _)
      | (with_reducible exact oakumref01_Most.mono _ _)
      | (with_reducible exact oakumref01_Power.mono _ _ _)
      | (with_reducible exact oakumref01_digits.mono _ _ _ _)
      | (with_reducible exact LeO.refl _)
      | (with_reducible exact LeO.none _)
      | (with_reducible refine LeO.ite ?_ ?_)
      | (with_reducible refine LeO.bind ?_ (fun _ => ?_))
      | exact ih0 _ _ _ _
      | exact ih1 _ _ _ _
      | exact ih2 _ _ _
      | exact ih3 _ _ _ _
      | exact ih4 _ _ _ _
      | exact ih5 _ _ _ _
      | exact ih6 _ _ _ _
      | exact oakumref01_Most.mono _ _
      | exact oakumref01_Power.mono _ _ _
      | exact oakumref01_digits.mono _ _ _ _
      | exact LeO.none _
      | refine LeO.ite ?_ ?_
      | refine LeO.bind ?_ (fun _ => ?_)
theorem oakumref01_Put.mono : ∀ a0 a1 a2 k, LeO (oakumref01_Put.f k a0 a1 a2) (oakumref01_Put.f (k + 1) a0 a1 a2) := by
  intro a0 a1 a2 k
  obtain ⟨ih0, ih1, ih2, ih3, ih4, ih5, ih6⟩ := oakumref01_Put.mono_l k
  unfold oakumref01_Put.f
  repeat' first
      | (with_reducible exact ih0 _ _ _ _)
      | (with_reducible exact ih1 _ _ _ _)
      | (with_reducible exact ih2 _ _ _)
      | (with_reducible exact ih3 _ _ _ _)
      | (with_reducible exact ih4 _ _ _ _)
      | (with_reducible exact ih5 _ _ _ _)
      | (with_reducible exact ih6 _ _ _ _)
      | (with_reducible exact oakumref01_Most.mono _ _)
      | (with_reducible exact oakumref01_Power.mono _ _ _)
      | (with_reducible exact oakumref01_digits.mono _ _ _ _)
      | (with_reducible exact LeO.refl _)
      | (with_reducible exact LeO.none _)
      | (with_reducible refine LeO.ite ?_ ?_)
      | (with_reducible refine LeO.bind ?_ (fun _ => ?_))
      | exact ih0 _ _ _ _
      | exact ih1 _ _ _ _
      | exact ih2 _ _ _
      | exact ih3 _ _ _ _
      | exact ih4 _ _ _ _
      | exact ih5 _ _ _ _
      | exact ih6 _ _ _ _
      | exact oakumref01_Most.mono _ _
      | exact oakumref01_Power.mono _ _ _
      | exact oakumref01_digits.mono _ _ _ _
      | exact LeO.none _
      | refine LeO.ite ?_ ?_
      | refine LeO.bind ?_ (fun _ => ?_)
end Go.Proofs.YtkcgioggnbnfkaaDoor.PVolumeJoins
