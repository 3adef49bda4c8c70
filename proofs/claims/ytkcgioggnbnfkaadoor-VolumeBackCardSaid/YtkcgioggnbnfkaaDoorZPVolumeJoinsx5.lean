/- Laws that the claim's theorem rests on: out of texts of this session and of the print, less what is not used. -/
import Derived.Test.YtkcgioggnbnfkaaDoorZPVolumeJoinsx0
-- Written by a program of this session over the print (contracts by hand for the functions that it passes over).
namespace Go.Proofs.YtkcgioggnbnfkaaDoor.PVolumeJoins
open Go.RowKit Go.Proofs.YtkcgioggnbnfkaaDoorW.PrintWords Go.Proofs.YtkcgioggnbnfkaaDoorW.PrintLast Go.Proofs.YtkcgioggnbnfkaaDoorW.PrintMore
attribute [local go_sem] max2_int min2_int max_two min_two max_three min_three max_four min_four   -- for this text's walks alone
set_option linter.unusedVariables false
set_option linter.unusedSimpArgs false

-- NOT PRINTED: function 20 (oakumref33_Bytes)

mutual
def oakumref32_More.l0 : Nat → List Int → Int → Int → Option (Int)
  | 0, _, _, _ => none
  | k + 1, x1, x5, x6 => if x6 < (x1.length : Int) then (if 0 ≤ x6 then (oakumref32_More.l1 k x1 (Go.bits .xor .u64 x5 (IntKind.u64.wrap (rd x1 x6))) x6 0) else (none)) else (some ((IntKind.u64.wrap (4294967295 - x5)) % 4294967296))
def oakumref32_More.l1 : Nat → List Int → Int → Int → Int → Option (Int)
  | 0, _, _, _, _ => none
  | k + 1, x1, x5, x6, x7 => if x7 < 8 then (if (Int.tmod x5 2) = 1 then (oakumref32_More.l1 k x1 (Go.bits .xor .u64 (IntKind.u64.wrap (Int.tdiv x5 2)) 3988292384) x6 (wrap64 (x7 + 1))) else (oakumref32_More.l1 k x1 (IntKind.u64.wrap (Int.tdiv x5 2)) x6 (wrap64 (x7 + 1)))) else (oakumref32_More.l0 k x1 x5 (wrap64 (x6 + 1)))
end
def oakumref32_More.f (k : Nat) (a0 : Int) (l1 : List Int) : Option (Int) := oakumref32_More.l0 k l1 (IntKind.u64.wrap (4294967295 - (IntKind.u64.wrap (a0)))) 0
theorem oakumref32_More.mono_l : ∀ k, (∀ y0 y1 y2, LeO (oakumref32_More.l0 k y0 y1 y2) (oakumref32_More.l0 (k + 1) y0 y1 y2)) ∧ (∀ y0 y1 y2 y3, LeO (oakumref32_More.l1 k y0 y1 y2 y3) (oakumref32_More.l1 (k + 1) y0 y1 y2 y3))
  | 0 => ⟨fun _ _ _ r h => by simp [oakumref32_More.l0] at h, fun _ _ _ _ r h => by simp [oakumref32_More.l1] at h⟩
  | k + 1 => by
    obtain ⟨ih0, ih1⟩ := oakumref32_More.mono_l k
    refine ⟨?_, ?_⟩
    · intro y0 y1 y2
      unfold oakumref32_More.l0
      repeat' first
      | (with_reducible exact ih0 _ _ _)
      | (with_reducible exact ih1 _ _ _ _)
      | (with_reducible exact LeO.refl _)
      | (with_reducible exact LeO.none _)
      | (with_reducible refine LeO.ite ?_ ?_)
      | (with_reducible refine LeO.bind ?_ (fun _ => ?_))
      | exact ih0 _ _ _
      | exact ih1 _ _ _ _
      | exact LeO.none _
      | refine LeO.ite ?_ ?_
      | refine LeO.bind ?_ (fun _ => ?_)
    · intro y0 y1 y2 y3
      unfold oakumref32_More.l1
      repeat' first
      | (with_reducible exact ih0 _ _ _)
      | (with_reducible exact ih1 _ _ _ _)
      | (with_reducible exact LeO.refl _)
      | (with_reducible exact LeO.none _)
      | (with_reducible refine LeO.ite ?_ ?_)
      | (with_reducible refine LeO.bind ?_ (fun _ => ?_))
      | exact ih0 _ _ _
      | exact ih1 _ _ _ _
      | exact LeO.none _
      | refine LeO.ite ?_ ?_
      | refine LeO.bind ?_ (fun _ => ?_)
theorem oakumref32_More.mono : ∀ a0 a1 k, LeO (oakumref32_More.f k a0 a1) (oakumref32_More.f (k + 1) a0 a1) := by
  intro a0 a1 k
  obtain ⟨ih0, ih1⟩ := oakumref32_More.mono_l k
  unfold oakumref32_More.f
  repeat' first
      | (with_reducible exact ih0 _ _ _)
      | (with_reducible exact ih1 _ _ _ _)
      | (with_reducible exact LeO.refl _)
      | (with_reducible exact LeO.none _)
      | (with_reducible refine LeO.ite ?_ ?_)
      | (with_reducible refine LeO.bind ?_ (fun _ => ?_))
      | exact ih0 _ _ _
      | exact ih1 _ _ _ _
      | exact LeO.none _
      | refine LeO.ite ?_ ?_
      | refine LeO.bind ?_ (fun _ => ?_)
mutual
def oakumref01_Octal.j1 : Nat → List Int → Int → Option (Int × Bool)
  | 0, _, _ => none
  | k + 1, x0, x4 => oakumref01_Octal.l1 k x0 x4 0
def oakumref01_Octal.l1 : Nat → List Int → Int → Int → Option (Int × Bool)
  | 0, _, _, _ => none
  | k + 1, x0, x4, x5 => if x4 < (x0.length : Int) then (if 0 ≤ x4 then (if (rd x0 x4) ≥ 48 then (oakumref01_Octal.j3 k x0 x4 x5 (decide ((rd x0 x4) ≤ 55))) else (oakumref01_Octal.j3 k x0 x4 x5 false)) else (none)) else (oakumref01_Octal.j3 k x0 x4 x5 false)
def oakumref01_Octal.j3 : Nat → List Int → Int → Int → Bool → Option (Int × Bool)
  | 0, _, _, _, _ => none
  | k + 1, x0, x4, x5, x36 => if x36 = true then (if x5 > 1152921504606846975 then (some (0, false)) else (if 0 ≤ x4 then (if x4 < (x0.length : Int) then (oakumref01_Octal.l1 k x0 (wrap64 (x4 + 1)) (wrap64 ((wrap64 ((wrap64 (8 * x5)) + (wrap64 (rd x0 x4)))) - 48))) else (none)) else (none))) else (oakumref01_Octal.l2 k x0 x4 x5)
def oakumref01_Octal.l2 : Nat → List Int → Int → Int → Option (Int × Bool)
  | 0, _, _, _ => none
  | k + 1, x0, x4, x5 => if x4 < (x0.length : Int) then (if 0 ≤ x4 then (if (rd x0 x4) = 0 then (oakumref01_Octal.l2 k x0 (wrap64 (x4 + 1)) x5) else (if (rd x0 x4) = 32 then (oakumref01_Octal.l2 k x0 (wrap64 (x4 + 1)) x5) else (some (0, false)))) else (none)) else (some (x5, true))
def oakumref01_Octal.l0 : Nat → List Int → Int → Option (Int × Bool)
  | 0, _, _ => none
  | k + 1, x0, x4 => if x4 < (x0.length : Int) then (if 0 ≤ x4 then (if (rd x0 x4) = 32 then (oakumref01_Octal.l0 k x0 (wrap64 (x4 + 1))) else (oakumref01_Octal.j1 k x0 x4)) else (none)) else (oakumref01_Octal.j1 k x0 x4)
end
def oakumref01_Octal.f (k : Nat) (l0 : List Int) : Option (Int × Bool) := oakumref01_Octal.l0 k l0 0
theorem oakumref01_Octal.mono_l : ∀ k, (∀ y0 y1, LeO (oakumref01_Octal.j1 k y0 y1) (oakumref01_Octal.j1 (k + 1) y0 y1)) ∧ (∀ y0 y1 y2, LeO (oakumref01_Octal.l1 k y0 y1 y2) (oakumref01_Octal.l1 (k + 1) y0 y1 y2)) ∧ (∀ y0 y1 y2 y3, LeO (oakumref01_Octal.j3 k y0 y1 y2 y3) (oakumref01_Octal.j3 (k + 1) y0 y1 y2 y3)) ∧ (∀ y0 y1 y2, LeO (oakumref01_Octal.l2 k y0 y1 y2) (oakumref01_Octal.l2 (k + 1) y0 y1 y2)) ∧ (∀ y0 y1, LeO (oakumref01_Octal.l0 k y0 y1) (oakumref01_Octal.l0 (k + 1) y0 y1))
  | 0 => ⟨fun _ _ r h => by simp [oakumref01_Octal.j1] at h, fun _ _ _ r h => by simp [oakumref01_Octal.l1] at h, fun _ _ _ _ r h => by simp [oakumref01_Octal.j3] at h, fun _ _ _ r h => by simp [oakumref01_Octal.l2] at h, fun _ _ r h => by simp [oakumref01_Octal.l0] at h⟩
  | k + 1 => by
    obtain ⟨ih0, ih1, ih2, ih3, ih4⟩ := oakumref01_Octal.mono_l k
    refine ⟨?_, ?_, ?_, ?_, ?_⟩
    · intro y0 y1
      unfold oakumref01_Octal.j1
      repeat' first
      | (with_reducible exact ih0 _ _)
      | (with_reducible exact ih1 _ _ _)
      | (with_reducible exact ih2 _ _ _ _)
      | (with_reducible exact ih3 _ _ _)
      | (with_reducible exact ih4 _ _)
      | (with_reducible exact LeO.refl _)
      | (with_reducible exact LeO.none _)
      | (with_reducible refine LeO.ite ?_ ?_)
      | (with_reducible refine LeO.bind ?_ (fun _ => ?_))
      | exact ih0 _ _
      | exact ih1 _ _ _
      | exact ih2 _ _ _ _
      | exact ih3 _ _ _
      | exact ih4 _ _
      | exact LeO.none _
      | refine LeO.ite ?_ ?_
      | refine LeO.bind ?_ (fun _ => ?_)
    · intro y0 y1 y2
      unfold oakumref01_Octal.l1
      repeat' first
      | (with_reducible exact ih0 _ _)
      | (with_reducible exact ih1 _ _ _)
      | (with_reducible exact ih2 _ _ _ _)
      | (with_reducible exact ih3 _ _ _)
      | (with_reducible exact ih4 _ _)
      | (with_reducible exact LeO.refl _)
      | (with_reducible exact LeO.none _)
      | (with_reducible refine LeO.ite ?_ ?_)
      | (with_reducible refine LeO.bind ?_ (fun _ => ?_))
      | exact ih0 _ _
      | exact ih1 _ _ _
      | exact ih2 _ _ _ _
      | exact ih3 _ _ _
      | exact ih4 _ _
      | exact LeO.none _
      | refine LeO.ite ?_ ?_
      | refine LeO.bind ?_ (fun _ => ?_)
    · intro y0 y1 y2 y3
      unfold oakumref01_Octal.j3
      repeat' first
      | (with_reducible exact ih0 _ _)
      | (with_reducible exact ih1 _ _ _)
      | (with_reducible exact ih2 _ _ _ _)
      | (with_reducible exact ih3 _ _ _)
      | (with_reducible exact ih4 _ _)
      | (with_reducible exact LeO.refl _)
      | (with_reducible exact LeO.none _)
      | (with_reducible refine LeO.ite ?_ ?_)
      | (with_reducible refine LeO.bind ?_ (fun _ => ?_))
      | exact ih0 _ _
      | exact ih1 _ _ _
      | exact ih2 _ _ _ _
      | exact ih3 _ _ _
      | exact ih4 _ _
      | exact LeO.none _
      | refine LeO.ite ?_ ?_
      | refine LeO.bind ?_ (fun _ => ?_)
    · intro y0 y1 y2
      unfold oakumref01_Octal.l2
      repeat' first
      | (with_reducible exact ih0 _ _)
      | (with_reducible exact ih1 _ _ _)
      | (with_reducible exact ih2 _ _ _ _)
      | (with_reducible exact ih3 _ _ _)
      | (with_reducible exact ih4 _ _)
      | (with_reducible exact LeO.refl _)
      | (with_reducible exact LeO.none _)
      | (with_reducible refine LeO.ite ?_ ?_)
      | (with_reducible refine LeO.bind ?_ (fun _ => ?_))
      | exact ih0 _ _
      | exact ih1 _ _ _
      | exact ih2 _ _ _ _
      | exact ih3 _ _ _
      | exact ih4 _ _
      | exact LeO.none _
      | refine LeO.ite ?_ ?_
      | refine LeO.bind ?_ (fun _ => ?_)
    · intro y0 y1
      unfold oakumref01_Octal.l0
      repeat' first
      | (with_reducible exact ih0 _ _)
      | (with_reducible exact ih1 _ _ _)
      | (with_reducible exact ih2 _ _ _ _)
      | (with_reducible exact ih3 _ _ _)
      | (with_reducible exact ih4 _ _)
      | (with_reducible exact LeO.refl _)
      | (with_reducible exact LeO.none _)
      | (with_reducible refine LeO.ite ?_ ?_)
      | (with_reducible refine LeO.bind ?_ (fun _ => ?_))
      | exact ih0 _ _
      | exact ih1 _ _ _
      | exact ih2 _ _ _ _
      | exact ih3 _ _ _
      | exact ih4 _ _
      | exact LeO.none _
      | refine LeO.ite ?_ ?_
      | refine LeO.bind ?_ (fun _ => ?_)
theorem oakumref01_Octal.mono : ∀ a0 k, LeO (oakumref01_Octal.f k a0) (oakumref01_Octal.f (k + 1) a0) := by
  intro a0 k
  obtain ⟨ih0, ih1, ih2, ih3, ih4⟩ := oakumref01_Octal.mono_l k
  unfold oakumref01_Octal.f
  repeat' first
      | (with_reducible exact ih0 _ _)
      | (with_reducible exact ih1 _ _ _)
      | (with_reducible exact ih2 _ _ _ _)
      | (with_reducible exact ih3 _ _ _)
      | (with_reducible exact ih4 _ _)
      | (with_reducible exact LeO.refl _)
      | (with_reducible exact LeO.none _)
      | (with_reducible refine LeO.ite ?_ ?_)
      | (with_reducible refine LeO.bind ?_ (fun _ => ?_))
      | exact ih0 _ _
      | exact ih1 _ _ _
      | exact ih2 _ _ _ _
      | exact ih3 _ _ _
      | exact ih4 _ _
      | exact LeO.none _
      | refine LeO.ite ?_ ?_
      | refine LeO.bind ?_ (fun _ => ?_)
def oakumref02_Blocks.f (a0 : Int) : Option (Int) := if a0 < 0 then (some 0) else (if (Int.tmod a0 512) > 0 then (some (wrap64 ((wrap64 (Int.tdiv a0 512)) + 1))) else (some (wrap64 (Int.tdiv a0 512))))
def oakumref02_Blank.l0 : Nat → List Int → Int → Option (Bool)
  | 0, _, _ => none
  | k + 1, x0, x3 => if x3 < (x0.length : Int) then (if 0 ≤ x3 then (if (rd x0 x3) > 0 then (some false) else (oakumref02_Blank.l0 k x0 (wrap64 (x3 + 1)))) else (none)) else (some true)
def oakumref02_Blank.f (k : Nat) (l0 : List Int) : Option (Bool) := oakumref02_Blank.l0 k l0 0
theorem oakumref02_Blank.mono_l : ∀ k, (∀ y0 y1, LeO (oakumref02_Blank.l0 k y0 y1) (oakumref02_Blank.l0 (k + 1) y0 y1))
  | 0 => fun _ _ r h => by simp [oakumref02_Blank.l0] at h
  | k + 1 => by
    have ih0 := oakumref02_Blank.mono_l k
    · intro y0 y1
      unfold oakumref02_Blank.l0
      repeat' first
      | (with_reducible exact ih0 _ _)
      | (with_reducible exact LeO.refl _)
      | (with_reducible exact LeO.none _)
      | (with_reducible refine LeO.ite ?_ ?_)
      | (with_reducible refine LeO.bind ?_ (fun _ => ?_))
      | exact ih0 _ _
      | exact LeO.none _
      | refine LeO.ite ?_ ?_
      | refine LeO.bind ?_ (fun _ => ?_)
theorem oakumref02_Blank.mono : ∀ a0 k, LeO (oakumref02_Blank.f k a0) (oakumref02_Blank.f (k + 1) a0) := by
  intro a0 k
  have ih0 := oakumref02_Blank.mono_l k
  unfold oakumref02_Blank.f
  repeat' first
      | (with_reducible exact ih0 _ _)
      | (with_reducible exact LeO.refl _)
      | (with_reducible exact LeO.none _)
      | (with_reducible refine LeO.ite ?_ ?_)
      | (with_reducible refine LeO.bind ?_ (fun _ => ?_))
      | exact ih0 _ _
      | exact LeO.none _
      | refine LeO.ite ?_ ?_
      | refine LeO.bind ?_ (fun _ => ?_)
-- NOT PRINTED: function 12 (oakumref33_Open)

-- NOT PRINTED: function 27 (volume_set)

-- NOT PRINTED: function 28 (slices_Clone_byte_byte)

-- NOT PRINTED: function 13 (volume_Join)

-- NOT PRINTED: function 15 (oakumref33_Set)

-- NOT PRINTED: function 17 (oakumref33_Which)

-- NOT PRINTED: function 14 (oakumref33_Join)

-- NOT PRINTED: function 16 (volume_Missing)

-- NOT PRINTED: function 4 (oakumlaw33_VolumeJoins)

end Go.Proofs.YtkcgioggnbnfkaaDoor.PVolumeJoins
