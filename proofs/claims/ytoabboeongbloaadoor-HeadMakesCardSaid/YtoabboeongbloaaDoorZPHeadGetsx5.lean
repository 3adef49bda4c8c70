/- Laws that the claim's theorem rests on: out of texts of this session and of the print, less what is not used. -/
import Derived.Test.YtoabboeongbloaaDoorZPHeadGetsx0
-- Written by a program of this session over the print (contracts by hand for the functions that it passes over).
namespace Go.Proofs.YtoabboeongbloaaDoor.PHeadGets
open Go.RowKit Go.Proofs.YtoabboeongbloaaDoorW.PrintWords Go.Proofs.YtoabboeongbloaaDoorW.PrintLast Go.Proofs.YtoabboeongbloaaDoorW.PrintMore
attribute [local go_sem] max2_int min2_int max_two min_two max_three min_three max_four min_four   -- for this text's walks alone
set_option linter.unusedVariables false
set_option linter.unusedSimpArgs false

def text_Blank.l0 : Nat → List Int → Int → Int → Option (Bool)
  | 0, _, _, _ => none
  | k + 1, x5, x6, x7 => if x7 < x6 then (if 0 ≤ x7 then (if x7 < (x5.length : Int) then (if (rd x5 x7) = 0 then (text_Blank.l0 k x5 x6 (wrap64 (x7 + 1))) else (some false)) else (none)) else (none)) else (some true)
def text_Blank.f (k : Nat) (l0 : List Int) : Option (Bool) := text_Blank.l0 k l0 (l0.length : Int) 0
theorem text_Blank.mono_l : ∀ k, (∀ y0 y1 y2, LeO (text_Blank.l0 k y0 y1 y2) (text_Blank.l0 (k + 1) y0 y1 y2))
  | 0 => fun _ _ _ r h => by simp [text_Blank.l0] at h
  | k + 1 => by
    have ih0 := text_Blank.mono_l k
    · intro y0 y1 y2
      unfold text_Blank.l0
      repeat' first
      | (with_reducible exact ih0 _ _ _)
      | (with_reducible exact LeO.refl _)
      | (with_reducible exact LeO.none _)
      | (with_reducible refine LeO.ite ?_ ?_)
      | (with_reducible refine LeO.bind ?_ (fun _ => ?_))
      | exact ih0 _ _ _
      | exact LeO.none _
      | refine LeO.ite ?_ ?_
      | refine LeO.bind ?_ (fun _ => ?_)
theorem text_Blank.mono : ∀ a0 k, LeO (text_Blank.f k a0) (text_Blank.f (k + 1) a0) := by
  intro a0 k
  have ih0 := text_Blank.mono_l k
  unfold text_Blank.f
  repeat' first
      | (with_reducible exact ih0 _ _ _)
      | (with_reducible exact LeO.refl _)
      | (with_reducible exact LeO.none _)
      | (with_reducible refine LeO.ite ?_ ?_)
      | (with_reducible refine LeO.bind ?_ (fun _ => ?_))
      | exact ih0 _ _ _
      | exact LeO.none _
      | refine LeO.ite ?_ ?_
      | refine LeO.bind ?_ (fun _ => ?_)
def head_Zero.f (k : Nat) (l0 : List Int) : Option (Bool) := if (l0.length : Int) = 512 then ((text_Blank.f k l0).bind fun t255 => (some t255)) else (some false)
theorem head_Zero.mono : ∀ a0 k, LeO (head_Zero.f k a0) (head_Zero.f (k + 1) a0) := by
  intro a0 k
  unfold head_Zero.f
  repeat' first
      | (with_reducible exact text_Blank.mono _ _)
      | (with_reducible exact LeO.refl _)
      | (with_reducible exact LeO.none _)
      | (with_reducible refine LeO.ite ?_ ?_)
      | (with_reducible refine LeO.bind ?_ (fun _ => ?_))
      | exact text_Blank.mono _ _
      | exact LeO.none _
      | refine LeO.ite ?_ ?_
      | refine LeO.bind ?_ (fun _ => ?_)
def oakumref02_Blank.l0 : Nat → List Int → Int → Option (Bool)
  | 0, _, _ => none
  | k + 1, x0, x3 => if x3 < (x0.length : Int) then (if 0 ≤ x3 then (if (rd x0 x3) > 0 then (some false) else (oakumref02_Blank.l0 k x0 (wrap64 (x3 + 1)))) else (none)) else (some true)
def oakumref02_Blank.f (k : Nat) (l0 : List Int) : Option (Bool) := oakumref02_Blank.l0 k l0 0
theorem oakumref02_Blank.mono_l : ∀ k, (∀ y0 y1, LeO (oakumref02_Blank.l0 k y0 y1) (oakumref02_Blank.l0 (k + 1) y0 y1))
  | 0 => fun _ _ r h => by simp [oakumref02_Blank.l0] at h
  | k + 1 => by
    have ih0 := oakumref02_Blank.mono_l k
    · intro y0 y1
      unfold oakumref02_Blank.l0
      repeat' first
      | (with_reducible exact ih0 _ _)
      | (with_reducible exact LeO.refl _)
      | (with_reducible exact LeO.none _)
      | (with_reducible refine LeO.ite ?_ ?_)
      | (with_reducible refine LeO.bind ?_ (fun _ => ?_))
      | exact ih0 _ _
      | exact LeO.none _
      | refine LeO.ite ?_ ?_
      | refine LeO.bind ?_ (fun _ => ?_)
theorem oakumref02_Blank.mono : ∀ a0 k, LeO (oakumref02_Blank.f k a0) (oakumref02_Blank.f (k + 1) a0) := by
  intro a0 k
  have ih0 := oakumref02_Blank.mono_l k
  unfold oakumref02_Blank.f
  repeat' first
      | (with_reducible exact ih0 _ _)
      | (with_reducible exact LeO.refl _)
      | (with_reducible exact LeO.none _)
      | (with_reducible refine LeO.ite ?_ ?_)
      | (with_reducible refine LeO.bind ?_ (fun _ => ?_))
      | exact ih0 _ _
      | exact LeO.none _
      | refine LeO.ite ?_ ?_
      | refine LeO.bind ?_ (fun _ => ?_)
-- NOT PRINTED: function 4 (oakumlaw06_HeadGets)

end Go.Proofs.YtoabboeongbloaaDoor.PHeadGets
