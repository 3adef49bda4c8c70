-- Written by a program of this session over the print (contracts by hand for the functions that it passes over).
import Derived.Test.YtoabboeongbloaaDoorProg
import Derived.Below
import Derived.Deep.Draws
import Derived.Deep.AppendLies
import Derived.Maps.AppendAt
import Derived.OwnWalk
import Derived.Laws.BytesArg
import Derived.Laws.MakeOwn
import Derived.Laws.OwnMore
import Derived.Deep.OwnRows
import Derived.Tactics
import Derived.Lib.ConvBytes
import Derived.Laws.Slices
import Derived.WalkKit
import Derived.KernelRfl
import Derived.RowKit3
import Derived.Deep.LoopGhost
import Derived.Deep.QuietTactic
import Derived.BigQuiet
import Derived.WideLaws
import Derived.Deep.DeepCutAuto
import Derived.Deep.CutBlock
import Derived.Deep.RegionHeld3
import Derived.Laws.Rows
import Derived.Lib.AppendStr
import Derived.ArgAppend
import Derived.Laws.IdiomCopy
import Derived.OrdersHeld
import Derived.Laws.BitsLemmas
import Derived.RowKit
import Derived.Test.YtoabboeongbloaaDoorHand
import Derived.Test.YtoabboeongbloaaDoorWWords
import Derived.Test.YtoabboeongbloaaDoorWLast
import Derived.Test.YtoabboeongbloaaDoorWTab
import Derived.Test.YtoabboeongbloaaDoorWFour
import Derived.Test.YtoabboeongbloaaDoorWQPut
import Derived.Test.YtoabboeongbloaaDoorWApart
import Derived.Test.YtoabboeongbloaaDoorWArr
import Derived.Test.YtoabboeongbloaaDoorWZeros
import Derived.Test.YtoabboeongbloaaDoorWFoot
import Derived.Test.YtoabboeongbloaaDoorWKept
import Derived.Test.YtoabboeongbloaaDoorWShare
import Derived.Test.YtoabboeongbloaaDoorWN
import Derived.Test.YtoabboeongbloaaDoorWFootNe
import Derived.Test.YtoabboeongbloaaDoorWAt
import Derived.Test.YtoabboeongbloaaDoorWEqStruct
import Derived.Test.YtoabboeongbloaaDoorWRepsOne
import Derived.Test.YtoabboeongbloaaDoorWInv
import Derived.Test.YtoabboeongbloaaDoorWInvWords
import Derived.Test.YtoabboeongbloaaDoorWGuard
import Derived.Test.YtoabboeongbloaaDoorWNEv
import Derived.Test.YtoabboeongbloaaDoorWMore
import Derived.Test.YtoabboeongbloaaDoorPHeadGetsx
namespace Go.Proofs.YtoabboeongbloaaDoor.PN
open Go.RowKit Go.Proofs.YtoabboeongbloaaDoorW.PrintWords Go.Proofs.YtoabboeongbloaaDoorW.PrintLast Go.Proofs.YtoabboeongbloaaDoorW.PrintMore Go.Proofs.YtoabboeongbloaaDoor.PHeadGets
attribute [local go_sem] max2_int min2_int max_two min_two max_three min_three max_four min_four   -- for this text's walks alone
set_option linter.unusedVariables false
set_option linter.unusedSimpArgs false

theorem info3 : (Tryd.prog.info? 3).map (fun i => (i.zero, i.size, i.bytes)) = some (some (.int .i64 0), 1, 8) := by kernel_rfl
/-! ### num_Wide: function 59 -/
mutual
def num_Wide.j0 : Nat → List Int → Bool → Option (Int × Int)
  | 0, _, _ => none
  | k + 1, x0, x23 => if x23 = true then (some (0, 5)) else (if 0 < (x0.length : Int) then (if (rd x0 0) = 255 then (num_Wide.j1 k x0 255) else (num_Wide.j1 k x0 0)) else (none))
def num_Wide.j1 : Nat → List Int → Int → Option (Int × Int)
  | 0, _, _ => none
  | k + 1, x0, x4 => if x4 = 0 then (num_Wide.j2 k x0 x4 0) else (num_Wide.j2 k x0 x4 18446744073709551615)
def num_Wide.j2 : Nat → List Int → Int → Int → Option (Int × Int)
  | 0, _, _, _ => none
  | k + 1, x0, x4, x5 => if 1 ≤ (x0.length : Int) then (num_Wide.l0 k x4 x5 (x0.drop 1)) else (none)
def num_Wide.l0 : Nat → Int → Int → List Int → Option (Int × Int)
  | 0, _, _, _ => none
  | k + 1, x4, x5, x6 => if (x6.length : Int) > 8 then (if 0 < (x6.length : Int) then (if (rd x6 0) = x4 then (if 1 ≤ (x6.length : Int) then (num_Wide.l0 k x4 x5 (x6.drop 1)) else (none)) else (some (0, 5))) else (none)) else (if (x6.length : Int) = 8 then (if 0 < (x6.length : Int) then (num_Wide.j4 k x5 x6 (((rd x6 0) / 128) != (x4 / 128))) else (none)) else (num_Wide.j4 k x5 x6 false))
def num_Wide.j4 : Nat → Int → List Int → Bool → Option (Int × Int)
  | 0, _, _, _ => none
  | k + 1, x5, x6, x53 => if x53 = true then (some (0, 5)) else (num_Wide.l1 k x5 x6 (x6.length : Int) 0)
def num_Wide.l1 : Nat → Int → List Int → Int → Int → Option (Int × Int)
  | 0, _, _, _, _ => none
  | k + 1, x5, x54, x55, x56 => if x56 < x55 then (if 0 ≤ x56 then (if x56 < (x54.length : Int) then (num_Wide.l1 k (Go.bits .or .u64 (IntKind.u64.wrap (x5 * 256)) (IntKind.u64.wrap (rd x54 x56))) x54 x55 (wrap64 (x56 + 1))) else (none)) else (none)) else (some (wrap64 (x5), 0))
end
def num_Wide.f (k : Nat) (l0 : List Int) : Option (Int × Int) := if (l0.length : Int) < 2 then (num_Wide.j0 k l0 true) else (if 0 < (l0.length : Int) then (if (rd l0 0) = 128 then (num_Wide.j0 k l0 false) else (num_Wide.j0 k l0 ((rd l0 0) != 255))) else (none))
theorem num_Wide.mono_l : ∀ k, (∀ y0 y1, LeO (num_Wide.j0 k y0 y1) (num_Wide.j0 (k + 1) y0 y1)) ∧ (∀ y0 y1, LeO (num_Wide.j1 k y0 y1) (num_Wide.j1 (k + 1) y0 y1)) ∧ (∀ y0 y1 y2, LeO (num_Wide.j2 k y0 y1 y2) (num_Wide.j2 (k + 1) y0 y1 y2)) ∧ (∀ y0 y1 y2, LeO (num_Wide.l0 k y0 y1 y2) (num_Wide.l0 (k + 1) y0 y1 y2)) ∧ (∀ y0 y1 y2, LeO (num_Wide.j4 k y0 y1 y2) (num_Wide.j4 (k + 1) y0 y1 y2)) ∧ (∀ y0 y1 y2 y3, LeO (num_Wide.l1 k y0 y1 y2 y3) (num_Wide.l1 (k + 1) y0 y1 y2 y3))
  | 0 => ⟨fun _ _ r h => by simp [num_Wide.j0] at h, fun _ _ r h => by simp [num_Wide.j1] at h, fun _ _ _ r h => by simp [num_Wide.j2] at h, fun _ _ _ r h => by simp [num_Wide.l0] at h, fun _ _ _ r h => by simp [num_Wide.j4] at h, fun _ _ _ _ r h => by simp [num_Wide.l1] at h⟩
  | k + 1 => by
    obtain ⟨ih0, ih1, ih2, ih3, ih4, ih5⟩ := num_Wide.mono_l k
    refine ⟨?_, ?_, ?_, ?_, ?_, ?_⟩
    · intro y0 y1
      unfold num_Wide.j0
      repeat' first
      | (with_reducible exact ih0 _ _)
      | (with_reducible exact ih1 _ _)
      | (with_reducible exact ih2 _ _ _)
      | (with_reducible exact ih3 _ _ _)
      | (with_reducible exact ih4 _ _ _)
      | (with_reducible exact ih5 _ _ _ _)
      | (with_reducible exact LeO.refl _)
      | (with_reducible exact LeO.none _)
      | (with_reducible refine LeO.ite ?_ ?_)
      | (with_reducible refine LeO.bind ?_ (fun _ => ?_))
      | exact ih0 _ _
      | exact ih1 _ _
      | exact ih2 _ _ _
      | exact ih3 _ _ _
      | exact ih4 _ _ _
      | exact ih5 _ _ _ _
      | exact LeO.none _
      | refine LeO.ite ?_ ?_
      | refine LeO.bind ?_ (fun _ => ?_)
    · intro y0 y1
      unfold num_Wide.j1
      repeat' first
      | (with_reducible exact ih0 _ _)
      | (with_reducible exact ih1 _ _)
      | (with_reducible exact ih2 _ _ _)
      | (with_reducible exact ih3 _ _ _)
      | (with_reducible exact ih4 _ _ _)
      | (with_reducible exact ih5 _ _ _ _)
      | (with_reducible exact LeO.refl _)
      | (with_reducible exact LeO.none _)
      | (with_reducible refine LeO.ite ?_ ?_)
      | (with_reducible refine LeO.bind ?_ (fun _ => ?_))
      | exact ih0 _ _
      | exact ih1 _ _
      | exact ih2 _ _ _
      | exact ih3 _ _ _
      | exact ih4 _ _ _
      | exact ih5 _ _ _ _
      | exact LeO.none _
      | refine LeO.ite ?_ ?_
      | refine LeO.bind ?_ (fun _ => ?_)
    · intro y0 y1 y2
      unfold num_Wide.j2
      repeat' first
      | (with_reducible exact ih0 _ _)
      | (with_reducible exact ih1 _ _)
      | (with_reducible exact ih2 _ _ _)
      | (with_reducible exact ih3 _ _ _)
      | (with_reducible exact ih4 _ _ _)
      | (with_reducible exact ih5 _ _ _ _)
      | (with_reducible exact LeO.refl _)
      | (with_reducible exact LeO.none _)
      | (with_reducible refine LeO.ite ?_ ?_)
      | (with_reducible refine LeO.bind ?_ (fun _ => ?_))
      | exact ih0 _ _
      | exact ih1 _ _
      | exact ih2 _ _ _
      | exact ih3 _ _ _
      | exact ih4 _ _ _
      | exact ih5 _ _ _ _
      | exact LeO.none _
      | refine LeO.ite ?_ ?_
      | refine LeO.bind ?_ (fun _ => ?_)
    · intro y0 y1 y2
      unfold num_Wide.l0
      repeat' first
      | (with_reducible exact ih0 _ _)
      | (with_reducible exact ih1 _ _)
      | (with_reducible exact ih2 _ _ _)
      | (with_reducible exact ih3 _ _ _)
      | (with_reducible exact ih4 _ _ _)
      | (with_reducible exact ih5 _ _ _ _)
      | (with_reducible exact LeO.refl _)
      | (with_reducible exact LeO.none _)
      | (with_reducible refine LeO.ite ?_ ?_)
      | (with_reducible refine LeO.bind ?_ (fun _ => ?_))
      | exact ih0 _ _
      | exact ih1 _ _
      | exact ih2 _ _ _
      | exact ih3 _ _ _
      | exact ih4 _ _ _
      | exact ih5 _ _ _ _
      | exact LeO.none _
      | refine LeO.ite ?_ ?_
      | refine LeO.bind ?_ (fun _ => ?_)
    · intro y0 y1 y2
      unfold num_Wide.j4
      repeat' first
      | (with_reducible exact ih0 _ _)
      | (with_reducible exact ih1 _ _)
      | (with_reducible exact ih2 _ _ _)
      | (with_reducible exact ih3 _ _ _)
      | (with_reducible exact ih4 _ _ _)
      | (with_reducible exact ih5 _ _ _ _)
      | (with_reducible exact LeO.refl _)
      | (with_reducible exact LeO.none _)
      | (with_reducible refine LeO.ite ?_ ?_)
      | (with_reducible refine LeO.bind ?_ (fun _ => ?_))
      | exact ih0 _ _
      | exact ih1 _ _
      | exact ih2 _ _ _
      | exact ih3 _ _ _
      | exact ih4 _ _ _
      | exact ih5 _ _ _ _
      | exact LeO.none _
      | refine LeO.ite ?_ ?_
      | refine LeO.bind ?_ (fun _ => ?_)
    · intro y0 y1 y2 y3
      unfold num_Wide.l1
      repeat' first
      | (with_reducible exact ih0 _ _)
      | (with_reducible exact ih1 _ _)
      | (with_reducible exact ih2 _ _ _)
      | (with_reducible exact ih3 _ _ _)
      | (with_reducible exact ih4 _ _ _)
      | (with_reducible exact ih5 _ _ _ _)
      | (with_reducible exact LeO.refl _)
      | (with_reducible exact LeO.none _)
      | (with_reducible refine LeO.ite ?_ ?_)
      | (with_reducible refine LeO.bind ?_ (fun _ => ?_))
      | exact ih0 _ _
      | exact ih1 _ _
      | exact ih2 _ _ _
      | exact ih3 _ _ _
      | exact ih4 _ _ _
      | exact ih5 _ _ _ _
      | exact LeO.none _
      | refine LeO.ite ?_ ?_
      | refine LeO.bind ?_ (fun _ => ?_)
theorem num_Wide.mono : ∀ a0 k, LeO (num_Wide.f k a0) (num_Wide.f (k + 1) a0) := by
  intro a0 k
  obtain ⟨ih0, ih1, ih2, ih3, ih4, ih5⟩ := num_Wide.mono_l k
  unfold num_Wide.f
  repeat' first
      | (with_reducible exact ih0 _ _)
      | (with_reducible exact ih1 _ _)
      | (with_reducible exact ih2 _ _ _)
      | (with_reducible exact ih3 _ _ _)
      | (with_reducible exact ih4 _ _ _)
      | (with_reducible exact ih5 _ _ _ _)
      | (with_reducible exact LeO.refl _)
      | (with_reducible exact LeO.none _)
      | (with_reducible refine LeO.ite ?_ ?_)
      | (with_reducible refine LeO.bind ?_ (fun _ => ?_))
      | exact ih0 _ _
      | exact ih1 _ _
      | exact ih2 _ _ _
      | exact ih3 _ _ _
      | exact ih4 _ _ _
      | exact ih5 _ _ _ _
      | exact LeO.none _
      | refine LeO.ite ?_ ?_
      | refine LeO.bind ?_ (fun _ => ?_)
set_option maxHeartbeats 8000000 in
set_option maxRecDepth 100000 in
theorem num_Wide.calls (k : Nat) (P0_ : Nat → Prop) (A0 : Option Addr) (c0 : Nat) (l0 : List Int) (r1 : Int) (r2 : Int) (w : World) (hs0 : Kd.V (Kd.int .u8) 5 w w.heap.size (fun k_ => P0_ k_) (.slice A0 l0.length c0) l0) (h : num_Wide.f k l0 = some (r1, r2)) :
    Calls Tryd.prog 59 #[.slice A0 l0.length c0] w fun e w' => e = .returned (.tuple #[.int .i64 r1, .int .u8 r2]) ∧ Below w.heap.size w w' := by
  have HO0 := Aside0.mk (show Kd.V (Kd.int .u8) 5 w w.heap.size (fun k_ => (P0_ k_ ∨ w.heap.size ≤ k_)) (.slice A0 l0.length c0) l0 from Kd.V_mono hs0 (fun k_ hk => .inl hk))
  have HB := Aside0.mk (Below.refl w.heap.size w)
  have H : (if (l0.length : Int) < 2 then (num_Wide.j0 k l0 true) else (if 0 < (l0.length : Int) then (if (rd l0 0) = 128 then (num_Wide.j0 k l0 false) else (num_Wide.j0 k l0 ((rd l0 0) != 255))) else (none))) = some (r1, r2) := h
  clear h
  have HC2 := Aside0.mk H
  clear H
  go_enter Tryd.func59, Tryd.ntmps59
  go_upto_region 1 with (fail)
  go_cut [23] (fun v23 wc => ∃ (kq : Nat) (x23_1 : Bool), v23 = .bool x23_1 ∧ Aside0 (num_Wide.j0 kq l0 x23_1 = some (r1, r2)) ∧ Aside0 (kq ≤ k) ∧ Aside0 (Kd.V (Kd.int .u8) 5 wc w.heap.size (fun k_ => (P0_ k_ ∨ w.heap.size ≤ k_)) (.slice A0 l0.length c0) l0) ∧ Aside0 (Below w.heap.size w wc))
  case first =>
    have H := HC2.out
    clear HC2
    by_cases c3 : (l0.length : Int) < 2
    · rw [if_pos c3] at H
      have c3b0 : decide ((l0.length : Int) < 2) = true := decide_eq_true c3
      have c3b1 : decide (l0.length < 2) = true := decide_eq_true (by omega)
      clear c3
      (first | rw [c3b0] | (simp only [i64_w, i32_w]; rw [c3b0]) | skip)
      have H' := Aside0.mk H
      clear H
      go_wp2
      go_meet
      case rel => exact ⟨_, (true), (by first | rfl | (simp; done) | (simp [*]; done)), H', ⟨by first | omega | exact Nat.le_refl _⟩, ⟨by (with_reducible repeat (first | apply Kd.V_alloc | apply Kd.V_drewN | apply Kd.V_drew)); exact HO0.out⟩, ⟨by repeat (first | (with_reducible first | exact HB.out | apply below_alloc | apply pw_below_drewN | apply below_drew1) | exact HB.out)⟩⟩
    · rw [if_neg c3] at H
      have c3b0 : decide ((l0.length : Int) < 2) = false := decide_eq_false c3
      have c3b1 : decide (l0.length < 2) = false := decide_eq_false (by omega)
      clear c3
      (first | rw [c3b0] | (simp only [i64_w, i32_w]; rw [c3b0]) | skip)
      by_cases c4 : 0 < (l0.length : Int)
      · rw [if_pos c4] at H
        have c4b0 : decide (0 < (l0.length : Int)) = true := decide_eq_true c4
        have c4b1 : decide (0 < l0.length) = true := decide_eq_true (by omega)
        clear c4
        by_cases c5 : (rd l0 0) = 128
        · rw [if_pos c5] at H
          have c5b0 : ((rd l0 0) == 128) = true := beq_iff_eq.mpr c5
          have c5b1 : ((rd l0 0) != 128) = false := bne_eq_false_iff_eq.mpr c5
          clear c5
          have H' := Aside0.mk H
          clear H
          have p234 : 0 ≤ (0 : Int) := (by omega)
          have q234 : 0 < (l0.length : Int) := of_decide_eq_true (by first | (with_reducible assumption) | assumption)
          obtain ⟨ad234, e234, hx234_0⟩ := Kd.at_int (Kd.V_reads' HO0.out).2.2 0 p234 q234
          cases e234
          have qi234 : (0 < l0.length) = True := eq_true (by omega)
          (try rw [show ((0 : Int)).toNat = 0 from rfl] at hx234_0)
          (try rw [Addr.add_zero'] at hx234_0)
          replace p234 := eq_true p234
          replace q234 := eq_true q234
          go_wp2
          go_meet
          case rel => exact ⟨_, (false), (by first | rfl | (simp; done) | (simp [*]; done)), H', ⟨by first | omega | exact Nat.le_refl _⟩, ⟨by (with_reducible repeat (first | apply Kd.V_alloc | apply Kd.V_drewN | apply Kd.V_drew)); exact HO0.out⟩, ⟨by repeat (first | (with_reducible first | exact HB.out | apply below_alloc | apply pw_below_drewN | apply below_drew1) | exact HB.out)⟩⟩
        · rw [if_neg c5] at H
          have c5b0 : ((rd l0 0) == 128) = false := beq_eq_false_iff_ne.mpr c5
          have c5b1 : ((rd l0 0) != 128) = true := bne_iff_ne.mpr c5
          have H' := Aside0.mk H
          clear H
          have p234 : 0 ≤ (0 : Int) := (by omega)
          have q234 : 0 < (l0.length : Int) := of_decide_eq_true (by first | (with_reducible assumption) | assumption)
          obtain ⟨ad234, e234, hx234_0⟩ := Kd.at_int (Kd.V_reads' HO0.out).2.2 0 p234 q234
          cases e234
          have qi234 : (0 < l0.length) = True := eq_true (by omega)
          (try rw [show ((0 : Int)).toNat = 0 from rfl] at hx234_0)
          (try rw [Addr.add_zero'] at hx234_0)
          replace p234 := eq_true p234
          replace q234 := eq_true q234
          have p235 : 0 ≤ (0 : Int) := (by omega)
          have q235 : 0 < (l0.length : Int) := of_decide_eq_true (by first | (with_reducible assumption) | assumption)
          obtain ⟨ad235, e235, hx235_0⟩ := Kd.at_int (Kd.V_reads' HO0.out).2.2 0 p235 q235
          obtain rfl : ad234 = ad235 := (by injection e235)
          have qi235 : (0 < l0.length) = True := eq_true (by omega)
          (try rw [show ((0 : Int)).toNat = 0 from rfl] at hx235_0)
          (try rw [Addr.add_zero'] at hx235_0)
          replace p235 := eq_true p235
          replace q235 := eq_true q235
          go_wp2
          go_meet
          case rel => exact ⟨_, (((rd l0 0) != 255)), (by first | rfl | (simp; done) | (simp [*]; done)), H', ⟨by first | omega | exact Nat.le_refl _⟩, ⟨by (with_reducible repeat (first | apply Kd.V_alloc | apply Kd.V_drewN | apply Kd.V_drew)); exact HO0.out⟩, ⟨by repeat (first | (with_reducible first | exact HB.out | apply below_alloc | apply pw_below_drewN | apply below_drew1) | exact HB.out)⟩⟩
      · rw [if_neg c4] at H
        exact absurd H (by simp)
  case rest =>
    clear HC2
    try clear p2
    try clear q2
    try clear hx2
    try clear qi2
    try clear c3
    try clear c3b0
    try clear c3b1
    try clear c4
    try clear c4b0
    try clear c4b1
    try clear c5
    try clear c5b0
    try clear c5b1
    try clear hx234_0
    try clear hx235_0
    try clear p234
    try clear p235
    try clear q234
    try clear q235
    obtain ⟨kq, x23_1, rfl, HA, HJ1, HO_0, HB⟩ := hcut
    cases kq with
    | zero => exact absurd HA.out (by simp [num_Wide.j0])
    | succ kj1 =>
      have H := HA.out
      clear HA
      simp only [num_Wide.j0] at H
      by_cases c6 : x23_1 = true
      · subst c6
        have H1 : (some (0, 5)) = some (r1, r2) := by rw [if_pos rfl] at H; exact H
        clear H
        have H := H1
        clear H1
        simp only [Option.some.injEq, Prod.mk.injEq] at H
        obtain ⟨rfl, rfl⟩ := H
        go_wp2
        go_ret2
        exact ⟨by first | rfl | (simp [errW_none, errW_some] <;> rfl) | (simp [*, errW_none, errW_some] <;> rfl), by repeat (first | (with_reducible first | exact HB.out | apply below_alloc | apply pw_below_drewN | apply below_drew1) | exact HB.out)⟩
      · replace c6 := Bool.eq_false_iff.mpr c6
        subst c6
        have H1 : (if 0 < (l0.length : Int) then (if (rd l0 0) = 255 then (num_Wide.j1 kj1 l0 255) else (num_Wide.j1 kj1 l0 0)) else (none)) = some (r1, r2) := by rw [if_neg (show ¬ (false = true) by decide)] at H; exact H
        clear H
        have H := H1
        clear H1
        by_cases c7 : 0 < (l0.length : Int)
        · rw [if_pos c7] at H
          have c7b0 : decide (0 < (l0.length : Int)) = true := decide_eq_true c7
          have c7b1 : decide (0 < l0.length) = true := decide_eq_true (by omega)
          clear c7
          have HC8 := Aside0.mk H
          clear H
          have p236 : 0 ≤ (0 : Int) := (by omega)
          have q236 : 0 < (l0.length : Int) := of_decide_eq_true (by first | (with_reducible assumption) | assumption)
          obtain ⟨ad236, e236, hx236_0⟩ := Kd.at_int (Kd.V_reads' HO_0.out).2.2 0 p236 q236
          cases e236
          have qi236 : (0 < l0.length) = True := eq_true (by omega)
          (try rw [show ((0 : Int)).toNat = 0 from rfl] at hx236_0)
          (try rw [Addr.add_zero'] at hx236_0)
          replace p236 := eq_true p236
          replace q236 := eq_true q236
          go_upto_if 27 with (fail)
          go_cut [4] (fun v4 wc => ∃ (kq : Nat) (x4_7 : Int), v4 = .int .u8 x4_7 ∧ Aside0 (num_Wide.j1 kq l0 x4_7 = some (r1, r2)) ∧ Aside0 (kq ≤ kj1) ∧ Aside0 (Kd.V (Kd.int .u8) 5 wc w.heap.size (fun k_ => (P0_ k_ ∨ w.heap.size ≤ k_)) (.slice (some ad236) l0.length c0) l0) ∧ Aside0 (Below w.heap.size w wc))
          case first =>
            have H := HC8.out
            clear HC8
            by_cases c9 : (rd l0 0) = 255
            · rw [if_pos c9] at H
              have c9b0 : ((rd l0 0) == 255) = true := beq_iff_eq.mpr c9
              have c9b1 : ((rd l0 0) != 255) = false := bne_eq_false_iff_eq.mpr c9
              clear c9
              (first | rw [c9b0] | (simp only [i64_w, i32_w]; rw [c9b0]) | skip)
              have H' := Aside0.mk H
              clear H
              go_wp2
              go_meet
              case rel => exact ⟨_, (255), (by first | rfl | (simp; done) | (simp [*]; done)), H', ⟨by have := HJ1.out; first | omega | exact Nat.le_refl _⟩, ⟨by (with_reducible repeat (first | apply Kd.V_alloc | apply Kd.V_drewN | apply Kd.V_drew)); exact HO_0.out⟩, ⟨by repeat (first | (with_reducible first | exact HB.out | apply below_alloc | apply pw_below_drewN | apply below_drew1) | exact HB.out)⟩⟩
            · rw [if_neg c9] at H
              have c9b0 : ((rd l0 0) == 255) = false := beq_eq_false_iff_ne.mpr c9
              have c9b1 : ((rd l0 0) != 255) = true := bne_iff_ne.mpr c9
              (first | rw [c9b0] | (simp only [i64_w, i32_w]; rw [c9b0]) | skip)
              have H' := Aside0.mk H
              clear H
              go_wp2
              go_meet
              case rel => exact ⟨_, (0), (by first | rfl | (simp; done) | (simp [*]; done)), H', ⟨by have := HJ1.out; first | omega | exact Nat.le_refl _⟩, ⟨by (with_reducible repeat (first | apply Kd.V_alloc | apply Kd.V_drewN | apply Kd.V_drew)); exact HO_0.out⟩, ⟨by repeat (first | (with_reducible first | exact HB.out | apply below_alloc | apply pw_below_drewN | apply below_drew1) | exact HB.out)⟩⟩
          case rest =>
            clear HC8
            try clear p2
            try clear q2
            try clear hx2
            try clear qi2
            try clear c3
            try clear c3b0
            try clear c3b1
            try clear c4
            try clear c4b0
            try clear c4b1
            try clear c5
            try clear c5b0
            try clear c5b1
            try clear c6
            try clear c7
            try clear c7b0
            try clear c7b1
            try clear c9
            try clear c9b0
            try clear c9b1
            try clear hx234_0
            try clear hx235_0
            try clear hx236_0
            try clear p2
            try clear p234
            try clear p235
            try clear p236
            try clear q2
            try clear q234
            try clear q235
            try clear q236
            obtain ⟨kq, x4_7, rfl, HA, HJ7, HO_0, HB⟩ := hcut
            cases kq with
            | zero => exact absurd HA.out (by simp [num_Wide.j1])
            | succ kj7 =>
              have H := HA.out
              clear HA
              simp only [num_Wide.j1] at H
              have HC10 := Aside0.mk H
              clear H
              go_upto_if 29 with (fail)
              go_cut [5] (fun v5 wc => ∃ (kq : Nat) (x5_9 : Int), v5 = .int .u64 x5_9 ∧ Aside0 (num_Wide.j2 kq l0 x4_7 x5_9 = some (r1, r2)) ∧ Aside0 (kq ≤ kj7) ∧ Aside0 (Kd.V (Kd.int .u8) 5 wc w.heap.size (fun k_ => (P0_ k_ ∨ w.heap.size ≤ k_)) (.slice (some ad236) l0.length c0) l0) ∧ Aside0 (Below w.heap.size w wc))
              case first =>
                have H := HC10.out
                clear HC10
                by_cases c11 : x4_7 = 0
                · rw [if_pos c11] at H
                  have c11b0 : (x4_7 == 0) = true := beq_iff_eq.mpr c11
                  have c11b1 : (x4_7 != 0) = false := bne_eq_false_iff_eq.mpr c11
                  clear c11
                  (first | rw [c11b0] | (simp only [i64_w, i32_w]; rw [c11b0]) | skip)
                  have H' := Aside0.mk H
                  clear H
                  go_wp2
                  go_meet
                  case rel => exact ⟨_, (0), (by first | rfl | (simp; done) | (simp [*]; done)), H', ⟨by have := HJ1.out; have := HJ7.out; first | omega | exact Nat.le_refl _⟩, ⟨by (with_reducible repeat (first | apply Kd.V_alloc | apply Kd.V_drewN | apply Kd.V_drew)); exact HO_0.out⟩, ⟨by repeat (first | (with_reducible first | exact HB.out | apply below_alloc | apply pw_below_drewN | apply below_drew1) | exact HB.out)⟩⟩
                · rw [if_neg c11] at H
                  have c11b0 : (x4_7 == 0) = false := beq_eq_false_iff_ne.mpr c11
                  have c11b1 : (x4_7 != 0) = true := bne_iff_ne.mpr c11
                  (first | rw [c11b0] | (simp only [i64_w, i32_w]; rw [c11b0]) | skip)
                  have H' := Aside0.mk H
                  clear H
                  go_wp2
                  go_meet
                  case rel => exact ⟨_, (18446744073709551615), (by first | rfl | (simp; done) | (simp [*]; done)), H', ⟨by have := HJ1.out; have := HJ7.out; first | omega | exact Nat.le_refl _⟩, ⟨by (with_reducible repeat (first | apply Kd.V_alloc | apply Kd.V_drewN | apply Kd.V_drew)); exact HO_0.out⟩, ⟨by repeat (first | (with_reducible first | exact HB.out | apply below_alloc | apply pw_below_drewN | apply below_drew1) | exact HB.out)⟩⟩
              case rest =>
                clear HC10
                try clear c1
                try clear p2
                try clear q2
                try clear hx2
                try clear qi2
                try clear c3
                try clear c3b0
                try clear c3b1
                try clear c4
                try clear c4b0
                try clear c4b1
                try clear c5
                try clear c5b0
                try clear c5b1
                try clear c6
                try clear c7
                try clear c7b0
                try clear c7b1
                try clear c9
                try clear c9b0
                try clear c9b1
                try clear c11
                try clear c11b0
                try clear c11b1
                try clear hx234_0
                try clear hx235_0
                try clear hx236_0
                try clear p2
                try clear p234
                try clear p235
                try clear p236
                try clear q2
                try clear q234
                try clear q235
                try clear q236
                obtain ⟨kq, x5_9, rfl, HA, HJ9, HO_0, HB⟩ := hcut
                cases kq with
                | zero => exact absurd HA.out (by simp [num_Wide.j2])
                | succ kj9 =>
                  have H := HA.out
                  clear HA
                  simp only [num_Wide.j2] at H
                  by_cases c12 : 1 ≤ (l0.length : Int)
                  · rw [if_pos c12] at H
                    have c12b0 := eq_true c12
                    have c12b1 : decide (1 ≤ (l0.length : Int)) = true := decide_eq_true c12
                    clear c12
                    obtain ⟨y237, hy237⟩ : ∃ y_ : List Int, y_ = (l0.drop 1) := ⟨_, rfl⟩
                    replace H : (num_Wide.l0 kj9 x4_7 x5_9 y237) = some (r1, r2) := by first | (rw [hy237]; with_reducible exact H) | (have H2_ := (Option.bind_some _ _).symm.trans H; rw [hy237]; with_reducible exact H2_) | (have H2_ := (Option.bind_some _ _).symm.trans H; with_reducible exact H2_) | with_reducible exact H | (rw [hy237]; exact H) | exact H
                    have Ny237 := Aside0.mk hy237
                    clear hy237
                    have H' := Aside0.mk H
                    clear H
                    have q13 : (1 : Int) ≤ ((l0.length : Int) : Int) := of_decide_eq_true (by first | (with_reducible assumption) | assumption)
                    obtain ⟨i013, hi013, _, hsz13, _⟩ := info_parts info5
                    have hroom13 : l0.length ≤ c0 := (Kd.V_reads' HO_0.out).2.1
                    have hC13 : Kd.F (Kd.int .u8) _ _ (some ad236) l0.length l0 := (Kd.V_at (base := w.heap.size) HO_0.out).2.2
                    have hcut13 := cut_from (P := Tryd.prog) 25 5 .i64 Tryd.underlying25 hi013 1 hsz13 (some ad236) l0.length c0 1 (by omega) q13
                    have hr13 := Kd.F_cut (m := (1 : Int).toNat) (c := c0) hC13 (by omega) hroom13
                    obtain ⟨A13, hA13⟩ : ∃ A1, A1 = (if c0 = (1 : Int).toNat then (some ad236) else ((some ad236) : Option Addr).map (·.add ((1 : Int).toNat * 1))) := ⟨_, rfl⟩
                    obtain ⟨c13, hc13⟩ : ∃ c1, c1 = c0 - (1 : Int).toNat := ⟨_, rfl⟩
                    have hy13 : y237.length = l0.length - (1 : Int).toNat := (by rw [Ny237.out, List.length_drop] <;> omega)
                    rw [show (l0).drop (1 : Int).toNat = y237 from Ny237.out.symm] at hr13
                    replace hr13 : Kd.F (Kd.int .u8) _ _ A13 y237.length y237 := (by rw [hA13]; exact hr13)
                    rw [← hy13, ← hA13, ← hc13] at hcut13
                    have HO241 := Aside0.mk (show Kd.V (Kd.int .u8) 5 _ w.heap.size _ (.slice A13 y237.length c13) y237 from Kd.V_mk (by rw [hy13, hc13]; exact Nat.sub_le_sub_right hroom13 _) hr13)
                    have HC241 := Aside0.mk (show y237.length ≤ c13 from by rw [hy13, hc13]; exact Nat.sub_le_sub_right hroom13 _)
                    clear hr13 hC13 hroom13 hi013 hsz13 hc13
                    have KY13 := Aside0.mk hy13
                    have KA13 := Aside0.mk hA13
                    clear hy13 hA13
                    replace q13 := eq_true q13
                    go_wp2
                    go_loopg [6] kj9 (fun kq v6 w' => ∃ (x6_4 : List Int), Aside0 (num_Wide.l0 kq x4_7 x5_9 x6_4 = some (r1, r2)) ∧ Aside0 (kq ≤ kj9) ∧ Aside0 (Kd.V (Kd.int .u8) 5 w' w.heap.size (fun k_ => (P0_ k_ ∨ w.heap.size ≤ k_)) v6 x6_4) ∧ Aside0 (Below w.heap.size w w'))
                    case atStart => exact ⟨(y237), H', ⟨Nat.le_refl _⟩, ⟨by (with_reducible repeat (first | apply Kd.V_alloc | apply Kd.V_drewN | apply Kd.V_drew)); exact HO241.out⟩, ⟨by repeat (first | (with_reducible first | exact HB.out | apply below_alloc | apply pw_below_drewN | apply below_drew1) | exact HB.out)⟩⟩
                    case round =>
                      clear H'
                      try clear c1
                      try clear q1
                      try clear p2
                      try clear q2
                      try clear hx2
                      try clear qi2
                      try clear c3
                      try clear c3b0
                      try clear c3b1
                      try clear c4
                      try clear c4b0
                      try clear c4b1
                      try clear c5
                      try clear c5b0
                      try clear c5b1
                      try clear c6
                      try clear c7
                      try clear c7b0
                      try clear c7b1
                      try clear c9
                      try clear c9b0
                      try clear c9b1
                      try clear c11
                      try clear c11b0
                      try clear c11b1
                      try clear c12
                      try clear c12b0
                      try clear c12b1
                      try clear c13
                      try clear q13
                      try clear hx234_0
                      try clear hx235_0
                      try clear hx236_0
                      try clear p2
                      try clear p234
                      try clear p235
                      try clear p236
                      try clear q13
                      try clear q2
                      try clear q234
                      try clear q235
                      try clear q236
                      obtain ⟨x6_4, HA, HK4, HO_6, HB⟩ := hrel
                      cases gk with
                      | zero => exact absurd HA.out (by simp [num_Wide.l0])
                      | succ k4 =>
                        have H := HA.out
                        clear HA
                        simp only [num_Wide.l0] at H
                        by_cases c14 : (x6_4.length : Int) > 8
                        · rw [if_pos c14] at H
                          have c14b0 : decide (8 < (x6_4.length : Int)) = true := decide_eq_true c14
                          have c14b1 : decide (8 < x6_4.length) = true := decide_eq_true (by omega)
                          clear c14
                          by_cases c15 : 0 < (x6_4.length : Int)
                          · rw [if_pos c15] at H
                            have c15b0 : decide (0 < (x6_4.length : Int)) = true := decide_eq_true c15
                            have c15b1 : decide (0 < x6_4.length) = true := decide_eq_true (by omega)
                            clear c15
                            by_cases c16 : (rd x6_4 0) = x4_7
                            · rw [if_pos c16] at H
                              have c16b0 : ((rd x6_4 0) == x4_7) = true := beq_iff_eq.mpr c16
                              have c16b1 : ((rd x6_4 0) != x4_7) = false := bne_eq_false_iff_eq.mpr c16
                              clear c16
                              by_cases c17 : 1 ≤ (x6_4.length : Int)
                              · rw [if_pos c17] at H
                                have c17b0 := eq_true c17
                                have c17b1 : decide (1 ≤ (x6_4.length : Int)) = true := decide_eq_true c17
                                clear c17
                                obtain ⟨y243, hy243⟩ : ∃ y_ : List Int, y_ = (x6_4.drop 1) := ⟨_, rfl⟩
                                replace H : (num_Wide.l0 k4 x4_7 x5_9 y243) = some (r1, r2) := by first | (rw [hy243]; with_reducible exact H) | (have H2_ := (Option.bind_some _ _).symm.trans H; rw [hy243]; with_reducible exact H2_) | (have H2_ := (Option.bind_some _ _).symm.trans H; with_reducible exact H2_) | with_reducible exact H | (rw [hy243]; exact H) | exact H
                                have Ny243 := Aside0.mk hy243
                                clear hy243
                                have H' := Aside0.mk H
                                clear H
                                obtain ⟨Ao18, co18, eo18⟩ := Kd.V_slice HO_6.out
                                subst eo18
                                have p242 : 0 ≤ (0 : Int) := (by omega)
                                have q242 : 0 < (x6_4.length : Int) := of_decide_eq_true (by first | (with_reducible assumption) | assumption)
                                obtain ⟨ad242, e242, hx242_0⟩ := Kd.at_int (Kd.V_reads' HO_6.out).2.2 0 p242 q242
                                cases e242
                                have qi242 : (0 < x6_4.length) = True := eq_true (by omega)
                                (try rw [show ((0 : Int)).toNat = 0 from rfl] at hx242_0)
                                (try rw [Addr.add_zero'] at hx242_0)
                                replace p242 := eq_true p242
                                replace q242 := eq_true q242
                                have q19 : (1 : Int) ≤ ((x6_4.length : Int) : Int) := of_decide_eq_true (by first | (with_reducible assumption) | assumption)
                                obtain ⟨i019, hi019, _, hsz19, _⟩ := info_parts info5
                                have hroom19 : x6_4.length ≤ co18 := (Kd.V_reads' HO_6.out).2.1
                                have hC19 : Kd.F (Kd.int .u8) _ _ (some ad242) x6_4.length x6_4 := (Kd.V_at (base := w.heap.size) HO_6.out).2.2
                                have hcut19 := cut_from (P := Tryd.prog) 25 5 .i64 Tryd.underlying25 hi019 1 hsz19 (some ad242) x6_4.length co18 1 (by omega) q19
                                have hr19 := Kd.F_cut (m := (1 : Int).toNat) (c := co18) hC19 (by omega) hroom19
                                obtain ⟨A19, hA19⟩ : ∃ A1, A1 = (if co18 = (1 : Int).toNat then (some ad242) else ((some ad242) : Option Addr).map (·.add ((1 : Int).toNat * 1))) := ⟨_, rfl⟩
                                obtain ⟨c19, hc19⟩ : ∃ c1, c1 = co18 - (1 : Int).toNat := ⟨_, rfl⟩
                                have hy19 : y243.length = x6_4.length - (1 : Int).toNat := (by rw [Ny243.out, List.length_drop] <;> omega)
                                rw [show (x6_4).drop (1 : Int).toNat = y243 from Ny243.out.symm] at hr19
                                replace hr19 : Kd.F (Kd.int .u8) _ _ A19 y243.length y243 := (by rw [hA19]; exact hr19)
                                rw [← hy19, ← hA19, ← hc19] at hcut19
                                have HO247 := Aside0.mk (show Kd.V (Kd.int .u8) 5 _ w.heap.size _ (.slice A19 y243.length c19) y243 from Kd.V_mk (by rw [hy19, hc19]; exact Nat.sub_le_sub_right hroom19 _) hr19)
                                have HC247 := Aside0.mk (show y243.length ≤ c19 from by rw [hy19, hc19]; exact Nat.sub_le_sub_right hroom19 _)
                                clear hr19 hC19 hroom19 hi019 hsz19 hc19
                                have KY19 := Aside0.mk hy19
                                have KA19 := Aside0.mk hA19
                                clear hy19 hA19
                                replace q19 := eq_true q19
                                go_wp2
                                go_roundg k4
                                case measure => have := HJ1.out; have := HJ7.out; have := HJ9.out; have := HK4.out; omega
                                case rel => exact ⟨(y243), H', ⟨by have := HJ1.out; have := HJ7.out; have := HJ9.out; have := HK4.out; omega⟩, ⟨by (with_reducible repeat (first | apply Kd.V_alloc | apply Kd.V_drewN | apply Kd.V_drew)); exact HO247.out⟩, ⟨by repeat (first | (with_reducible first | exact HB.out | apply below_alloc | apply pw_below_drewN | apply below_drew1) | exact HB.out)⟩⟩
                              · rw [if_neg c17] at H
                                exact absurd H (by simp)
                            · rw [if_neg c16] at H
                              have c16b0 : ((rd x6_4 0) == x4_7) = false := beq_eq_false_iff_ne.mpr c16
                              have c16b1 : ((rd x6_4 0) != x4_7) = true := bne_iff_ne.mpr c16
                              simp only [Option.some.injEq, Prod.mk.injEq] at H
                              obtain ⟨rfl, rfl⟩ := H
                              obtain ⟨Ao20, co20, eo20⟩ := Kd.V_slice HO_6.out
                              subst eo20
                              have p242 : 0 ≤ (0 : Int) := (by omega)
                              have q242 : 0 < (x6_4.length : Int) := of_decide_eq_true (by first | (with_reducible assumption) | assumption)
                              obtain ⟨ad242, e242, hx242_0⟩ := Kd.at_int (Kd.V_reads' HO_6.out).2.2 0 p242 q242
                              cases e242
                              have qi242 : (0 < x6_4.length) = True := eq_true (by omega)
                              (try rw [show ((0 : Int)).toNat = 0 from rfl] at hx242_0)
                              (try rw [Addr.add_zero'] at hx242_0)
                              replace p242 := eq_true p242
                              replace q242 := eq_true q242
                              go_wp2
                              go_ret2
                              exact ⟨by first | rfl | (simp [errW_none, errW_some] <;> rfl) | (simp [*, errW_none, errW_some] <;> rfl), by repeat (first | (with_reducible first | exact HB.out | apply below_alloc | apply pw_below_drewN | apply below_drew1) | exact HB.out)⟩
                          · rw [if_neg c15] at H
                            exact absurd H (by simp)
                        · rw [if_neg c14] at H
                          have c14b0 : decide (8 < (x6_4.length : Int)) = false := decide_eq_false c14
                          have c14b1 : decide (8 < x6_4.length) = false := decide_eq_false (by omega)
                          clear c14
                          have HC21 := Aside0.mk H
                          clear H
                          obtain ⟨Ao22, co22, eo22⟩ := Kd.V_slice HO_6.out
                          subst eo22
                          go_upto_region 14 with (fail)
                          go_cut [53] (fun v53 wc => ∃ (kq : Nat) (x53_20 : Bool), v53 = .bool x53_20 ∧ Aside0 (num_Wide.j4 kq x5_9 x6_4 x53_20 = some (r1, r2)) ∧ Aside0 (kq ≤ k4) ∧ Aside0 (Kd.V (Kd.int .u8) 5 wc w.heap.size (fun k_ => (P0_ k_ ∨ w.heap.size ≤ k_)) (.slice Ao22 x6_4.length co22) x6_4) ∧ Aside0 (Below w.heap.size w wc))
                          case first =>
                            have H := HC21.out
                            clear HC21
                            by_cases c23 : (x6_4.length : Int) = 8
                            · rw [if_pos c23] at H
                              have c23b0 : ((x6_4.length : Int) == 8) = true := beq_iff_eq.mpr c23
                              have c23b1 : ((x6_4.length : Int) != 8) = false := bne_eq_false_iff_eq.mpr c23
                              clear c23
                              (first | rw [c23b0] | (simp only [i64_w, i32_w]; rw [c23b0]) | skip)
                              by_cases c24 : 0 < (x6_4.length : Int)
                              · rw [if_pos c24] at H
                                have c24b0 : decide (0 < (x6_4.length : Int)) = true := decide_eq_true c24
                                have c24b1 : decide (0 < x6_4.length) = true := decide_eq_true (by omega)
                                clear c24
                                have H' := Aside0.mk H
                                clear H
                                have p248 : 0 ≤ (0 : Int) := (by omega)
                                have q248 : 0 < (x6_4.length : Int) := of_decide_eq_true (by first | (with_reducible assumption) | assumption)
                                obtain ⟨ad248, e248, hx248_0⟩ := Kd.at_int (Kd.V_reads' HO_6.out).2.2 0 p248 q248
                                cases e248
                                have qi248 : (0 < x6_4.length) = True := eq_true (by omega)
                                (try rw [show ((0 : Int)).toNat = 0 from rfl] at hx248_0)
                                (try rw [Addr.add_zero'] at hx248_0)
                                replace p248 := eq_true p248
                                replace q248 := eq_true q248
                                go_wp2
                                go_meet
                                case rel => exact ⟨_, ((((rd x6_4 0) / 128) != (x4_7 / 128))), (by first | rfl | (simp; done) | (simp [*]; done)), H', ⟨by have := HJ1.out; have := HJ7.out; have := HJ9.out; have := HK4.out; first | omega | exact Nat.le_refl _⟩, ⟨by (with_reducible repeat (first | apply Kd.V_alloc | apply Kd.V_drewN | apply Kd.V_drew)); exact HO_6.out⟩, ⟨by repeat (first | (with_reducible first | exact HB.out | apply below_alloc | apply pw_below_drewN | apply below_drew1) | exact HB.out)⟩⟩
                              · rw [if_neg c24] at H
                                exact absurd H (by simp)
                            · rw [if_neg c23] at H
                              have c23b0 : ((x6_4.length : Int) == 8) = false := beq_eq_false_iff_ne.mpr c23
                              have c23b1 : ((x6_4.length : Int) != 8) = true := bne_iff_ne.mpr c23
                              (first | rw [c23b0] | (simp only [i64_w, i32_w]; rw [c23b0]) | skip)
                              have H' := Aside0.mk H
                              clear H
                              go_wp2
                              go_meet
                              case rel => exact ⟨_, (false), (by first | rfl | (simp; done) | (simp [*]; done)), H', ⟨by have := HJ1.out; have := HJ7.out; have := HJ9.out; have := HK4.out; first | omega | exact Nat.le_refl _⟩, ⟨by (with_reducible repeat (first | apply Kd.V_alloc | apply Kd.V_drewN | apply Kd.V_drew)); exact HO_6.out⟩, ⟨by repeat (first | (with_reducible first | exact HB.out | apply below_alloc | apply pw_below_drewN | apply below_drew1) | exact HB.out)⟩⟩
                          case rest =>
                            clear HC21
                            try clear c1
                            try clear q1
                            try clear c2
                            try clear p2
                            try clear q2
                            try clear hx2
                            try clear qi2
                            try clear c3
                            try clear c3b0
                            try clear c3b1
                            try clear c4
                            try clear c4b0
                            try clear c4b1
                            try clear c5
                            try clear c5b0
                            try clear c5b1
                            try clear c6
                            try clear c7
                            try clear c7b0
                            try clear c7b1
                            try clear c9
                            try clear c9b0
                            try clear c9b1
                            try clear c11
                            try clear c11b0
                            try clear c11b1
                            try clear c12
                            try clear c12b0
                            try clear c12b1
                            try clear c13
                            try clear q13
                            try clear c14
                            try clear c14b0
                            try clear c14b1
                            try clear c15
                            try clear c15b0
                            try clear c15b1
                            try clear c16
                            try clear c16b0
                            try clear c16b1
                            try clear c17
                            try clear c17b0
                            try clear c17b1
                            try clear c19
                            try clear q19
                            try clear c23
                            try clear c23b0
                            try clear c23b1
                            try clear p23
                            try clear q23
                            try clear hx23
                            try clear qi23
                            try clear c24
                            try clear c24b0
                            try clear c24b1
                            try clear p24
                            try clear q24
                            try clear hx24
                            try clear qi24
                            try clear hx234_0
                            try clear hx235_0
                            try clear hx236_0
                            try clear hx242_0
                            try clear hx248_0
                            try clear p2
                            try clear p234
                            try clear p235
                            try clear p236
                            try clear p242
                            try clear p248
                            try clear q1
                            try clear q13
                            try clear q19
                            try clear q2
                            try clear q234
                            try clear q235
                            try clear q236
                            try clear q242
                            try clear q248
                            obtain ⟨kq, x53_20, rfl, HA, HJ20, HO_6, HB⟩ := hcut
                            cases kq with
                            | zero => exact absurd HA.out (by simp [num_Wide.j4])
                            | succ kj20 =>
                              have H := HA.out
                              clear HA
                              simp only [num_Wide.j4] at H
                              by_cases c25 : x53_20 = true
                              · subst c25
                                have H1 : (some (0, 5)) = some (r1, r2) := by rw [if_pos rfl] at H; exact H
                                clear H
                                have H := H1
                                clear H1
                                simp only [Option.some.injEq, Prod.mk.injEq] at H
                                obtain ⟨rfl, rfl⟩ := H
                                go_wp2
                                go_ret2
                                exact ⟨by first | rfl | (simp [errW_none, errW_some] <;> rfl) | (simp [*, errW_none, errW_some] <;> rfl), by repeat (first | (with_reducible first | exact HB.out | apply below_alloc | apply pw_below_drewN | apply below_drew1) | exact HB.out)⟩
                              · replace c25 := Bool.eq_false_iff.mpr c25
                                subst c25
                                have H1 : (num_Wide.l1 kj20 x5_9 x6_4 (x6_4.length : Int) 0) = some (r1, r2) := by rw [if_neg (show ¬ (false = true) by decide)] at H; exact H
                                clear H
                                have H := H1
                                clear H1
                                have H' := Aside0.mk H
                                clear H
                                go_wp2
                                go_loopg [5, 56] kj20 (fun kq v5 v56 w' => ∃ (x5_6 : Int) (x56_6 : Int), v5 = .int .u64 x5_6 ∧ v56 = .int .i64 x56_6 ∧ Aside0 (num_Wide.l1 kq x5_6 x6_4 (x6_4.length : Int) x56_6 = some (r1, r2)) ∧ Aside0 (kq ≤ kj20) ∧ Aside0 (Kd.V (Kd.int .u8) 5 w' w.heap.size (fun k_ => (P0_ k_ ∨ w.heap.size ≤ k_)) (.slice Ao22 x6_4.length co22) x6_4) ∧ Aside0 (Below w.heap.size w w'))
                                case atStart => exact ⟨(x5_9), (0), (by first | rfl | (simp; done) | (simp [*]; done)), (by first | rfl | (simp; done) | (simp [*]; done)), H', ⟨Nat.le_refl _⟩, ⟨by (with_reducible repeat (first | apply Kd.V_alloc | apply Kd.V_drewN | apply Kd.V_drew)); exact HO_6.out⟩, ⟨by repeat (first | (with_reducible first | exact HB.out | apply below_alloc | apply pw_below_drewN | apply below_drew1) | exact HB.out)⟩⟩
                                case round =>
                                  clear H'
                                  try clear c1
                                  try clear q1
                                  try clear c2
                                  try clear p2
                                  try clear q2
                                  try clear hx2
                                  try clear qi2
                                  try clear c3
                                  try clear c3b0
                                  try clear c3b1
                                  try clear c4
                                  try clear c4b0
                                  try clear c4b1
                                  try clear c5
                                  try clear c5b0
                                  try clear c5b1
                                  try clear c6
                                  try clear c7
                                  try clear c7b0
                                  try clear c7b1
                                  try clear c9
                                  try clear c9b0
                                  try clear c9b1
                                  try clear c11
                                  try clear c11b0
                                  try clear c11b1
                                  try clear c12
                                  try clear c12b0
                                  try clear c12b1
                                  try clear c13
                                  try clear q13
                                  try clear c14
                                  try clear c14b0
                                  try clear c14b1
                                  try clear c15
                                  try clear c15b0
                                  try clear c15b1
                                  try clear c16
                                  try clear c16b0
                                  try clear c16b1
                                  try clear c17
                                  try clear c17b0
                                  try clear c17b1
                                  try clear c19
                                  try clear q19
                                  try clear c23
                                  try clear c23b0
                                  try clear c23b1
                                  try clear p23
                                  try clear q23
                                  try clear hx23
                                  try clear qi23
                                  try clear c24
                                  try clear c24b0
                                  try clear c24b1
                                  try clear p24
                                  try clear q24
                                  try clear hx24
                                  try clear qi24
                                  try clear c25
                                  try clear hx234_0
                                  try clear hx235_0
                                  try clear hx236_0
                                  try clear hx242_0
                                  try clear hx248_0
                                  try clear p2
                                  try clear p23
                                  try clear p234
                                  try clear p235
                                  try clear p236
                                  try clear p24
                                  try clear p242
                                  try clear p248
                                  try clear q1
                                  try clear q13
                                  try clear q19
                                  try clear q2
                                  try clear q23
                                  try clear q234
                                  try clear q235
                                  try clear q236
                                  try clear q24
                                  try clear q242
                                  try clear q248
                                  obtain ⟨x5_6, x56_6, rfl, rfl, HA, HK6, HO_54, HB⟩ := hrel
                                  cases gk with
                                  | zero => exact absurd HA.out (by simp [num_Wide.l1])
                                  | succ k6 =>
                                    have H := HA.out
                                    clear HA
                                    simp only [num_Wide.l1] at H
                                    by_cases c26 : x56_6 < (x6_4.length : Int)
                                    · rw [if_pos c26] at H
                                      have c26b0 : decide (x56_6 < (x6_4.length : Int)) = true := decide_eq_true c26
                                      clear c26
                                      by_cases c27 : 0 ≤ x56_6
                                      · rw [if_pos c27] at H
                                        have c27b0 : decide (0 ≤ x56_6) = true := decide_eq_true c27
                                        clear c27
                                        by_cases c28 : x56_6 < (x6_4.length : Int)
                                        · rw [if_pos c28] at H
                                          have c28b0 : decide (x56_6 < (x6_4.length : Int)) = true := decide_eq_true c28
                                          clear c28
                                          have H' := Aside0.mk H
                                          clear H
                                          have p249 : 0 ≤ (x56_6 : Int) := of_decide_eq_true (by first | (with_reducible assumption) | assumption)
                                          have q249 : x56_6 < (x6_4.length : Int) := of_decide_eq_true (by first | (with_reducible assumption) | assumption)
                                          obtain ⟨ad249, e249, hx249_0⟩ := Kd.at_int (Kd.V_reads' HO_54.out).2.2 x56_6 p249 q249
                                          cases e249
                                          replace p249 := eq_true p249
                                          replace q249 := eq_true q249
                                          go_wp2
                                          go_roundg k6
                                          case measure => have := HJ1.out; have := HJ7.out; have := HJ9.out; have := HK4.out; have := HJ20.out; have := HK6.out; omega
                                          case rel => exact ⟨(Go.bits .or .u64 (IntKind.u64.wrap (x5_6 * 256)) (IntKind.u64.wrap (rd x6_4 x56_6))), (wrap64 (x56_6 + 1)), (by first | rfl | (simp; done) | (simp [*]; done)), (by first | rfl | (simp; done) | (simp [*]; done)), H', ⟨by have := HJ1.out; have := HJ7.out; have := HJ9.out; have := HK4.out; have := HJ20.out; have := HK6.out; omega⟩, ⟨by (with_reducible repeat (first | apply Kd.V_alloc | apply Kd.V_drewN | apply Kd.V_drew)); exact HO_54.out⟩, ⟨by repeat (first | (with_reducible first | exact HB.out | apply below_alloc | apply pw_below_drewN | apply below_drew1) | exact HB.out)⟩⟩
                                        · rw [if_neg c28] at H
                                          exact absurd H (by simp)
                                      · rw [if_neg c27] at H
                                        exact absurd H (by simp)
                                    · rw [if_neg c26] at H
                                      have c26b0 : decide (x56_6 < (x6_4.length : Int)) = false := decide_eq_false c26
                                      clear c26
                                      simp only [Option.some.injEq, Prod.mk.injEq] at H
                                      obtain ⟨rfl, rfl⟩ := H
                                      go_wp2
                                      go_ret2
                                      exact ⟨by first | rfl | (simp [errW_none, errW_some] <;> rfl) | (simp [*, errW_none, errW_some] <;> rfl), by repeat (first | (with_reducible first | exact HB.out | apply below_alloc | apply pw_below_drewN | apply below_drew1) | exact HB.out)⟩
                  · rw [if_neg c12] at H
                    exact absurd H (by simp)
        · rw [if_neg c7] at H
          exact absurd H (by simp)

/-! ### num_Get: function 42 -/
def num_Get.j0 : Nat → List Int → Bool → Option (Int × Int)
  | 0, _, _ => none
  | k + 1, x0, x12 => if x12 = true then ((num_Wide.f k x0).bind fun bt251 => (some (bt251.1, bt251.2))) else ((num_Octal.f x0).bind fun bt253 => (some (bt253.1, bt253.2)))
def num_Get.f (k : Nat) (l0 : List Int) : Option (Int × Int) := if (l0.length : Int) > 0 then (if 0 < (l0.length : Int) then (num_Get.j0 k l0 (decide ((rd l0 0) ≥ 128))) else (none)) else (num_Get.j0 k l0 false)
theorem num_Get.mono_l : ∀ k, (∀ y0 y1, LeO (num_Get.j0 k y0 y1) (num_Get.j0 (k + 1) y0 y1))
  | 0 => fun _ _ r h => by simp [num_Get.j0] at h
  | k + 1 => by
    have ih0 := num_Get.mono_l k
    · intro y0 y1
      unfold num_Get.j0
      repeat' first
      | (with_reducible exact ih0 _ _)
      | (with_reducible exact num_Wide.mono _ _)
      | (with_reducible exact LeO.refl _)
      | (with_reducible exact LeO.none _)
      | (with_reducible refine LeO.ite ?_ ?_)
      | (with_reducible refine LeO.bind ?_ (fun _ => ?_))
      | exact ih0 _ _
      | exact num_Wide.mono _ _
      | exact LeO.none _
      | refine LeO.ite ?_ ?_
      | refine LeO.bind ?_ (fun _ => ?_)
theorem num_Get.mono : ∀ a0 k, LeO (num_Get.f k a0) (num_Get.f (k + 1) a0) := by
  intro a0 k
  have ih0 := num_Get.mono_l k
  unfold num_Get.f
  repeat' first
      | (with_reducible exact ih0 _ _)
      | (with_reducible exact num_Wide.mono _ _)
      | (with_reducible exact LeO.refl _)
      | (with_reducible exact LeO.none _)
      | (with_reducible refine LeO.ite ?_ ?_)
      | (with_reducible refine LeO.bind ?_ (fun _ => ?_))
      | exact ih0 _ _
      | exact num_Wide.mono _ _
      | exact LeO.none _
      | refine LeO.ite ?_ ?_
      | refine LeO.bind ?_ (fun _ => ?_)
set_option maxHeartbeats 8000000 in
set_option maxRecDepth 100000 in
theorem num_Get.calls (k : Nat) (A0 : Option Addr) (c0 : Nat) (l0 : List Int) (r1 : Int) (r2 : Int) (w : World) (hr0 : Kd.C (Kd.int .u8) w A0 l0.length l0) (hc0 : l0.length ≤ c0) (h : num_Get.f k l0 = some (r1, r2)) :
    Calls Tryd.prog 42 #[.slice A0 l0.length c0] w fun e w' => e = .returned (.tuple #[.int .i64 r1, .int .u8 r2]) ∧ Below w.heap.size w w' := by
  have HR0 := Aside0.mk hr0
  have HC0 := Aside0.mk hc0
  clear hr0 hc0
  have HB := Aside0.mk (Below.refl w.heap.size w)
  have H : (if (l0.length : Int) > 0 then (if 0 < (l0.length : Int) then (num_Get.j0 k l0 (decide ((rd l0 0) ≥ 128))) else (none)) else (num_Get.j0 k l0 false)) = some (r1, r2) := h
  clear h
  have HC2 := Aside0.mk H
  clear H
  go_enter Tryd.func42, Tryd.ntmps42
  go_upto_region 1 with (fail)
  go_cut [12] (fun v12 wc => ∃ (kq : Nat) (x12_1 : Bool), v12 = .bool x12_1 ∧ Aside0 (num_Get.j0 kq l0 x12_1 = some (r1, r2)) ∧ Aside0 (kq ≤ k) ∧ Aside0 (Below w.heap.size w wc))
  case first =>
    have H := HC2.out
    clear HC2
    by_cases c3 : (l0.length : Int) > 0
    · rw [if_pos c3] at H
      have c3b0 : decide (0 < (l0.length : Int)) = true := decide_eq_true c3
      have c3b1 : decide (0 < l0.length) = true := decide_eq_true (by omega)
      clear c3
      (first | rw [c3b0] | (simp only [i64_w, i32_w]; rw [c3b0]) | skip)
      by_cases c4 : 0 < (l0.length : Int)
      · rw [if_pos c4] at H
        have c4b0 : decide (0 < (l0.length : Int)) = true := decide_eq_true c4
        have c4b1 : decide (0 < l0.length) = true := decide_eq_true (by omega)
        clear c4
        have H' := Aside0.mk H
        clear H
        have p250 : 0 ≤ (0 : Int) := (by omega)
        have q250 : 0 < (l0.length : Int) := of_decide_eq_true (by first | (with_reducible assumption) | assumption)
        obtain ⟨ad250, e250, hx250_0⟩ := Kd.at_int HR0.out 0 p250 q250
        cases e250
        have qi250 : (0 < l0.length) = True := eq_true (by omega)
        (try rw [show ((0 : Int)).toNat = 0 from rfl] at hx250_0)
        (try rw [Addr.add_zero'] at hx250_0)
        replace hx250_0 := (HB.out.cell (World.block_lt_of_cell? w _ hx250_0)).trans hx250_0
        replace p250 := eq_true p250
        replace q250 := eq_true q250
        go_wp2
        go_meet
        case rel => exact ⟨_, (decide ((rd l0 0) ≥ 128)), (by first | rfl | (simp; done) | (simp [*]; done)), H', ⟨by first | omega | exact Nat.le_refl _⟩, ⟨by repeat (first | (with_reducible first | exact HB.out | apply below_alloc | apply pw_below_drewN | apply below_drew1) | exact HB.out)⟩⟩
      · rw [if_neg c4] at H
        exact absurd H (by simp)
    · rw [if_neg c3] at H
      have c3b0 : decide (0 < (l0.length : Int)) = false := decide_eq_false c3
      have c3b1 : decide (0 < l0.length) = false := decide_eq_false (by omega)
      clear c3
      (first | rw [c3b0] | (simp only [i64_w, i32_w]; rw [c3b0]) | skip)
      have H' := Aside0.mk H
      clear H
      go_wp2
      go_meet
      case rel => exact ⟨_, (false), (by first | rfl | (simp; done) | (simp [*]; done)), H', ⟨by first | omega | exact Nat.le_refl _⟩, ⟨by repeat (first | (with_reducible first | exact HB.out | apply below_alloc | apply pw_below_drewN | apply below_drew1) | exact HB.out)⟩⟩
  case rest =>
    clear HC2
    try clear p2
    try clear q2
    try clear hx2
    try clear qi2
    try clear c3
    try clear c3b0
    try clear c3b1
    try clear c4
    try clear c4b0
    try clear c4b1
    try clear hx250_0
    try clear p250
    try clear q250
    obtain ⟨kq, x12_1, rfl, HA, HJ1, HB⟩ := hcut
    cases kq with
    | zero => exact absurd HA.out (by simp [num_Get.j0])
    | succ kj1 =>
      have H := HA.out
      clear HA
      simp only [num_Get.j0] at H
      by_cases c5 : x12_1 = true
      · subst c5
        have H1 : ((num_Wide.f kj1 l0).bind fun bt251 => (some (bt251.1, bt251.2))) = some (r1, r2) := by rw [if_pos rfl] at H; exact H
        clear H
        have H := H1
        clear H1
        replace H := Option.bind_eq_some_iff.mp H
        obtain ⟨⟨t251, t252⟩, A60, H⟩ := H
        replace H : (some (t251, t252)) = some (r1, r2) := H
        have A6 := Aside0.mk A60
        clear A60
        simp only [Option.some.injEq, Prod.mk.injEq] at H
        obtain ⟨rfl, rfl⟩ := H
        go_wp2_with (first | ((with_reducible refine gate_callee (f := 59) rfl ?_); refine goesL_ (some 14) rfl rfl Tryd.func59 (by kernel_rfl) rfl #[.slice A0 l0.length c0] rfl (by (try simp only [List.map_toArray, List.map_cons, List.map_nil]); first | done | rfl | (simp only [List.length_drop, List.length_take]; rfl)) ?_; (with_reducible refine (num_Wide.calls kj1 (fun k_ => k_ < w.heap.size) _ _ l0 t251 t252 _ ?side1 A6.out).mono ?_); (case side1 => exact Kd.V_mk HC0.out (Kd.F_below (Kd.C_F (Kd.heap_int .u8) HR0.out) (by repeat (first | (with_reducible first | exact HB.out | apply below_alloc | apply pw_below_drewN | apply below_drew1) | exact HB.out)))); rintro e w7 ⟨rfl, hb⟩; refine ⟨_, rfl, ?_⟩; have n0_ := Aside0.mk (below_step (by repeat (first | (with_reducible first | exact HB.out | apply below_alloc | apply pw_below_drewN | apply below_drew1) | exact HB.out)) hb); clear HB; have HB := n0_; clear n0_; (try clear hb); (try clear hb2); (try clear hk); (try clear hi)))
        go_ret2
        exact ⟨by first | rfl | (simp [errW_none, errW_some] <;> rfl) | (simp [*, errW_none, errW_some] <;> rfl), by repeat (first | (with_reducible first | exact HB.out | apply below_alloc | apply pw_below_drewN | apply below_drew1) | exact HB.out)⟩
      · replace c5 := Bool.eq_false_iff.mpr c5
        subst c5
        have H1 : ((num_Octal.f l0).bind fun bt253 => (some (bt253.1, bt253.2))) = some (r1, r2) := by rw [if_neg (show ¬ (false = true) by decide)] at H; exact H
        clear H
        have H := H1
        clear H1
        replace H := Option.bind_eq_some_iff.mp H
        obtain ⟨⟨t253, t254⟩, A80, H⟩ := H
        replace H : (some (t253, t254)) = some (r1, r2) := H
        have A8 := Aside0.mk A80
        clear A80
        simp only [Option.some.injEq, Prod.mk.injEq] at H
        obtain ⟨rfl, rfl⟩ := H
        go_wp2_with (first | ((with_reducible refine gate_callee (f := 56) rfl ?_); refine goesL_ (some 18) rfl rfl Tryd.func56 (by kernel_rfl) rfl #[.slice A0 l0.length c0] rfl (by (try simp only [List.map_toArray, List.map_cons, List.map_nil]); first | done | rfl | (simp only [List.length_drop, List.length_take]; rfl)) ?_; (with_reducible refine (num_Octal.calls _ _ l0 t253 t254 _ ?side1 ?side2 A8.out).mono ?_); (case side1 => repeat (first | exact (Kd.C_below HR0.out HB.out) | (with_reducible refine Kd.C_alloc ?_ _) | (with_reducible refine Kd.C_drewN ?_ _) | (with_reducible refine Kd.C_drew ?_))); (case side2 => exact HC0.out); rintro e w9 ⟨rfl, hb⟩; refine ⟨_, rfl, ?_⟩; have n0_ := Aside0.mk (below_step (by repeat (first | (with_reducible first | exact HB.out | apply below_alloc | apply pw_below_drewN | apply below_drew1) | exact HB.out)) hb); clear HB; have HB := n0_; clear n0_; (try clear hb); (try clear hb2); (try clear hk); (try clear hi)))
        go_ret2
        exact ⟨by first | rfl | (simp [errW_none, errW_some] <;> rfl) | (simp [*, errW_none, errW_some] <;> rfl), by repeat (first | (with_reducible first | exact HB.out | apply below_alloc | apply pw_below_drewN | apply below_drew1) | exact HB.out)⟩

-- NOT PRINTED: function 18 (head_Number)

/-! ### oakumref06_Which: function 19 -/
def oakumref06_Which.l0 : Nat → Int → List Int → Int → Option (Int)
  | 0, _, _, _ => none
  | k + 1, x0, x3, x4 => if x4 < 7 then (if 0 ≤ x4 then (if x4 < (x3.length : Int) then (if (rd x3 x4) = x0 then (some x4) else (oakumref06_Which.l0 k x0 x3 (wrap64 (x4 + 1)))) else (none)) else (none)) else (some (-1))
def oakumref06_Which.f (k : Nat) (a0 : Int) : Option (Int) := oakumref06_Which.l0 k a0 (([4, 5, 6, 7, 8, 11, 12] : List Int)) 0
theorem oakumref06_Which.mono_l : ∀ k, (∀ y0 y1 y2, LeO (oakumref06_Which.l0 k y0 y1 y2) (oakumref06_Which.l0 (k + 1) y0 y1 y2))
  | 0 => fun _ _ _ r h => by simp [oakumref06_Which.l0] at h
  | k + 1 => by
    have ih0 := oakumref06_Which.mono_l k
    · intro y0 y1 y2
      unfold oakumref06_Which.l0
      repeat' first
      | (with_reducible exact ih0 _ _ _)
      | (with_reducible exact LeO.refl _)
      | (with_reducible exact LeO.none _)
      | (with_reducible refine LeO.ite ?_ ?_)
      | (with_reducible refine LeO.bind ?_ (fun _ => ?_))
      | exact ih0 _ _ _
      | exact LeO.none _
      | refine LeO.ite ?_ ?_
      | refine LeO.bind ?_ (fun _ => ?_)
theorem oakumref06_Which.mono : ∀ a0 k, LeO (oakumref06_Which.f k a0) (oakumref06_Which.f (k + 1) a0) := by
  intro a0 k
  have ih0 := oakumref06_Which.mono_l k
  unfold oakumref06_Which.f
  repeat' first
      | (with_reducible exact ih0 _ _ _)
      | (with_reducible exact LeO.refl _)
      | (with_reducible exact LeO.none _)
      | (with_reducible refine LeO.ite ?_ ?_)
      | (with_reducible refine LeO.bind ?_ (fun _ => ?_))
      | exact ih0 _ _ _
      | exact LeO.none _
      | refine LeO.ite ?_ ?_
      | refine LeO.bind ?_ (fun _ => ?_)
set_option maxHeartbeats 8000000 in
set_option maxRecDepth 100000 in
theorem oakumref06_Which.calls (k : Nat) (a0 : Int) (r : Int) (w : World) (h : oakumref06_Which.f k a0 = some r) :
    Calls Tryd.prog 19 #[.int .i64 a0] w fun e w' => e = .returned (.int .i64 r) ∧ Below w.heap.size w w' := by
  have HB := Aside0.mk (Below.refl w.heap.size w)
  have H : (oakumref06_Which.l0 k a0 (([4, 5, 6, 7, 8, 11, 12] : List Int)) 0) = some r := h
  clear h
  obtain ⟨y259, hy259⟩ : ∃ y_ : List Int, y_ = (([4, 5, 6, 7, 8, 11, 12] : List Int)) := ⟨_, rfl⟩
  replace H : (oakumref06_Which.l0 k a0 y259 0) = some r := by first | (rw [hy259]; with_reducible exact H) | (have H2_ := (Option.bind_some _ _).symm.trans H; rw [hy259]; with_reducible exact H2_) | (have H2_ := (Option.bind_some _ _).symm.trans H; with_reducible exact H2_) | with_reducible exact H | (rw [hy259]; exact H) | exact H
  have Ny259 := Aside0.mk hy259
  clear hy259
  have H' := Aside0.mk H
  clear H
  go_enter Tryd.func19, Tryd.ntmps19
  go_wp2_with (first | ((with_reducible refine gate_dst (N := 5) rfl ?_); refine Kd.R_lit (Kd.int .i64) _ 3 ?hg (N := 5) ?hd (xs := ([4, 5, 6, 7, 8, 11, 12] : List Int)) (inner := [.int .i64 4, .int .i64 5, .int .i64 6, .int .i64 7, .int .i64 8, .int .i64 11, .int .i64 12]) (ok := fun _ => True) (okp := fun _ => True) ?hr ?hp (fun _ hk => hk) trivial (Below.refl _ _) (Nat.le_refl _) (by simp) ?_; (case hd => rfl); (case hg => rfl); (case hr => first | (go_simp; done) | (go_simp; rfl)); (case hp => exact (Reps.one (show Kd.M (Kd.int .i64) _ _ _ 4 [.int .i64 4] from rfl) (Reps.one (show Kd.M (Kd.int .i64) _ _ _ 5 [.int .i64 5] from rfl) (Reps.one (show Kd.M (Kd.int .i64) _ _ _ 6 [.int .i64 6] from rfl) (Reps.one (show Kd.M (Kd.int .i64) _ _ _ 7 [.int .i64 7] from rfl) (Reps.one (show Kd.M (Kd.int .i64) _ _ _ 8 [.int .i64 8] from rfl) (Reps.one (show Kd.M (Kd.int .i64) _ _ _ 11 [.int .i64 11] from rfl) (Reps.one (show Kd.M (Kd.int .i64) _ _ _ 12 [.int .i64 12] from rfl) (Reps.none _ _))))))))); intro v260 w2 ho3 hb hg_ hnew_; clear hg_ hnew_; (first | rw [← Ny259.out] at ho3 | (simp only [Int.reduceToNat] at ho3; rw [← Ny259.out] at ho3)); have n0_ := Aside0.mk (Kd.R_lower ho3 (below_size (by repeat (first | (with_reducible first | exact HB.out | apply below_alloc | apply pw_below_drewN | apply below_drew1) | exact HB.out)))); have n1_ := Aside0.mk (below_step (by repeat (first | (with_reducible first | exact HB.out | apply below_alloc | apply pw_below_drewN | apply below_drew1) | exact HB.out)) hb); clear HB; have HO261 := n0_; have HB := n1_; clear n0_ n1_; clear hb ho3))
  go_loopg [4] k (fun kq v4 w' => ∃ (x4_1 : Int), v4 = .int .i64 x4_1 ∧ Aside0 (oakumref06_Which.l0 kq a0 y259 x4_1 = some r) ∧ Aside0 (kq ≤ k) ∧ Aside0 (Kd.R (Kd.int .i64) 3 w' w.heap.size (fun _ => True) v260 y259) ∧ Aside0 (Below w.heap.size w w'))
  case atStart => exact ⟨(0), (by first | rfl | (simp; done) | (simp [*]; done)), H', ⟨Nat.le_refl _⟩, ⟨by (with_reducible repeat (first | apply Kd.R_alloc | apply Kd.R_drewN | apply Kd.R_drew)); exact HO261.out⟩, ⟨by repeat (first | (with_reducible first | exact HB.out | apply below_alloc | apply pw_below_drewN | apply below_drew1) | exact HB.out)⟩⟩
  case round =>
    clear H'
    try clear c1
    try clear p2
    obtain ⟨x4_1, rfl, HA, HK1, HO_3, HB⟩ := hrel
    cases gk with
    | zero => exact absurd HA.out (by simp [oakumref06_Which.l0])
    | succ k1 =>
      have H := HA.out
      clear HA
      simp only [oakumref06_Which.l0] at H
      by_cases c4 : x4_1 < 7
      · rw [if_pos c4] at H
        have c4b0 : decide (x4_1 < 7) = true := decide_eq_true c4
        clear c4
        by_cases c5 : 0 ≤ x4_1
        · rw [if_pos c5] at H
          have c5b0 : decide (0 ≤ x4_1) = true := decide_eq_true c5
          clear c5
          by_cases c6 : x4_1 < (y259.length : Int)
          · rw [if_pos c6] at H
            have c6b0 : decide (x4_1 < (y259.length : Int)) = true := decide_eq_true c6
            clear c6
            by_cases c7 : (rd y259 x4_1) = a0
            · rw [if_pos c7] at H
              have c7b0 : ((rd y259 x4_1) == a0) = true := beq_iff_eq.mpr c7
              have c7b1 : ((rd y259 x4_1) != a0) = false := bne_eq_false_iff_eq.mpr c7
              clear c7
              obtain rfl := Option.some.inj H
              obtain ⟨Ao8, co8, eo8⟩ := Kd.R_slice HO_3.out
              subst eo8
              have p262 : 0 ≤ (x4_1 : Int) := of_decide_eq_true (by first | (with_reducible assumption) | assumption)
              have q262 : x4_1 < (y259.length : Int) := of_decide_eq_true (by first | (with_reducible assumption) | assumption)
              obtain ⟨ad262, e262, hx262_0⟩ := Kd.at_int (Kd.R_reads' HO_3.out).2.2 x4_1 p262 q262
              cases e262
              replace p262 := eq_true p262
              replace q262 := eq_true q262
              go_wp2
              go_ret
              exact ⟨by first | rfl | (simp [errW_none, errW_some] <;> rfl) | (simp [*, errW_none, errW_some] <;> rfl), by repeat (first | (with_reducible first | exact HB.out | apply below_alloc | apply pw_below_drewN | apply below_drew1) | exact HB.out)⟩
            · rw [if_neg c7] at H
              have c7b0 : ((rd y259 x4_1) == a0) = false := beq_eq_false_iff_ne.mpr c7
              have c7b1 : ((rd y259 x4_1) != a0) = true := bne_iff_ne.mpr c7
              have H' := Aside0.mk H
              clear H
              obtain ⟨Ao9, co9, eo9⟩ := Kd.R_slice HO_3.out
              subst eo9
              have p262 : 0 ≤ (x4_1 : Int) := of_decide_eq_true (by first | (with_reducible assumption) | assumption)
              have q262 : x4_1 < (y259.length : Int) := of_decide_eq_true (by first | (with_reducible assumption) | assumption)
              obtain ⟨ad262, e262, hx262_0⟩ := Kd.at_int (Kd.R_reads' HO_3.out).2.2 x4_1 p262 q262
              cases e262
              replace p262 := eq_true p262
              replace q262 := eq_true q262
              go_wp2
              go_roundg k1
              case measure => have := HK1.out; omega
              case rel => exact ⟨(wrap64 (x4_1 + 1)), (by first | rfl | (simp; done) | (simp [*]; done)), H', ⟨by have := HK1.out; omega⟩, ⟨by (with_reducible repeat (first | apply Kd.R_alloc | apply Kd.R_drewN | apply Kd.R_drew)); exact HO_3.out⟩, ⟨by repeat (first | (with_reducible first | exact HB.out | apply below_alloc | apply pw_below_drewN | apply below_drew1) | exact HB.out)⟩⟩
          · rw [if_neg c6] at H
            exact absurd H (by simp)
        · rw [if_neg c5] at H
          exact absurd H (by simp)
      · rw [if_neg c4] at H
        have c4b0 : decide (x4_1 < 7) = false := decide_eq_false c4
        clear c4
        obtain rfl := Option.some.inj H
        go_wp2
        go_ret
        exact ⟨by first | rfl | (simp [errW_none, errW_some] <;> rfl) | (simp [*, errW_none, errW_some] <;> rfl), by repeat (first | (with_reducible first | exact HB.out | apply below_alloc | apply pw_below_drewN | apply below_drew1) | exact HB.out)⟩

-- NOT PRINTED: function 31 (oakumref06_Numbers)

/-! ### oakumref01_Wide: function 60 -/
mutual
def oakumref01_Wide.j0 : Nat → List Int → Bool → Option (Int × Bool)
  | 0, _, _ => none
  | k + 1, x0, x21 => if x21 = true then (some (0, false)) else (oakumref01_Wide.l0 k x0 0 1)
def oakumref01_Wide.l0 : Nat → List Int → Int → Int → Option (Int × Bool)
  | 0, _, _, _ => none
  | k + 1, x0, x4, x5 => if x5 < (x0.length : Int) then (if 0 ≤ x5 then (if 0 < (x0.length : Int) then (if (rd x0 0) = 255 then (if x4 > 36028797018963967 then (some (0, false)) else (oakumref01_Wide.l0 k x0 (wrap64 ((wrap64 (256 * x4)) + (wrap64 (255 - (wrap64 (rd x0 x5)))))) (wrap64 (x5 + 1)))) else (if x4 > 36028797018963967 then (some (0, false)) else (oakumref01_Wide.l0 k x0 (wrap64 ((wrap64 (256 * x4)) + (wrap64 (rd x0 x5)))) (wrap64 (x5 + 1))))) else (none)) else (none)) else (if 0 < (x0.length : Int) then (if (rd x0 0) = 255 then (some (wrap64 ((wrap64 (-x4)) - 1), true)) else (some (x4, true))) else (none))
end
def oakumref01_Wide.f (k : Nat) (l0 : List Int) : Option (Int × Bool) := if (l0.length : Int) < 2 then (oakumref01_Wide.j0 k l0 true) else (if 0 < (l0.length : Int) then (if (rd l0 0) = 128 then (oakumref01_Wide.j0 k l0 false) else (oakumref01_Wide.j0 k l0 ((rd l0 0) != 255))) else (none))
theorem oakumref01_Wide.mono_l : ∀ k, (∀ y0 y1, LeO (oakumref01_Wide.j0 k y0 y1) (oakumref01_Wide.j0 (k + 1) y0 y1)) ∧ (∀ y0 y1 y2, LeO (oakumref01_Wide.l0 k y0 y1 y2) (oakumref01_Wide.l0 (k + 1) y0 y1 y2))
  | 0 => ⟨fun _ _ r h => by simp [oakumref01_Wide.j0] at h, fun _ _ _ r h => by simp [oakumref01_Wide.l0] at h⟩
  | k + 1 => by
    obtain ⟨ih0, ih1⟩ := oakumref01_Wide.mono_l k
    refine ⟨?_, ?_⟩
    · intro y0 y1
      unfold oakumref01_Wide.j0
      repeat' first
      | (with_reducible exact ih0 _ _)
      | (with_reducible exact ih1 _ _ _)
      | (with_reducible exact LeO.refl _)
      | (with_reducible exact LeO.none _)
      | (with_reducible refine LeO.ite ?_ ?_)
      | (with_reducible refine LeO.bind ?_ (fun _ => ?_))
      | exact ih0 _ _
      | exact ih1 _ _ _
      | exact LeO.none _
      | refine LeO.ite ?_ ?_
      | refine LeO.bind ?_ (fun _ => ?_)
    · intro y0 y1 y2
      unfold oakumref01_Wide.l0
      repeat' first
      | (with_reducible exact ih0 _ _)
      | (with_reducible exact ih1 _ _ _)
      | (with_reducible exact LeO.refl _)
      | (with_reducible exact LeO.none _)
      | (with_reducible refine LeO.ite ?_ ?_)
      | (with_reducible refine LeO.bind ?_ (fun _ => ?_))
      | exact ih0 _ _
      | exact ih1 _ _ _
      | exact LeO.none _
      | refine LeO.ite ?_ ?_
      | refine LeO.bind ?_ (fun _ => ?_)
theorem oakumref01_Wide.mono : ∀ a0 k, LeO (oakumref01_Wide.f k a0) (oakumref01_Wide.f (k + 1) a0) := by
  intro a0 k
  obtain ⟨ih0, ih1⟩ := oakumref01_Wide.mono_l k
  unfold oakumref01_Wide.f
  repeat' first
      | (with_reducible exact ih0 _ _)
      | (with_reducible exact ih1 _ _ _)
      | (with_reducible exact LeO.refl _)
      | (with_reducible exact LeO.none _)
      | (with_reducible refine LeO.ite ?_ ?_)
      | (with_reducible refine LeO.bind ?_ (fun _ => ?_))
      | exact ih0 _ _
      | exact ih1 _ _ _
      | exact LeO.none _
      | refine LeO.ite ?_ ?_
      | refine LeO.bind ?_ (fun _ => ?_)
set_option maxHeartbeats 8000000 in
set_option maxRecDepth 100000 in
theorem oakumref01_Wide.calls (k : Nat) (A0 : Option Addr) (c0 : Nat) (l0 : List Int) (r1 : Int) (r2 : Bool) (w : World) (hr0 : Kd.C (Kd.int .u8) w A0 l0.length l0) (hc0 : l0.length ≤ c0) (h : oakumref01_Wide.f k l0 = some (r1, r2)) :
    Calls Tryd.prog 60 #[.slice A0 l0.length c0] w fun e w' => e = .returned (.tuple #[.int .i64 r1, .bool r2]) ∧ Drawn0 w w' := by
  have HR0 := Aside0.mk hr0
  have HC0 := Aside0.mk hc0
  clear hr0 hc0
  have H : (if (l0.length : Int) < 2 then (oakumref01_Wide.j0 k l0 true) else (if 0 < (l0.length : Int) then (if (rd l0 0) = 128 then (oakumref01_Wide.j0 k l0 false) else (oakumref01_Wide.j0 k l0 ((rd l0 0) != 255))) else (none))) = some (r1, r2) := h
  clear h
  have HC2 := Aside0.mk H
  clear H
  go_enter Tryd.func60, Tryd.ntmps60
  go_upto_region 1 with (fail)
  go_cut [21] (fun v21 wc => ∃ (kq : Nat) (x21_1 : Bool), v21 = .bool x21_1 ∧ Aside0 (oakumref01_Wide.j0 kq l0 x21_1 = some (r1, r2)) ∧ Aside0 (kq ≤ k) ∧ Drawn0 w wc)
  case first =>
    have H := HC2.out
    clear HC2
    by_cases c3 : (l0.length : Int) < 2
    · rw [if_pos c3] at H
      have c3b0 : decide ((l0.length : Int) < 2) = true := decide_eq_true c3
      have c3b1 : decide (l0.length < 2) = true := decide_eq_true (by omega)
      clear c3
      (first | rw [c3b0] | (simp only [i64_w, i32_w]; rw [c3b0]) | skip)
      have H' := Aside0.mk H
      clear H
      go_wp2
      go_meet
      case rel => exact ⟨_, (true), (by first | rfl | (simp; done) | (simp [*]; done)), H', ⟨by first | omega | exact Nat.le_refl _⟩, by repeat (first | exact Drawn0.refl _ | apply Drawn0.step)⟩
    · rw [if_neg c3] at H
      have c3b0 : decide ((l0.length : Int) < 2) = false := decide_eq_false c3
      have c3b1 : decide (l0.length < 2) = false := decide_eq_false (by omega)
      clear c3
      (first | rw [c3b0] | (simp only [i64_w, i32_w]; rw [c3b0]) | skip)
      by_cases c4 : 0 < (l0.length : Int)
      · rw [if_pos c4] at H
        have c4b0 : decide (0 < (l0.length : Int)) = true := decide_eq_true c4
        have c4b1 : decide (0 < l0.length) = true := decide_eq_true (by omega)
        clear c4
        by_cases c5 : (rd l0 0) = 128
        · rw [if_pos c5] at H
          have c5b0 : ((rd l0 0) == 128) = true := beq_iff_eq.mpr c5
          have c5b1 : ((rd l0 0) != 128) = false := bne_eq_false_iff_eq.mpr c5
          clear c5
          have H' := Aside0.mk H
          clear H
          have p269 : 0 ≤ (0 : Int) := (by omega)
          have q269 : 0 < (l0.length : Int) := of_decide_eq_true (by first | (with_reducible assumption) | assumption)
          obtain ⟨ad269, e269, hx269_0⟩ := Kd.at_int HR0.out 0 p269 q269
          cases e269
          have qi269 : (0 < l0.length) = True := eq_true (by omega)
          (try rw [show ((0 : Int)).toNat = 0 from rfl] at hx269_0)
          (try rw [Addr.add_zero'] at hx269_0)
          replace p269 := eq_true p269
          replace q269 := eq_true q269
          go_wp2
          go_meet
          case rel => exact ⟨_, (false), (by first | rfl | (simp; done) | (simp [*]; done)), H', ⟨by first | omega | exact Nat.le_refl _⟩, by repeat (first | exact Drawn0.refl _ | apply Drawn0.step)⟩
        · rw [if_neg c5] at H
          have c5b0 : ((rd l0 0) == 128) = false := beq_eq_false_iff_ne.mpr c5
          have c5b1 : ((rd l0 0) != 128) = true := bne_iff_ne.mpr c5
          have H' := Aside0.mk H
          clear H
          have p269 : 0 ≤ (0 : Int) := (by omega)
          have q269 : 0 < (l0.length : Int) := of_decide_eq_true (by first | (with_reducible assumption) | assumption)
          obtain ⟨ad269, e269, hx269_0⟩ := Kd.at_int HR0.out 0 p269 q269
          cases e269
          have qi269 : (0 < l0.length) = True := eq_true (by omega)
          (try rw [show ((0 : Int)).toNat = 0 from rfl] at hx269_0)
          (try rw [Addr.add_zero'] at hx269_0)
          replace p269 := eq_true p269
          replace q269 := eq_true q269
          have p270 : 0 ≤ (0 : Int) := (by omega)
          have q270 : 0 < (l0.length : Int) := of_decide_eq_true (by first | (with_reducible assumption) | assumption)
          obtain ⟨ad270, e270, hx270_0⟩ := Kd.at_int HR0.out 0 p270 q270
          obtain rfl : ad269 = ad270 := (by injection e270)
          have qi270 : (0 < l0.length) = True := eq_true (by omega)
          (try rw [show ((0 : Int)).toNat = 0 from rfl] at hx270_0)
          (try rw [Addr.add_zero'] at hx270_0)
          replace p270 := eq_true p270
          replace q270 := eq_true q270
          go_wp2
          go_meet
          case rel => exact ⟨_, (((rd l0 0) != 255)), (by first | rfl | (simp; done) | (simp [*]; done)), H', ⟨by first | omega | exact Nat.le_refl _⟩, by repeat (first | exact Drawn0.refl _ | apply Drawn0.step)⟩
      · rw [if_neg c4] at H
        exact absurd H (by simp)
  case rest =>
    clear HC2
    try clear p2
    try clear q2
    try clear hx2
    try clear qi2
    try clear c3
    try clear c3b0
    try clear c3b1
    try clear c4
    try clear c4b0
    try clear c4b1
    try clear c5
    try clear c5b0
    try clear c5b1
    try clear hx269_0
    try clear hx270_0
    try clear p269
    try clear p270
    try clear q269
    try clear q270
    obtain ⟨kq, x21_1, rfl, HA, HJ1, ⟨mc1, rfl⟩⟩ := hcut
    cases kq with
    | zero => exact absurd HA.out (by simp [oakumref01_Wide.j0])
    | succ kj1 =>
      have H := HA.out
      clear HA
      simp only [oakumref01_Wide.j0] at H
      by_cases c6 : x21_1 = true
      · subst c6
        have H1 : (some (0, false)) = some (r1, r2) := by rw [if_pos rfl] at H; exact H
        clear H
        have H := H1
        clear H1
        simp only [Option.some.injEq, Prod.mk.injEq] at H
        obtain ⟨rfl, rfl⟩ := H
        go_wp2
        go_ret2
        exact ⟨by first | rfl | (simp; done) | (simp [*]; done), by repeat (first | exact Drawn0.refl _ | apply Drawn0.step)⟩
      · replace c6 := Bool.eq_false_iff.mpr c6
        subst c6
        have H1 : (oakumref01_Wide.l0 kj1 l0 0 1) = some (r1, r2) := by rw [if_neg (show ¬ (false = true) by decide)] at H; exact H
        clear H
        have H := H1
        clear H1
        have H' := Aside0.mk H
        clear H
        go_wp2
        go_loopg [4, 5] kj1 (fun kq v4 v5 w' => ∃ (x4_2 : Int) (x5_2 : Int), v4 = .int .i64 x4_2 ∧ v5 = .int .i64 x5_2 ∧ Aside0 (oakumref01_Wide.l0 kq l0 x4_2 x5_2 = some (r1, r2)) ∧ Aside0 (kq ≤ kj1) ∧ Drawn0 w w')
        case atStart => exact ⟨(0), (1), (by first | rfl | (simp; done) | (simp [*]; done)), (by first | rfl | (simp; done) | (simp [*]; done)), H', ⟨Nat.le_refl _⟩, by repeat (first | exact Drawn0.refl _ | apply Drawn0.step)⟩
        case round =>
          clear H'
          try clear c1
          try clear p2
          try clear q2
          try clear hx2
          try clear qi2
          try clear c3
          try clear c3b0
          try clear c3b1
          try clear c4
          try clear c4b0
          try clear c4b1
          try clear c5
          try clear c5b0
          try clear c5b1
          try clear c6
          try clear hx269_0
          try clear hx270_0
          try clear p2
          try clear p269
          try clear p270
          try clear q2
          try clear q269
          try clear q270
          obtain ⟨x4_2, x5_2, rfl, rfl, HA, HK2, ⟨m2, rfl⟩⟩ := hrel
          cases gk with
          | zero => exact absurd HA.out (by simp [oakumref01_Wide.l0])
          | succ k2 =>
            have H := HA.out
            clear HA
            simp only [oakumref01_Wide.l0] at H
            by_cases c7 : x5_2 < (l0.length : Int)
            · rw [if_pos c7] at H
              have c7b0 : decide (x5_2 < (l0.length : Int)) = true := decide_eq_true c7
              clear c7
              by_cases c8 : 0 ≤ x5_2
              · rw [if_pos c8] at H
                have c8b0 : decide (0 ≤ x5_2) = true := decide_eq_true c8
                clear c8
                by_cases c9 : 0 < (l0.length : Int)
                · rw [if_pos c9] at H
                  have c9b0 : decide (0 < (l0.length : Int)) = true := decide_eq_true c9
                  have c9b1 : decide (0 < l0.length) = true := decide_eq_true (by omega)
                  clear c9
                  by_cases c10 : (rd l0 0) = 255
                  · rw [if_pos c10] at H
                    have c10b0 : ((rd l0 0) == 255) = true := beq_iff_eq.mpr c10
                    have c10b1 : ((rd l0 0) != 255) = false := bne_eq_false_iff_eq.mpr c10
                    clear c10
                    by_cases c11 : x4_2 > 36028797018963967
                    · rw [if_pos c11] at H
                      have c11b0 : decide (36028797018963967 < x4_2) = true := decide_eq_true c11
                      clear c11
                      simp only [Option.some.injEq, Prod.mk.injEq] at H
                      obtain ⟨rfl, rfl⟩ := H
                      have p272 : 0 ≤ (x5_2 : Int) := of_decide_eq_true (by first | (with_reducible assumption) | assumption)
                      have q272 : x5_2 < (l0.length : Int) := of_decide_eq_true (by first | (with_reducible assumption) | assumption)
                      obtain ⟨ad272, e272, hx272_0⟩ := Kd.at_int HR0.out x5_2 p272 q272
                      cases e272
                      replace p272 := eq_true p272
                      replace q272 := eq_true q272
                      have p273 : 0 ≤ (0 : Int) := (by omega)
                      have q273 : 0 < (l0.length : Int) := of_decide_eq_true (by first | (with_reducible assumption) | assumption)
                      obtain ⟨ad273, e273, hx273_0⟩ := Kd.at_int HR0.out 0 p273 q273
                      obtain rfl : ad272 = ad273 := (by injection e273)
                      have qi273 : (0 < l0.length) = True := eq_true (by omega)
                      (try rw [show ((0 : Int)).toNat = 0 from rfl] at hx273_0)
                      (try rw [Addr.add_zero'] at hx273_0)
                      replace p273 := eq_true p273
                      replace q273 := eq_true q273
                      go_wp2
                      go_ret2
                      exact ⟨by first | rfl | (simp; done) | (simp [*]; done), by repeat (first | exact Drawn0.refl _ | apply Drawn0.step)⟩
                    · rw [if_neg c11] at H
                      have c11b0 : decide (36028797018963967 < x4_2) = false := decide_eq_false c11
                      clear c11
                      have H' := Aside0.mk H
                      clear H
                      have p272 : 0 ≤ (x5_2 : Int) := of_decide_eq_true (by first | (with_reducible assumption) | assumption)
                      have q272 : x5_2 < (l0.length : Int) := of_decide_eq_true (by first | (with_reducible assumption) | assumption)
                      obtain ⟨ad272, e272, hx272_0⟩ := Kd.at_int HR0.out x5_2 p272 q272
                      cases e272
                      replace p272 := eq_true p272
                      replace q272 := eq_true q272
                      have p273 : 0 ≤ (0 : Int) := (by omega)
                      have q273 : 0 < (l0.length : Int) := of_decide_eq_true (by first | (with_reducible assumption) | assumption)
                      obtain ⟨ad273, e273, hx273_0⟩ := Kd.at_int HR0.out 0 p273 q273
                      obtain rfl : ad272 = ad273 := (by injection e273)
                      have qi273 : (0 < l0.length) = True := eq_true (by omega)
                      (try rw [show ((0 : Int)).toNat = 0 from rfl] at hx273_0)
                      (try rw [Addr.add_zero'] at hx273_0)
                      replace p273 := eq_true p273
                      replace q273 := eq_true q273
                      go_wp2
                      go_roundg k2
                      case measure => have := HJ1.out; have := HK2.out; omega
                      case rel => exact ⟨(wrap64 ((wrap64 (256 * x4_2)) + (wrap64 (255 - (wrap64 (rd l0 x5_2)))))), (wrap64 (x5_2 + 1)), (by first | rfl | (simp; done) | (simp [*]; done)), (by first | rfl | (simp; done) | (simp [*]; done)), H', ⟨by have := HJ1.out; have := HK2.out; omega⟩, by repeat (first | exact Drawn0.refl _ | apply Drawn0.step)⟩
                  · rw [if_neg c10] at H
                    have c10b0 : ((rd l0 0) == 255) = false := beq_eq_false_iff_ne.mpr c10
                    have c10b1 : ((rd l0 0) != 255) = true := bne_iff_ne.mpr c10
                    by_cases c12 : x4_2 > 36028797018963967
                    · rw [if_pos c12] at H
                      have c12b0 : decide (36028797018963967 < x4_2) = true := decide_eq_true c12
                      clear c12
                      simp only [Option.some.injEq, Prod.mk.injEq] at H
                      obtain ⟨rfl, rfl⟩ := H
                      have p272 : 0 ≤ (x5_2 : Int) := of_decide_eq_true (by first | (with_reducible assumption) | assumption)
                      have q272 : x5_2 < (l0.length : Int) := of_decide_eq_true (by first | (with_reducible assumption) | assumption)
                      obtain ⟨ad272, e272, hx272_0⟩ := Kd.at_int HR0.out x5_2 p272 q272
                      cases e272
                      replace p272 := eq_true p272
                      replace q272 := eq_true q272
                      have p273 : 0 ≤ (0 : Int) := (by omega)
                      have q273 : 0 < (l0.length : Int) := of_decide_eq_true (by first | (with_reducible assumption) | assumption)
                      obtain ⟨ad273, e273, hx273_0⟩ := Kd.at_int HR0.out 0 p273 q273
                      obtain rfl : ad272 = ad273 := (by injection e273)
                      have qi273 : (0 < l0.length) = True := eq_true (by omega)
                      (try rw [show ((0 : Int)).toNat = 0 from rfl] at hx273_0)
                      (try rw [Addr.add_zero'] at hx273_0)
                      replace p273 := eq_true p273
                      replace q273 := eq_true q273
                      go_wp2
                      go_ret2
                      exact ⟨by first | rfl | (simp; done) | (simp [*]; done), by repeat (first | exact Drawn0.refl _ | apply Drawn0.step)⟩
                    · rw [if_neg c12] at H
                      have c12b0 : decide (36028797018963967 < x4_2) = false := decide_eq_false c12
                      clear c12
                      have H' := Aside0.mk H
                      clear H
                      have p272 : 0 ≤ (x5_2 : Int) := of_decide_eq_true (by first | (with_reducible assumption) | assumption)
                      have q272 : x5_2 < (l0.length : Int) := of_decide_eq_true (by first | (with_reducible assumption) | assumption)
                      obtain ⟨ad272, e272, hx272_0⟩ := Kd.at_int HR0.out x5_2 p272 q272
                      cases e272
                      replace p272 := eq_true p272
                      replace q272 := eq_true q272
                      have p273 : 0 ≤ (0 : Int) := (by omega)
                      have q273 : 0 < (l0.length : Int) := of_decide_eq_true (by first | (with_reducible assumption) | assumption)
                      obtain ⟨ad273, e273, hx273_0⟩ := Kd.at_int HR0.out 0 p273 q273
                      obtain rfl : ad272 = ad273 := (by injection e273)
                      have qi273 : (0 < l0.length) = True := eq_true (by omega)
                      (try rw [show ((0 : Int)).toNat = 0 from rfl] at hx273_0)
                      (try rw [Addr.add_zero'] at hx273_0)
                      replace p273 := eq_true p273
                      replace q273 := eq_true q273
                      go_wp2
                      go_roundg k2
                      case measure => have := HJ1.out; have := HK2.out; omega
                      case rel => exact ⟨(wrap64 ((wrap64 (256 * x4_2)) + (wrap64 (rd l0 x5_2)))), (wrap64 (x5_2 + 1)), (by first | rfl | (simp; done) | (simp [*]; done)), (by first | rfl | (simp; done) | (simp [*]; done)), H', ⟨by have := HJ1.out; have := HK2.out; omega⟩, by repeat (first | exact Drawn0.refl _ | apply Drawn0.step)⟩
                · rw [if_neg c9] at H
                  exact absurd H (by simp)
              · rw [if_neg c8] at H
                exact absurd H (by simp)
            · rw [if_neg c7] at H
              have c7b0 : decide (x5_2 < (l0.length : Int)) = false := decide_eq_false c7
              clear c7
              by_cases c13 : 0 < (l0.length : Int)
              · rw [if_pos c13] at H
                have c13b0 : decide (0 < (l0.length : Int)) = true := decide_eq_true c13
                have c13b1 : decide (0 < l0.length) = true := decide_eq_true (by omega)
                clear c13
                by_cases c14 : (rd l0 0) = 255
                · rw [if_pos c14] at H
                  have c14b0 : ((rd l0 0) == 255) = true := beq_iff_eq.mpr c14
                  have c14b1 : ((rd l0 0) != 255) = false := bne_eq_false_iff_eq.mpr c14
                  clear c14
                  simp only [Option.some.injEq, Prod.mk.injEq] at H
                  obtain ⟨rfl, rfl⟩ := H
                  have p271 : 0 ≤ (0 : Int) := (by omega)
                  have q271 : 0 < (l0.length : Int) := of_decide_eq_true (by first | (with_reducible assumption) | assumption)
                  obtain ⟨ad271, e271, hx271_0⟩ := Kd.at_int HR0.out 0 p271 q271
                  cases e271
                  have qi271 : (0 < l0.length) = True := eq_true (by omega)
                  (try rw [show ((0 : Int)).toNat = 0 from rfl] at hx271_0)
                  (try rw [Addr.add_zero'] at hx271_0)
                  replace p271 := eq_true p271
                  replace q271 := eq_true q271
                  go_wp2
                  go_ret2
                  exact ⟨by first | rfl | (simp; done) | (simp [*]; done), by repeat (first | exact Drawn0.refl _ | apply Drawn0.step)⟩
                · rw [if_neg c14] at H
                  have c14b0 : ((rd l0 0) == 255) = false := beq_eq_false_iff_ne.mpr c14
                  have c14b1 : ((rd l0 0) != 255) = true := bne_iff_ne.mpr c14
                  simp only [Option.some.injEq, Prod.mk.injEq] at H
                  obtain ⟨rfl, rfl⟩ := H
                  have p271 : 0 ≤ (0 : Int) := (by omega)
                  have q271 : 0 < (l0.length : Int) := of_decide_eq_true (by first | (with_reducible assumption) | assumption)
                  obtain ⟨ad271, e271, hx271_0⟩ := Kd.at_int HR0.out 0 p271 q271
                  cases e271
                  have qi271 : (0 < l0.length) = True := eq_true (by omega)
                  (try rw [show ((0 : Int)).toNat = 0 from rfl] at hx271_0)
                  (try rw [Addr.add_zero'] at hx271_0)
                  replace p271 := eq_true p271
                  replace q271 := eq_true q271
                  go_wp2
                  go_ret2
                  exact ⟨by first | rfl | (simp; done) | (simp [*]; done), by repeat (first | exact Drawn0.refl _ | apply Drawn0.step)⟩
              · rw [if_neg c13] at H
                exact absurd H (by simp)

/-! ### oakumref01_Get: function 43 -/
def oakumref01_Get.j0 : Nat → List Int → Bool → Option (Int × Bool)
  | 0, _, _ => none
  | k + 1, x0, x12 => if x12 = true then ((oakumref01_Wide.f k x0).bind fun bt275 => (some (bt275.1, bt275.2))) else ((oakumref01_Octal.f k x0).bind fun bt277 => (some (bt277.1, bt277.2)))
def oakumref01_Get.f (k : Nat) (l0 : List Int) : Option (Int × Bool) := if (l0.length : Int) > 0 then (if 0 < (l0.length : Int) then (oakumref01_Get.j0 k l0 (decide ((rd l0 0) ≥ 128))) else (none)) else (oakumref01_Get.j0 k l0 false)
theorem oakumref01_Get.mono_l : ∀ k, (∀ y0 y1, LeO (oakumref01_Get.j0 k y0 y1) (oakumref01_Get.j0 (k + 1) y0 y1))
  | 0 => fun _ _ r h => by simp [oakumref01_Get.j0] at h
  | k + 1 => by
    have ih0 := oakumref01_Get.mono_l k
    · intro y0 y1
      unfold oakumref01_Get.j0
      repeat' first
      | (with_reducible exact ih0 _ _)
      | (with_reducible exact oakumref01_Octal.mono _ _)
      | (with_reducible exact oakumref01_Wide.mono _ _)
      | (with_reducible exact LeO.refl _)
      | (with_reducible exact LeO.none _)
      | (with_reducible refine LeO.ite ?_ ?_)
      | (with_reducible refine LeO.bind ?_ (fun _ => ?_))
      | exact ih0 _ _
      | exact oakumref01_Octal.mono _ _
      | exact oakumref01_Wide.mono _ _
      | exact LeO.none _
      | refine LeO.ite ?_ ?_
      | refine LeO.bind ?_ (fun _ => ?_)
theorem oakumref01_Get.mono : ∀ a0 k, LeO (oakumref01_Get.f k a0) (oakumref01_Get.f (k + 1) a0) := by
  intro a0 k
  have ih0 := oakumref01_Get.mono_l k
  unfold oakumref01_Get.f
  repeat' first
      | (with_reducible exact ih0 _ _)
      | (with_reducible exact oakumref01_Octal.mono _ _)
      | (with_reducible exact oakumref01_Wide.mono _ _)
      | (with_reducible exact LeO.refl _)
      | (with_reducible exact LeO.none _)
      | (with_reducible refine LeO.ite ?_ ?_)
      | (with_reducible refine LeO.bind ?_ (fun _ => ?_))
      | exact ih0 _ _
      | exact oakumref01_Octal.mono _ _
      | exact oakumref01_Wide.mono _ _
      | exact LeO.none _
      | refine LeO.ite ?_ ?_
      | refine LeO.bind ?_ (fun _ => ?_)
set_option maxHeartbeats 8000000 in
set_option maxRecDepth 100000 in
theorem oakumref01_Get.calls (k : Nat) (A0 : Option Addr) (c0 : Nat) (l0 : List Int) (r1 : Int) (r2 : Bool) (w : World) (hr0 : Kd.C (Kd.int .u8) w A0 l0.length l0) (hc0 : l0.length ≤ c0) (h : oakumref01_Get.f k l0 = some (r1, r2)) :
    Calls Tryd.prog 43 #[.slice A0 l0.length c0] w fun e w' => e = .returned (.tuple #[.int .i64 r1, .bool r2]) ∧ Drawn0 w w' := by
  have HR0 := Aside0.mk hr0
  have HC0 := Aside0.mk hc0
  clear hr0 hc0
  have H : (if (l0.length : Int) > 0 then (if 0 < (l0.length : Int) then (oakumref01_Get.j0 k l0 (decide ((rd l0 0) ≥ 128))) else (none)) else (oakumref01_Get.j0 k l0 false)) = some (r1, r2) := h
  clear h
  have HC2 := Aside0.mk H
  clear H
  go_enter Tryd.func43, Tryd.ntmps43
  go_upto_region 1 with (fail)
  go_cut [12] (fun v12 wc => ∃ (kq : Nat) (x12_1 : Bool), v12 = .bool x12_1 ∧ Aside0 (oakumref01_Get.j0 kq l0 x12_1 = some (r1, r2)) ∧ Aside0 (kq ≤ k) ∧ Drawn0 w wc)
  case first =>
    have H := HC2.out
    clear HC2
    by_cases c3 : (l0.length : Int) > 0
    · rw [if_pos c3] at H
      have c3b0 : decide (0 < (l0.length : Int)) = true := decide_eq_true c3
      have c3b1 : decide (0 < l0.length) = true := decide_eq_true (by omega)
      clear c3
      (first | rw [c3b0] | (simp only [i64_w, i32_w]; rw [c3b0]) | skip)
      by_cases c4 : 0 < (l0.length : Int)
      · rw [if_pos c4] at H
        have c4b0 : decide (0 < (l0.length : Int)) = true := decide_eq_true c4
        have c4b1 : decide (0 < l0.length) = true := decide_eq_true (by omega)
        clear c4
        have H' := Aside0.mk H
        clear H
        have p274 : 0 ≤ (0 : Int) := (by omega)
        have q274 : 0 < (l0.length : Int) := of_decide_eq_true (by first | (with_reducible assumption) | assumption)
        obtain ⟨ad274, e274, hx274_0⟩ := Kd.at_int HR0.out 0 p274 q274
        cases e274
        have qi274 : (0 < l0.length) = True := eq_true (by omega)
        (try rw [show ((0 : Int)).toNat = 0 from rfl] at hx274_0)
        (try rw [Addr.add_zero'] at hx274_0)
        replace p274 := eq_true p274
        replace q274 := eq_true q274
        go_wp2
        go_meet
        case rel => exact ⟨_, (decide ((rd l0 0) ≥ 128)), (by first | rfl | (simp; done) | (simp [*]; done)), H', ⟨by first | omega | exact Nat.le_refl _⟩, by repeat (first | exact Drawn0.refl _ | apply Drawn0.step)⟩
      · rw [if_neg c4] at H
        exact absurd H (by simp)
    · rw [if_neg c3] at H
      have c3b0 : decide (0 < (l0.length : Int)) = false := decide_eq_false c3
      have c3b1 : decide (0 < l0.length) = false := decide_eq_false (by omega)
      clear c3
      (first | rw [c3b0] | (simp only [i64_w, i32_w]; rw [c3b0]) | skip)
      have H' := Aside0.mk H
      clear H
      go_wp2
      go_meet
      case rel => exact ⟨_, (false), (by first | rfl | (simp; done) | (simp [*]; done)), H', ⟨by first | omega | exact Nat.le_refl _⟩, by repeat (first | exact Drawn0.refl _ | apply Drawn0.step)⟩
  case rest =>
    clear HC2
    try clear p2
    try clear q2
    try clear hx2
    try clear qi2
    try clear c3
    try clear c3b0
    try clear c3b1
    try clear c4
    try clear c4b0
    try clear c4b1
    try clear hx274_0
    try clear p274
    try clear q274
    obtain ⟨kq, x12_1, rfl, HA, HJ1, ⟨mc1, rfl⟩⟩ := hcut
    cases kq with
    | zero => exact absurd HA.out (by simp [oakumref01_Get.j0])
    | succ kj1 =>
      have H := HA.out
      clear HA
      simp only [oakumref01_Get.j0] at H
      by_cases c5 : x12_1 = true
      · subst c5
        have H1 : ((oakumref01_Wide.f kj1 l0).bind fun bt275 => (some (bt275.1, bt275.2))) = some (r1, r2) := by rw [if_pos rfl] at H; exact H
        clear H
        have H := H1
        clear H1
        replace H := Option.bind_eq_some_iff.mp H
        obtain ⟨⟨t275, t276⟩, A60, H⟩ := H
        replace H : (some (t275, t276)) = some (r1, r2) := H
        have A6 := Aside0.mk A60
        clear A60
        simp only [Option.some.injEq, Prod.mk.injEq] at H
        obtain ⟨rfl, rfl⟩ := H
        go_wp2_with (first | ((with_reducible refine gate_callee (f := 60) rfl ?_); refine goesL_ (some 14) rfl rfl Tryd.func60 (by kernel_rfl) rfl #[.slice A0 l0.length c0] rfl (by (try simp only [List.map_toArray, List.map_cons, List.map_nil]); first | done | rfl | (simp only [List.length_drop, List.length_take]; rfl)) ?_; (with_reducible refine (oakumref01_Wide.calls kj1 _ _ l0 t275 t276 _ ?side1 ?side2 A6.out).mono ?_); (case side1 => repeat (first | exact HR0.out | (with_reducible refine Kd.C_alloc ?_ _) | (with_reducible refine Kd.C_drewN ?_ _) | (with_reducible refine Kd.C_drew ?_))); (case side2 => exact HC0.out); rintro e w' ⟨rfl, ⟨nd, rfl⟩⟩; refine ⟨_, rfl, ?_⟩))
        go_ret2
        exact ⟨by first | rfl | (simp; done) | (simp [*]; done), by repeat (first | exact Drawn0.refl _ | apply Drawn0.step)⟩
      · replace c5 := Bool.eq_false_iff.mpr c5
        subst c5
        have H1 : ((oakumref01_Octal.f kj1 l0).bind fun bt277 => (some (bt277.1, bt277.2))) = some (r1, r2) := by rw [if_neg (show ¬ (false = true) by decide)] at H; exact H
        clear H
        have H := H1
        clear H1
        replace H := Option.bind_eq_some_iff.mp H
        obtain ⟨⟨t277, t278⟩, A70, H⟩ := H
        replace H : (some (t277, t278)) = some (r1, r2) := H
        have A7 := Aside0.mk A70
        clear A70
        simp only [Option.some.injEq, Prod.mk.injEq] at H
        obtain ⟨rfl, rfl⟩ := H
        go_wp2_with (first | ((with_reducible refine gate_callee (f := 58) rfl ?_); refine goesL_ (some 18) rfl rfl Tryd.func58 (by kernel_rfl) rfl #[.slice A0 l0.length c0] rfl (by (try simp only [List.map_toArray, List.map_cons, List.map_nil]); first | done | rfl | (simp only [List.length_drop, List.length_take]; rfl)) ?_; (with_reducible refine (oakumref01_Octal.calls kj1 _ _ l0 t277 t278 _ ?side1 ?side2 A7.out).mono ?_); (case side1 => repeat (first | exact HR0.out | (with_reducible refine Kd.C_alloc ?_ _) | (with_reducible refine Kd.C_drewN ?_ _) | (with_reducible refine Kd.C_drew ?_))); (case side2 => exact HC0.out); rintro e w' ⟨rfl, ⟨nd, rfl⟩⟩; refine ⟨_, rfl, ?_⟩))
        go_ret2
        exact ⟨by first | rfl | (simp; done) | (simp [*]; done), by repeat (first | exact Drawn0.refl _ | apply Drawn0.step)⟩

-- NOT PRINTED: function 20 (oakumref06_Number)

-- NOT PRINTED: function 5 (oakumlaw06_HeadNumbers)

end Go.Proofs.YtoabboeongbloaaDoor.PN
