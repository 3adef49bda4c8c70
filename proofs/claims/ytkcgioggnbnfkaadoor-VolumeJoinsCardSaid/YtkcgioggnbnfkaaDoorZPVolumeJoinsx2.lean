/- Laws that the claim's theorem rests on: out of texts of this session and of the print, less what is not used. -/
import Derived.Test.YtkcgioggnbnfkaaDoorZPVolumeJoinsx0
-- Written by a program of this session over the print (contracts by hand for the functions that it passes over).
namespace Go.Proofs.YtkcgioggnbnfkaaDoor.PVolumeJoins
open Go.RowKit Go.Proofs.YtkcgioggnbnfkaaDoorW.PrintWords Go.Proofs.YtkcgioggnbnfkaaDoorW.PrintLast Go.Proofs.YtkcgioggnbnfkaaDoorW.PrintMore
attribute [local go_sem] max2_int min2_int max_two min_two max_three min_three max_four min_four   -- for this text's walks alone
set_option linter.unusedVariables false
set_option linter.unusedSimpArgs false

mutual
def num_Wide.j0 : Nat → List Int → Bool → Option (Int × Int)
  | 0, _, _ => none
  | k + 1, x0, x23 => if x23 = true then (some (0, 5)) else (if 0 < (x0.length : Int) then (if (rd x0 0) = 255 then (num_Wide.j1 k x0 255) else (num_Wide.j1 k x0 0)) else (none))
def num_Wide.j1 : Nat → List Int → Int → Option (Int × Int)
  | 0, _, _ => none
  | k + 1, x0, x4 => if x4 = 0 then (num_Wide.j2 k x0 x4 0) else (num_Wide.j2 k x0 x4 18446744073709551615)
def num_Wide.j2 : Nat → List Int → Int → Int → Option (Int × Int)
  | 0, _, _, _ => none
  | k + 1, x0, x4, x5 => if 1 ≤ (x0.length : Int) then (num_Wide.l0 k x4 x5 (x0.drop 1)) else (none)
def num_Wide.l0 : Nat → Int → Int → List Int → Option (Int × Int)
  | 0, _, _, _ => none
  | k + 1, x4, x5, x6 => if (x6.length : Int) > 8 then (if 0 < (x6.length : Int) then (if (rd x6 0) = x4 then (if 1 ≤ (x6.length : Int) then (num_Wide.l0 k x4 x5 (x6.drop 1)) else (none)) else (some (0, 5))) else (none)) else (if (x6.length : Int) = 8 then (if 0 < (x6.length : Int) then (num_Wide.j4 k x5 x6 (((rd x6 0) / 128) != (x4 / 128))) else (none)) else (num_Wide.j4 k x5 x6 false))
def num_Wide.j4 : Nat → Int → List Int → Bool → Option (Int × Int)
  | 0, _, _, _ => none
  | k + 1, x5, x6, x53 => if x53 = true then (some (0, 5)) else (num_Wide.l1 k x5 x6 (x6.length : Int) 0)
def num_Wide.l1 : Nat → Int → List Int → Int → Int → Option (Int × Int)
  | 0, _, _, _, _ => none
  | k + 1, x5, x54, x55, x56 => if x56 < x55 then (if 0 ≤ x56 then (if x56 < (x54.length : Int) then (num_Wide.l1 k (Go.bits .or .u64 (IntKind.u64.wrap (x5 * 256)) (IntKind.u64.wrap (rd x54 x56))) x54 x55 (wrap64 (x56 + 1))) else (none)) else (none)) else (some (wrap64 (x5), 0))
end
def num_Wide.f (k : Nat) (l0 : List Int) : Option (Int × Int) := if (l0.length : Int) < 2 then (num_Wide.j0 k l0 true) else (if 0 < (l0.length : Int) then (if (rd l0 0) = 128 then (num_Wide.j0 k l0 false) else (num_Wide.j0 k l0 ((rd l0 0) != 255))) else (none))
theorem num_Wide.mono_l : ∀ k, (∀ y0 y1, LeO (num_Wide.j0 k y0 y1) (num_Wide.j0 (k + 1) y0 y1)) ∧ (∀ y0 y1, LeO (num_Wide.j1 k y0 y1) (num_Wide.j1 (k + 1) y0 y1)) ∧ (∀ y0 y1 y2, LeO (num_Wide.j2 k y0 y1 y2) (num_Wide.j2 (k + 1) y0 y1 y2)) ∧ (∀ y0 y1 y2, LeO (num_Wide.l0 k y0 y1 y2) (num_Wide.l0 (k + 1) y0 y1 y2)) ∧ (∀ y0 y1 y2, LeO (num_Wide.j4 k y0 y1 y2) (num_Wide.j4 (k + 1) y0 y1 y2)) ∧ (∀ y0 y1 y2 y3, LeO (num_Wide.l1 k y0 y1 y2 y3) (num_Wide.l1 (k + 1) y0 y1 y2 y3))
  | 0 => ⟨fun _ _ r h => by simp [num_Wide.j0] at h, fun _ _ r h => by simp [num_Wide.j1] at h, fun _ _ _ r h => by simp [num_Wide.j2] at h, fun _ _ _ r h => by simp [num_Wide.l0] at h, fun _ _ _ r h => by simp [num_Wide.j4] at h, fun _ _ _ _ r h => by simp [num_Wide.l1] at h⟩
  | k + 1 => by
    obtain ⟨ih0, ih1, ih2, ih3, ih4, ih5⟩ := num_Wide.mono_l k
    refine ⟨?_, ?_, ?_, ?_, ?_, ?_⟩
    · intro y0 y1
      unfold num_Wide.j0
      repeat' first
      | (with_reducible exact ih0 _ _)
      | (with_reducible exact ih1 _ _)
      | (with_reducible exact ih2 _ _ _)
      | (with_reducible exact ih3 _ _ _)
      | (with_reducible exact ih4 _ _ _)
      | (with_reducible exact ih5 _ _ _ _)
      | (with_reducible exact LeO.refl _)
      | (with_reducible exact LeO.none _)
      | (with_reducible refine LeO.ite ?_ ?_)
      | (with_reducible refine LeO.bind ?_ (fun _ => ?_))
      | exact ih0 _ _
      | exact ih1 _ _
      | exact ih2 _ _ _
      | exact ih3 _ _ _
      | exact ih4 _ _ _
      | exact ih5 _ _ _ _
      | exact LeO.none _
      | refine LeO.ite ?_ ?_
      | refine LeO.bind ?_ (fun _ => ?_)
    · intro y0 y1
      unfold num_Wide.j1
      repeat' first
      | (with_reducible exact ih0 _ _)
      | (with_reducible exact ih1 _ _)
      | (with_reducible exact ih2 _ _ _)
      | (with_reducible exact ih3 _ _ _)
      | (with_reducible exact ih4 _ _ _)
      | (with_reducible exact ih5 _ _ _ _)
      | (with_reducible exact LeO.refl _)
      | (with_reducible exact LeO.none _)
      | (with_reducible refine LeO.ite ?_ ?_)
      | (with_reducible refine LeO.bind ?_ (fun _ => ?_))
      | exact ih0 _ _
      | exact ih1 _ _
      | exact ih2 _ _ _
      | exact ih3 _ _ _
      | exact ih4 _ _ _
      | exact ih5 _ _ _ _
      | exact LeO.none _
      | refine LeO.ite ?_ ?_
      | refine LeO.bind ?_ (fun _ => ?_)
    · intro y0 y1 y2
      unfold num_Wide.j2
      repeat' first
      | (with_reducible exact ih0 _ _)
      | (with_reducible exact ih1 _ _)
      | (with_reducible exact ih2 _ _ _)
      | (with_reducible exact ih3 _ _ _)
      | (with_reducible exact ih4 _ _ _)
      | (with_reducible exact ih5 _ _ _ _)
      | (with_reducible exact LeO.refl _)
      | (with_reducible exact LeO.none _)
      | (with_reducible refine LeO.ite ?_ ?_)
      | (with_reducible refine LeO.bind ?_ (fun _ => ?_))
      | exact ih0 _ _
      | exact ih1 _ _
      | exact ih2 _ _ _
      | exact ih3 _ _ _
      | exact ih4 _ _ _
      | exact ih5 _ _ _ _
      | exact LeO.none _
      | refine LeO.ite ?_ ?_
      | refine LeO.bind ?_ (fun _ => ?_)
    · intro y0 y1 y2
      unfold num_Wide.l0
      repeat' first
      | (with_reducible exact ih0 _ _)
      | (with_reducible exact ih1 _ _)
      | (with_reducible exact ih2 _ _ _)
      | (with_reducible exact ih3 _ _ _)
      | (with_reducible exact ih4 _ _ _)
      | (with_reducible exact ih5 _ _ _ _)
      | (with_reducible exact LeO.refl _)
      | (with_reducible exact LeO.none _)
      | (with_reducible refine LeO.ite ?_ ?_)
      | (with_reducible refine LeO.bind ?_ (fun _ => ?_))
      | exact ih0 _ _
      | exact ih1 _ _
      | exact ih2 _ _ _
      | exact ih3 _ _ _
      | exact ih4 _ _ _
      | exact ih5 _ _ _ _
      | exact LeO.none _
      | refine LeO.ite ?_ ?_
      | refine LeO.bind ?_ (fun _ => ?_)
    · intro y0 y1 y2
      unfold num_Wide.j4
      repeat' first
      | (with_reducible exact ih0 _ _)
      | (with_reducible exact ih1 _ _)
      | (with_reducible exact ih2 _ _ _)
      | (with_reducible exact ih3 _ _ _)
      | (with_reducible exact ih4 _ _ _)
      | (with_reducible exact ih5 _ _ _ _)
      | (with_reducible exact LeO.refl _)
      | (with_reducible exact LeO.none _)
      | (with_reducible refine LeO.ite ?_ ?_)
      | (with_reducible refine LeO.bind ?_ (fun _ => ?_))
      | exact ih0 _ _
      | exact ih1 _ _
      | exact ih2 _ _ _
      | exact ih3 _ _ _
      | exact ih4 _ _ _
      | exact ih5 _ _ _ _
      | exact LeO.none _
      | refine LeO.ite ?_ ?_
      | refine LeO.bind ?_ (fun _ => ?_)
    · intro y0 y1 y2 y3
      unfold num_Wide.l1
      repeat' first
      | (with_reducible exact ih0 _ _)
      | (with_reducible exact ih1 _ _)
      | (with_reducible exact ih2 _ _ _)
      | (with_reducible exact ih3 _ _ _)
      | (with_reducible exact ih4 _ _ _)
      | (with_reducible exact ih5 _ _ _ _)
      | (with_reducible exact LeO.refl _)
      | (with_reducible exact LeO.none _)
      | (with_reducible refine LeO.ite ?_ ?_)
      | (with_reducible refine LeO.bind ?_ (fun _ => ?_))
      | exact ih0 _ _
      | exact ih1 _ _
      | exact ih2 _ _ _
      | exact ih3 _ _ _
      | exact ih4 _ _ _
      | exact ih5 _ _ _ _
      | exact LeO.none _
      | refine LeO.ite ?_ ?_
      | refine LeO.bind ?_ (fun _ => ?_)
theorem num_Wide.mono : ∀ a0 k, LeO (num_Wide.f k a0) (num_Wide.f (k + 1) a0) := by
  intro a0 k
  obtain ⟨ih0, ih1, ih2, ih3, ih4, ih5⟩ := num_Wide.mono_l k
  unfold num_Wide.f
  repeat' first
      | (with_reducible exact ih0 _ _)
      | (with_reducible exact ih1 _ _)
      | (with_reducible exact ih2 _ _ _)
      | (with_reducible exact ih3 _ _ _)
      | (with_reducible exact ih4 _ _ _)
      | (with_reducible exact ih5 _ _ _ _)
      | (with_reducible exact LeO.refl _)
      | (with_reducible exact LeO.none _)
      | (with_reducible refine LeO.ite ?_ ?_)
      | (with_reducible refine LeO.bind ?_ (fun _ => ?_))
      | exact ih0 _ _
      | exact ih1 _ _
      | exact ih2 _ _ _
      | exact ih3 _ _ _
      | exact ih4 _ _ _
      | exact ih5 _ _ _ _
      | exact LeO.none _
      | refine LeO.ite ?_ ?_
      | refine LeO.bind ?_ (fun _ => ?_)
set_option maxHeartbeats 8000000 in
set_option maxRecDepth 100000 in
theorem num_Wide.calls (k : Nat) (P0_ : Nat → Prop) (A0 : Option Addr) (c0 : Nat) (l0 : List Int) (r1 : Int) (r2 : Int) (w : World) (hs0 : Kd.V (Kd.int .u8) 5 w w.heap.size (fun k_ => P0_ k_) (.slice A0 l0.length c0) l0) (h : num_Wide.f k l0 = some (r1, r2)) :
    Calls Tryd.prog 50 #[.slice A0 l0.length c0] w fun e w' => e = .returned (.tuple #[.int .i64 r1, .int .u8 r2]) ∧ Below w.heap.size w w' := by
  have HO0 := Aside0.mk (show Kd.V (Kd.int .u8) 5 w w.heap.size (fun k_ => (P0_ k_ ∨ w.heap.size ≤ k_)) (.slice A0 l0.length c0) l0 from Kd.V_mono hs0 (fun k_ hk => .inl hk))
  have HB := Aside0.mk (Below.refl w.heap.size w)
  have H : (if (l0.length : Int) < 2 then (num_Wide.j0 k l0 true) else (if 0 < (l0.length : Int) then (if (rd l0 0) = 128 then (num_Wide.j0 k l0 false) else (num_Wide.j0 k l0 ((rd l0 0) != 255))) else (none))) = some (r1, r2) := h
  clear h
  have HC2 := Aside0.mk H
  clear H
  go_enter Tryd.func50, Tryd.ntmps50
  go_upto_region 1 with (fail)
  go_cut [23] (fun v23 wc => ∃ (kq : Nat) (x23_1 : Bool), v23 = .bool x23_1 ∧ Aside0 (num_Wide.j0 kq l0 x23_1 = some (r1, r2)) ∧ Aside0 (kq ≤ k) ∧ Aside0 (Kd.V (Kd.int .u8) 5 wc w.heap.size (fun k_ => (P0_ k_ ∨ w.heap.size ≤ k_)) (.slice A0 l0.length c0) l0) ∧ Aside0 (Below w.heap.size w wc))
  case first =>
    have H := HC2.out
    clear HC2
    by_cases c3 : (l0.length : Int) < 2
    · rw [if_pos c3] at H
      have c3b0 : decide ((l0.length : Int) < 2) = true := decide_eq_true c3
      have c3b1 : decide (l0.length < 2) = true := decide_eq_true (by omega)
      clear c3
      (first | rw [c3b0] | (simp only [i64_w, i32_w]; rw [c3b0]) | skip)
      have H' := Aside0.mk H
      clear H
      go_wp2
      go_meet
      case rel => exact ⟨_, (true), (by first | rfl | (simp; done) | (simp [*]; done)), H', ⟨by first | omega | exact Nat.le_refl _⟩, ⟨by (with_reducible repeat (first | apply Kd.V_alloc | apply Kd.V_drewN | apply Kd.V_drew)); exact HO0.out⟩, ⟨by repeat (first | (with_reducible first | exact HB.out | apply below_alloc | apply pw_below_drewN | apply below_drew1) | exact HB.out)⟩⟩
    · rw [if_neg c3] at H
      have c3b0 : decide ((l0.length : Int) < 2) = false := decide_eq_false c3
      have c3b1 : decide (l0.length < 2) = false := decide_eq_false (by omega)
      clear c3
      (first | rw [c3b0] | (simp only [i64_w, i32_w]; rw [c3b0]) | skip)
      by_cases c4 : 0 < (l0.length : Int)
      · rw [if_pos c4] at H
        have c4b0 : decide (0 < (l0.length : Int)) = true := decide_eq_true c4
        have c4b1 : decide (0 < l0.length) = true := decide_eq_true (by omega)
        clear c4
        by_cases c5 : (rd l0 0) = 128
        · rw [if_pos c5] at H
          have c5b0 : ((rd l0 0) == 128) = true := beq_iff_eq.mpr c5
          have c5b1 : ((rd l0 0) != 128) = false := bne_eq_false_iff_eq.mpr c5
          clear c5
          have H' := Aside0.mk H
          clear H
          have p131 : 0 ≤ (0 : Int) := (by omega)
          have q131 : 0 < (l0.length : Int) := of_decide_eq_true (by first | (with_reducible assumption) | assumption)
          obtain ⟨ad131, e131, hx131_0⟩ := Kd.at_int (Kd.V_reads' HO0.out).2.2 0 p131 q131
          cases e131
          have qi131 : (0 < l0.length) = True := eq_true (by omega)
          (try rw [show ((0 : Int)).toNat = 0 from rfl] at hx131_0)
          (try rw [Addr.add_zero'] at hx131_0)
          replace p131 := eq_true p131
          replace q131 := eq_true q131
          go_wp2
          go_meet
          case rel => exact ⟨_, (false), (by first | rfl | (simp; done) | (simp [*]; done)), H', ⟨by first | omega | exact Nat.le_refl _⟩, ⟨by (with_reducible repeat (first | apply Kd.V_alloc | apply Kd.V_drewN | apply Kd.V_drew)); exact HO0.out⟩, ⟨by repeat (first | (with_reducible first | exact HB.out | apply below_alloc | apply pw_below_drewN | apply below_drew1) | exact HB.out)⟩⟩
        · rw [if_neg c5] at H
          have c5b0 : ((rd l0 0) == 128) = false := beq_eq_false_iff_ne.mpr c5
          have c5b1 : ((rd l0 0) != 128) = true := bne_iff_ne.mpr c5
          have H' := Aside0.mk H
          clear H
          have p131 : 0 ≤ (0 : Int) := (by omega)
          have q131 : 0 < (l0.length : Int) := of_decide_eq_true (by first | (with_reducible assumption) | assumption)
          obtain ⟨ad131, e131, hx131_0⟩ := Kd.at_int (Kd.V_reads' HO0.out).2.2 0 p131 q131
          cases e131
          have qi131 : (0 < l0.length) = True := eq_true (by omega)
          (try rw [show ((0 : Int)).toNat = 0 from rfl] at hx131_0)
          (try rw [Addr.add_zero'] at hx131_0)
          replace p131 := eq_true p131
          replace q131 := eq_true q131
          have p132 : 0 ≤ (0 : Int) := (by omega)
          have q132 : 0 < (l0.length : Int) := of_decide_eq_true (by first | (with_reducible assumption) | assumption)
          obtain ⟨ad132, e132, hx132_0⟩ := Kd.at_int (Kd.V_reads' HO0.out).2.2 0 p132 q132
          obtain rfl : ad131 = ad132 := (by injection e132)
          have qi132 : (0 < l0.length) = True := eq_true (by omega)
          (try rw [show ((0 : Int)).toNat = 0 from rfl] at hx132_0)
          (try rw [Addr.add_zero'] at hx132_0)
          replace p132 := eq_true p132
          replace q132 := eq_true q132
          go_wp2
          go_meet
          case rel => exact ⟨_, (((rd l0 0) != 255)), (by first | rfl | (simp; done) | (simp [*]; done)), H', ⟨by first | omega | exact Nat.le_refl _⟩, ⟨by (with_reducible repeat (first | apply Kd.V_alloc | apply Kd.V_drewN | apply Kd.V_drew)); exact HO0.out⟩, ⟨by repeat (first | (with_reducible first | exact HB.out | apply below_alloc | apply pw_below_drewN | apply below_drew1) | exact HB.out)⟩⟩
      · rw [if_neg c4] at H
        exact absurd H (by simp)
  case rest =>
    clear HC2
    try clear p1
    try clear q1
    try clear hx1
    try clear qi1
    try clear p2
    try clear c3
    try clear c3b0
    try clear c3b1
    try clear c4
    try clear c4b0
    try clear c4b1
    try clear c5
    try clear c5b0
    try clear c5b1
    try clear hx131_0
    try clear hx132_0
    try clear p131
    try clear p132
    try clear q131
    try clear q132
    obtain ⟨kq, x23_1, rfl, HA, HJ1, HO_0, HB⟩ := hcut
    cases kq with
    | zero => exact absurd HA.out (by simp [num_Wide.j0])
    | succ kj1 =>
      have H := HA.out
      clear HA
      simp only [num_Wide.j0] at H
      by_cases c6 : x23_1 = true
      · subst c6
        have H1 : (some (0, 5)) = some (r1, r2) := by rw [if_pos rfl] at H; exact H
        clear H
        have H := H1
        clear H1
        simp only [Option.some.injEq, Prod.mk.injEq] at H
        obtain ⟨rfl, rfl⟩ := H
        go_wp2
        go_ret2
        exact ⟨by first | rfl | (simp [errW_none, errW_some] <;> rfl) | (simp [*, errW_none, errW_some] <;> rfl), by repeat (first | (with_reducible first | exact HB.out | apply below_alloc | apply pw_below_drewN | apply below_drew1) | exact HB.out)⟩
      · replace c6 := Bool.eq_false_iff.mpr c6
        subst c6
        have H1 : (if 0 < (l0.length : Int) then (if (rd l0 0) = 255 then (num_Wide.j1 kj1 l0 255) else (num_Wide.j1 kj1 l0 0)) else (none)) = some (r1, r2) := by rw [if_neg (show ¬ (false = true) by decide)] at H; exact H
        clear H
        have H := H1
        clear H1
        by_cases c7 : 0 < (l0.length : Int)
        · rw [if_pos c7] at H
          have c7b0 : decide (0 < (l0.length : Int)) = true := decide_eq_true c7
          have c7b1 : decide (0 < l0.length) = true := decide_eq_true (by omega)
          clear c7
          have HC8 := Aside0.mk H
          clear H
          have p133 : 0 ≤ (0 : Int) := (by omega)
          have q133 : 0 < (l0.length : Int) := of_decide_eq_true (by first | (with_reducible assumption) | assumption)
          obtain ⟨ad133, e133, hx133_0⟩ := Kd.at_int (Kd.V_reads' HO_0.out).2.2 0 p133 q133
          cases e133
          have qi133 : (0 < l0.length) = True := eq_true (by omega)
          (try rw [show ((0 : Int)).toNat = 0 from rfl] at hx133_0)
          (try rw [Addr.add_zero'] at hx133_0)
          replace p133 := eq_true p133
          replace q133 := eq_true q133
          go_upto_if 27 with (fail)
          go_cut [4] (fun v4 wc => ∃ (kq : Nat) (x4_7 : Int), v4 = .int .u8 x4_7 ∧ Aside0 (num_Wide.j1 kq l0 x4_7 = some (r1, r2)) ∧ Aside0 (kq ≤ kj1) ∧ Aside0 (Kd.V (Kd.int .u8) 5 wc w.heap.size (fun k_ => (P0_ k_ ∨ w.heap.size ≤ k_)) (.slice (some ad133) l0.length c0) l0) ∧ Aside0 (Below w.heap.size w wc))
          case first =>
            have H := HC8.out
            clear HC8
            by_cases c9 : (rd l0 0) = 255
            · rw [if_pos c9] at H
              have c9b0 : ((rd l0 0) == 255) = true := beq_iff_eq.mpr c9
              have c9b1 : ((rd l0 0) != 255) = false := bne_eq_false_iff_eq.mpr c9
              clear c9
              (first | rw [c9b0] | (simp only [i64_w, i32_w]; rw [c9b0]) | skip)
              have H' := Aside0.mk H
              clear H
              go_wp2
              go_meet
              case rel => exact ⟨_, (255), (by first | rfl | (simp; done) | (simp [*]; done)), H', ⟨by have := HJ1.out; first | omega | exact Nat.le_refl _⟩, ⟨by (with_reducible repeat (first | apply Kd.V_alloc | apply Kd.V_drewN | apply Kd.V_drew)); exact HO_0.out⟩, ⟨by repeat (first | (with_reducible first | exact HB.out | apply below_alloc | apply pw_below_drewN | apply below_drew1) | exact HB.out)⟩⟩
            · rw [if_neg c9] at H
              have c9b0 : ((rd l0 0) == 255) = false := beq_eq_false_iff_ne.mpr c9
              have c9b1 : ((rd l0 0) != 255) = true := bne_iff_ne.mpr c9
              (first | rw [c9b0] | (simp only [i64_w, i32_w]; rw [c9b0]) | skip)
              have H' := Aside0.mk H
              clear H
              go_wp2
              go_meet
              case rel => exact ⟨_, (0), (by first | rfl | (simp; done) | (simp [*]; done)), H', ⟨by have := HJ1.out; first | omega | exact Nat.le_refl _⟩, ⟨by (with_reducible repeat (first | apply Kd.V_alloc | apply Kd.V_drewN | apply Kd.V_drew)); exact HO_0.out⟩, ⟨by repeat (first | (with_reducible first | exact HB.out | apply below_alloc | apply pw_below_drewN | apply below_drew1) | exact HB.out)⟩⟩
          case rest =>
            clear HC8
            try clear p1
            try clear q1
            try clear hx1
            try clear qi1
            try clear p2
            try clear c3
            try clear c3b0
            try clear c3b1
            try clear c4
            try clear c4b0
            try clear c4b1
            try clear c5
            try clear c5b0
            try clear c5b1
            try clear c6
            try clear c7
            try clear c7b0
            try clear c7b1
            try clear c9
            try clear c9b0
            try clear c9b1
            try clear hx131_0
            try clear hx132_0
            try clear hx133_0
            try clear p1
            try clear p131
            try clear p132
            try clear p133
            try clear p2
            try clear q1
            try clear q131
            try clear q132
            try clear q133
            obtain ⟨kq, x4_7, rfl, HA, HJ7, HO_0, HB⟩ := hcut
            cases kq with
            | zero => exact absurd HA.out (by simp [num_Wide.j1])
            | succ kj7 =>
              have H := HA.out
              clear HA
              simp only [num_Wide.j1] at H
              have HC10 := Aside0.mk H
              clear H
              go_upto_if 29 with (fail)
              go_cut [5] (fun v5 wc => ∃ (kq : Nat) (x5_9 : Int), v5 = .int .u64 x5_9 ∧ Aside0 (num_Wide.j2 kq l0 x4_7 x5_9 = some (r1, r2)) ∧ Aside0 (kq ≤ kj7) ∧ Aside0 (Kd.V (Kd.int .u8) 5 wc w.heap.size (fun k_ => (P0_ k_ ∨ w.heap.size ≤ k_)) (.slice (some ad133) l0.length c0) l0) ∧ Aside0 (Below w.heap.size w wc))
              case first =>
                have H := HC10.out
                clear HC10
                by_cases c11 : x4_7 = 0
                · rw [if_pos c11] at H
                  have c11b0 : (x4_7 == 0) = true := beq_iff_eq.mpr c11
                  have c11b1 : (x4_7 != 0) = false := bne_eq_false_iff_eq.mpr c11
                  clear c11
                  (first | rw [c11b0] | (simp only [i64_w, i32_w]; rw [c11b0]) | skip)
                  have H' := Aside0.mk H
                  clear H
                  go_wp2
                  go_meet
                  case rel => exact ⟨_, (0), (by first | rfl | (simp; done) | (simp [*]; done)), H', ⟨by have := HJ1.out; have := HJ7.out; first | omega | exact Nat.le_refl _⟩, ⟨by (with_reducible repeat (first | apply Kd.V_alloc | apply Kd.V_drewN | apply Kd.V_drew)); exact HO_0.out⟩, ⟨by repeat (first | (with_reducible first | exact HB.out | apply below_alloc | apply pw_below_drewN | apply below_drew1) | exact HB.out)⟩⟩
                · rw [if_neg c11] at H
                  have c11b0 : (x4_7 == 0) = false := beq_eq_false_iff_ne.mpr c11
                  have c11b1 : (x4_7 != 0) = true := bne_iff_ne.mpr c11
                  (first | rw [c11b0] | (simp only [i64_w, i32_w]; rw [c11b0]) | skip)
                  have H' := Aside0.mk H
                  clear H
                  go_wp2
                  go_meet
                  case rel => exact ⟨_, (18446744073709551615), (by first | rfl | (simp; done) | (simp [*]; done)), H', ⟨by have := HJ1.out; have := HJ7.out; first | omega | exact Nat.le_refl _⟩, ⟨by (with_reducible repeat (first | apply Kd.V_alloc | apply Kd.V_drewN | apply Kd.V_drew)); exact HO_0.out⟩, ⟨by repeat (first | (with_reducible first | exact HB.out | apply below_alloc | apply pw_below_drewN | apply below_drew1) | exact HB.out)⟩⟩
              case rest =>
                clear HC10
                try clear c1
                try clear p1
                try clear q1
                try clear hx1
                try clear qi1
                try clear p2
                try clear c3
                try clear c3b0
                try clear c3b1
                try clear c4
                try clear c4b0
                try clear c4b1
                try clear c5
                try clear c5b0
                try clear c5b1
                try clear c6
                try clear c7
                try clear c7b0
                try clear c7b1
                try clear c9
                try clear c9b0
                try clear c9b1
                try clear c11
                try clear c11b0
                try clear c11b1
                try clear hx131_0
                try clear hx132_0
                try clear hx133_0
                try clear p1
                try clear p131
                try clear p132
                try clear p133
                try clear p2
                try clear q1
                try clear q131
                try clear q132
                try clear q133
                obtain ⟨kq, x5_9, rfl, HA, HJ9, HO_0, HB⟩ := hcut
                cases kq with
                | zero => exact absurd HA.out (by simp [num_Wide.j2])
                | succ kj9 =>
                  have H := HA.out
                  clear HA
                  simp only [num_Wide.j2] at H
                  by_cases c12 : 1 ≤ (l0.length : Int)
                  · rw [if_pos c12] at H
                    have c12b0 := eq_true c12
                    have c12b1 : decide (1 ≤ (l0.length : Int)) = true := decide_eq_true c12
                    clear c12
                    obtain ⟨y134, hy134⟩ : ∃ y_ : List Int, y_ = (l0.drop 1) := ⟨_, rfl⟩
                    replace H : (num_Wide.l0 kj9 x4_7 x5_9 y134) = some (r1, r2) := by first | (rw [hy134]; with_reducible exact H) | (have H2_ := (Option.bind_some _ _).symm.trans H; rw [hy134]; with_reducible exact H2_) | (have H2_ := (Option.bind_some _ _).symm.trans H; with_reducible exact H2_) | with_reducible exact H | (rw [hy134]; exact H) | exact H
                    have Ny134 := Aside0.mk hy134
                    clear hy134
                    have H' := Aside0.mk H
                    clear H
                    have q13 : (1 : Int) ≤ ((l0.length : Int) : Int) := of_decide_eq_true (by first | (with_reducible assumption) | assumption)
                    obtain ⟨i013, hi013, _, hsz13, _⟩ := info_parts info5
                    have hroom13 : l0.length ≤ c0 := (Kd.V_reads' HO_0.out).2.1
                    have hC13 : Kd.F (Kd.int .u8) _ _ (some ad133) l0.length l0 := (Kd.V_at (base := w.heap.size) HO_0.out).2.2
                    have hcut13 := cut_from (P := Tryd.prog) 22 5 .i64 Tryd.underlying22 hi013 1 hsz13 (some ad133) l0.length c0 1 (by omega) q13
                    have hr13 := Kd.F_cut (m := (1 : Int).toNat) (c := c0) hC13 (by omega) hroom13
                    obtain ⟨A13, hA13⟩ : ∃ A1, A1 = (if c0 = (1 : Int).toNat then (some ad133) else ((some ad133) : Option Addr).map (·.add ((1 : Int).toNat * 1))) := ⟨_, rfl⟩
                    obtain ⟨c13, hc13⟩ : ∃ c1, c1 = c0 - (1 : Int).toNat := ⟨_, rfl⟩
                    have hy13 : y134.length = l0.length - (1 : Int).toNat := (by rw [Ny134.out, List.length_drop] <;> omega)
                    rw [show (l0).drop (1 : Int).toNat = y134 from Ny134.out.symm] at hr13
                    replace hr13 : Kd.F (Kd.int .u8) _ _ A13 y134.length y134 := (by rw [hA13]; exact hr13)
                    rw [← hy13, ← hA13, ← hc13] at hcut13
                    have HO138 := Aside0.mk (show Kd.V (Kd.int .u8) 5 _ w.heap.size _ (.slice A13 y134.length c13) y134 from Kd.V_mk (by rw [hy13, hc13]; exact Nat.sub_le_sub_right hroom13 _) hr13)
                    have HC138 := Aside0.mk (show y134.length ≤ c13 from by rw [hy13, hc13]; exact Nat.sub_le_sub_right hroom13 _)
                    clear hr13 hC13 hroom13 hi013 hsz13 hc13
                    have KY13 := Aside0.mk hy13
                    have KA13 := Aside0.mk hA13
                    clear hy13 hA13
                    replace q13 := eq_true q13
                    go_wp2
                    go_loopg [6] kj9 (fun kq v6 w' => ∃ (x6_4 : List Int), Aside0 (num_Wide.l0 kq x4_7 x5_9 x6_4 = some (r1, r2)) ∧ Aside0 (kq ≤ kj9) ∧ Aside0 (Kd.V (Kd.int .u8) 5 w' w.heap.size (fun k_ => (P0_ k_ ∨ w.heap.size ≤ k_)) v6 x6_4) ∧ Aside0 (Below w.heap.size w w'))
                    case atStart => exact ⟨(y134), H', ⟨Nat.le_refl _⟩, ⟨by (with_reducible repeat (first | apply Kd.V_alloc | apply Kd.V_drewN | apply Kd.V_drew)); exact HO138.out⟩, ⟨by repeat (first | (with_reducible first | exact HB.out | apply below_alloc | apply pw_below_drewN | apply below_drew1) | exact HB.out)⟩⟩
                    case round =>
                      clear H'
                      try clear c1
                      try clear p1
                      try clear q1
                      try clear hx1
                      try clear qi1
                      try clear p2
                      try clear c3
                      try clear c3b0
                      try clear c3b1
                      try clear c4
                      try clear c4b0
                      try clear c4b1
                      try clear c5
                      try clear c5b0
                      try clear c5b1
                      try clear c6
                      try clear c7
                      try clear c7b0
                      try clear c7b1
                      try clear c9
                      try clear c9b0
                      try clear c9b1
                      try clear c11
                      try clear c11b0
                      try clear c11b1
                      try clear c12
                      try clear c12b0
                      try clear c12b1
                      try clear c13
                      try clear p13
                      try clear q13
                      try clear hx13
                      try clear qi13
                      try clear hx131_0
                      try clear hx132_0
                      try clear hx133_0
                      try clear p1
                      try clear p131
                      try clear p132
                      try clear p133
                      try clear p2
                      try clear q1
                      try clear q13
                      try clear q131
                      try clear q132
                      try clear q133
                      obtain ⟨x6_4, HA, HK4, HO_6, HB⟩ := hrel
                      cases gk with
                      | zero => exact absurd HA.out (by simp [num_Wide.l0])
                      | succ k4 =>
                        have H := HA.out
                        clear HA
                        simp only [num_Wide.l0] at H
                        by_cases c14 : (x6_4.length : Int) > 8
                        · rw [if_pos c14] at H
                          have c14b0 : decide (8 < (x6_4.length : Int)) = true := decide_eq_true c14
                          have c14b1 : decide (8 < x6_4.length) = true := decide_eq_true (by omega)
                          clear c14
                          by_cases c15 : 0 < (x6_4.length : Int)
                          · rw [if_pos c15] at H
                            have c15b0 : decide (0 < (x6_4.length : Int)) = true := decide_eq_true c15
                            have c15b1 : decide (0 < x6_4.length) = true := decide_eq_true (by omega)
                            clear c15
                            by_cases c16 : (rd x6_4 0) = x4_7
                            · rw [if_pos c16] at H
                              have c16b0 : ((rd x6_4 0) == x4_7) = true := beq_iff_eq.mpr c16
                              have c16b1 : ((rd x6_4 0) != x4_7) = false := bne_eq_false_iff_eq.mpr c16
                              clear c16
                              by_cases c17 : 1 ≤ (x6_4.length : Int)
                              · rw [if_pos c17] at H
                                have c17b0 := eq_true c17
                                have c17b1 : decide (1 ≤ (x6_4.length : Int)) = true := decide_eq_true c17
                                clear c17
                                obtain ⟨y140, hy140⟩ : ∃ y_ : List Int, y_ = (x6_4.drop 1) := ⟨_, rfl⟩
                                replace H : (num_Wide.l0 k4 x4_7 x5_9 y140) = some (r1, r2) := by first | (rw [hy140]; with_reducible exact H) | (have H2_ := (Option.bind_some _ _).symm.trans H; rw [hy140]; with_reducible exact H2_) | (have H2_ := (Option.bind_some _ _).symm.trans H; with_reducible exact H2_) | with_reducible exact H | (rw [hy140]; exact H) | exact H
                                have Ny140 := Aside0.mk hy140
                                clear hy140
                                have H' := Aside0.mk H
                                clear H
                                obtain ⟨Ao18, co18, eo18⟩ := Kd.V_slice HO_6.out
                                subst eo18
                                have p139 : 0 ≤ (0 : Int) := (by omega)
                                have q139 : 0 < (x6_4.length : Int) := of_decide_eq_true (by first | (with_reducible assumption) | assumption)
                                obtain ⟨ad139, e139, hx139_0⟩ := Kd.at_int (Kd.V_reads' HO_6.out).2.2 0 p139 q139
                                cases e139
                                have qi139 : (0 < x6_4.length) = True := eq_true (by omega)
                                (try rw [show ((0 : Int)).toNat = 0 from rfl] at hx139_0)
                                (try rw [Addr.add_zero'] at hx139_0)
                                replace p139 := eq_true p139
                                replace q139 := eq_true q139
                                have q19 : (1 : Int) ≤ ((x6_4.length : Int) : Int) := of_decide_eq_true (by first | (with_reducible assumption) | assumption)
                                obtain ⟨i019, hi019, _, hsz19, _⟩ := info_parts info5
                                have hroom19 : x6_4.length ≤ co18 := (Kd.V_reads' HO_6.out).2.1
                                have hC19 : Kd.F (Kd.int .u8) _ _ (some ad139) x6_4.length x6_4 := (Kd.V_at (base := w.heap.size) HO_6.out).2.2
                                have hcut19 := cut_from (P := Tryd.prog) 22 5 .i64 Tryd.underlying22 hi019 1 hsz19 (some ad139) x6_4.length co18 1 (by omega) q19
                                have hr19 := Kd.F_cut (m := (1 : Int).toNat) (c := co18) hC19 (by omega) hroom19
                                obtain ⟨A19, hA19⟩ : ∃ A1, A1 = (if co18 = (1 : Int).toNat then (some ad139) else ((some ad139) : Option Addr).map (·.add ((1 : Int).toNat * 1))) := ⟨_, rfl⟩
                                obtain ⟨c19, hc19⟩ : ∃ c1, c1 = co18 - (1 : Int).toNat := ⟨_, rfl⟩
                                have hy19 : y140.length = x6_4.length - (1 : Int).toNat := (by rw [Ny140.out, List.length_drop] <;> omega)
                                rw [show (x6_4).drop (1 : Int).toNat = y140 from Ny140.out.symm] at hr19
                                replace hr19 : Kd.F (Kd.int .u8) _ _ A19 y140.length y140 := (by rw [hA19]; exact hr19)
                                rw [← hy19, ← hA19, ← hc19] at hcut19
                                have HO144 := Aside0.mk (show Kd.V (Kd.int .u8) 5 _ w.heap.size _ (.slice A19 y140.length c19) y140 from Kd.V_mk (by rw [hy19, hc19]; exact Nat.sub_le_sub_right hroom19 _) hr19)
                                have HC144 := Aside0.mk (show y140.length ≤ c19 from by rw [hy19, hc19]; exact Nat.sub_le_sub_right hroom19 _)
                                clear hr19 hC19 hroom19 hi019 hsz19 hc19
                                have KY19 := Aside0.mk hy19
                                have KA19 := Aside0.mk hA19
                                clear hy19 hA19
                                replace q19 := eq_true q19
                                go_wp2
                                go_roundg k4
                                case measure => have := HJ1.out; have := HJ7.out; have := HJ9.out; have := HK4.out; omega
                                case rel => exact ⟨(y140), H', ⟨by have := HJ1.out; have := HJ7.out; have := HJ9.out; have := HK4.out; omega⟩, ⟨by (with_reducible repeat (first | apply Kd.V_alloc | apply Kd.V_drewN | apply Kd.V_drew)); exact HO144.out⟩, ⟨by repeat (first | (with_reducible first | exact HB.out | apply below_alloc | apply pw_below_drewN | apply below_drew1) | exact HB.out)⟩⟩
                              · rw [if_neg c17] at H
                                exact absurd H (by simp)
                            · rw [if_neg c16] at H
                              have c16b0 : ((rd x6_4 0) == x4_7) = false := beq_eq_false_iff_ne.mpr c16
                              have c16b1 : ((rd x6_4 0) != x4_7) = true := bne_iff_ne.mpr c16
                              simp only [Option.some.injEq, Prod.mk.injEq] at H
                              obtain ⟨rfl, rfl⟩ := H
                              obtain ⟨Ao20, co20, eo20⟩ := Kd.V_slice HO_6.out
                              subst eo20
                              have p139 : 0 ≤ (0 : Int) := (by omega)
                              have q139 : 0 < (x6_4.length : Int) := of_decide_eq_true (by first | (with_reducible assumption) | assumption)
                              obtain ⟨ad139, e139, hx139_0⟩ := Kd.at_int (Kd.V_reads' HO_6.out).2.2 0 p139 q139
                              cases e139
                              have qi139 : (0 < x6_4.length) = True := eq_true (by omega)
                              (try rw [show ((0 : Int)).toNat = 0 from rfl] at hx139_0)
                              (try rw [Addr.add_zero'] at hx139_0)
                              replace p139 := eq_true p139
                              replace q139 := eq_true q139
                              go_wp2
                              go_ret2
                              exact ⟨by first | rfl | (simp [errW_none, errW_some] <;> rfl) | (simp [*, errW_none, errW_some] <;> rfl), by repeat (first | (with_reducible first | exact HB.out | apply below_alloc | apply pw_below_drewN | apply below_drew1) | exact HB.out)⟩
                          · rw [if_neg c15] at H
                            exact absurd H (by simp)
                        · rw [if_neg c14] at H
                          have c14b0 : decide (8 < (x6_4.length : Int)) = false := decide_eq_false c14
                          have c14b1 : decide (8 < x6_4.length) = false := decide_eq_false (by omega)
                          clear c14
                          have HC21 := Aside0.mk H
                          clear H
                          obtain ⟨Ao22, co22, eo22⟩ := Kd.V_slice HO_6.out
                          subst eo22
                          go_upto_region 14 with (fail)
                          go_cut [53] (fun v53 wc => ∃ (kq : Nat) (x53_20 : Bool), v53 = .bool x53_20 ∧ Aside0 (num_Wide.j4 kq x5_9 x6_4 x53_20 = some (r1, r2)) ∧ Aside0 (kq ≤ k4) ∧ Aside0 (Kd.V (Kd.int .u8) 5 wc w.heap.size (fun k_ => (P0_ k_ ∨ w.heap.size ≤ k_)) (.slice Ao22 x6_4.length co22) x6_4) ∧ Aside0 (Below w.heap.size w wc))
                          case first =>
                            have H := HC21.out
                            clear HC21
                            by_cases c23 : (x6_4.length : Int) = 8
                            · rw [if_pos c23] at H
                              have c23b0 : ((x6_4.length : Int) == 8) = true := beq_iff_eq.mpr c23
                              have c23b1 : ((x6_4.length : Int) != 8) = false := bne_eq_false_iff_eq.mpr c23
                              clear c23
                              (first | rw [c23b0] | (simp only [i64_w, i32_w]; rw [c23b0]) | skip)
                              by_cases c24 : 0 < (x6_4.length : Int)
                              · rw [if_pos c24] at H
                                have c24b0 : decide (0 < (x6_4.length : Int)) = true := decide_eq_true c24
                                have c24b1 : decide (0 < x6_4.length) = true := decide_eq_true (by omega)
                                clear c24
                                have H' := Aside0.mk H
                                clear H
                                have p145 : 0 ≤ (0 : Int) := (by omega)
                                have q145 : 0 < (x6_4.length : Int) := of_decide_eq_true (by first | (with_reducible assumption) | assumption)
                                obtain ⟨ad145, e145, hx145_0⟩ := Kd.at_int (Kd.V_reads' HO_6.out).2.2 0 p145 q145
                                cases e145
                                have qi145 : (0 < x6_4.length) = True := eq_true (by omega)
                                (try rw [show ((0 : Int)).toNat = 0 from rfl] at hx145_0)
                                (try rw [Addr.add_zero'] at hx145_0)
                                replace p145 := eq_true p145
                                replace q145 := eq_true q145
                                go_wp2
                                go_meet
                                case rel => exact ⟨_, ((((rd x6_4 0) / 128) != (x4_7 / 128))), (by first | rfl | (simp; done) | (simp [*]; done)), H', ⟨by have := HJ1.out; have := HJ7.out; have := HJ9.out; have := HK4.out; first | omega | exact Nat.le_refl _⟩, ⟨by (with_reducible repeat (first | apply Kd.V_alloc | apply Kd.V_drewN | apply Kd.V_drew)); exact HO_6.out⟩, ⟨by repeat (first | (with_reducible first | exact HB.out | apply below_alloc | apply pw_below_drewN | apply below_drew1) | exact HB.out)⟩⟩
                              · rw [if_neg c24] at H
                                exact absurd H (by simp)
                            · rw [if_neg c23] at H
                              have c23b0 : ((x6_4.length : Int) == 8) = false := beq_eq_false_iff_ne.mpr c23
                              have c23b1 : ((x6_4.length : Int) != 8) = true := bne_iff_ne.mpr c23
                              (first | rw [c23b0] | (simp only [i64_w, i32_w]; rw [c23b0]) | skip)
                              have H' := Aside0.mk H
                              clear H
                              go_wp2
                              go_meet
                              case rel => exact ⟨_, (false), (by first | rfl | (simp; done) | (simp [*]; done)), H', ⟨by have := HJ1.out; have := HJ7.out; have := HJ9.out; have := HK4.out; first | omega | exact Nat.le_refl _⟩, ⟨by (with_reducible repeat (first | apply Kd.V_alloc | apply Kd.V_drewN | apply Kd.V_drew)); exact HO_6.out⟩, ⟨by repeat (first | (with_reducible first | exact HB.out | apply below_alloc | apply pw_below_drewN | apply below_drew1) | exact HB.out)⟩⟩
                          case rest =>
                            clear HC21
                            try clear c1
                            try clear p1
                            try clear q1
                            try clear hx1
                            try clear qi1
                            try clear c2
                            try clear p2
                            try clear c3
                            try clear c3b0
                            try clear c3b1
                            try clear c4
                            try clear c4b0
                            try clear c4b1
                            try clear c5
                            try clear c5b0
                            try clear c5b1
                            try clear c6
                            try clear c7
                            try clear c7b0
                            try clear c7b1
                            try clear c9
                            try clear c9b0
                            try clear c9b1
                            try clear c11
                            try clear c11b0
                            try clear c11b1
                            try clear c12
                            try clear c12b0
                            try clear c12b1
                            try clear c13
                            try clear p13
                            try clear q13
                            try clear hx13
                            try clear qi13
                            try clear c14
                            try clear c14b0
                            try clear c14b1
                            try clear p14
                            try clear q14
                            try clear hx14
                            try clear qi14
                            try clear c15
                            try clear c15b0
                            try clear c15b1
                            try clear c16
                            try clear c16b0
                            try clear c16b1
                            try clear c17
                            try clear c17b0
                            try clear c17b1
                            try clear c19
                            try clear q19
                            try clear c23
                            try clear c23b0
                            try clear c23b1
                            try clear c24
                            try clear c24b0
                            try clear c24b1
                            try clear hx131_0
                            try clear hx132_0
                            try clear hx133_0
                            try clear hx139_0
                            try clear hx145_0
                            try clear p1
                            try clear p13
                            try clear p131
                            try clear p132
                            try clear p133
                            try clear p139
                            try clear p145
                            try clear p2
                            try clear q1
                            try clear q13
                            try clear q131
                            try clear q132
                            try clear q133
                            try clear q139
                            try clear q145
                            try clear q19
                            obtain ⟨kq, x53_20, rfl, HA, HJ20, HO_6, HB⟩ := hcut
                            cases kq with
                            | zero => exact absurd HA.out (by simp [num_Wide.j4])
                            | succ kj20 =>
                              have H := HA.out
                              clear HA
                              simp only [num_Wide.j4] at H
                              by_cases c25 : x53_20 = true
                              · subst c25
                                have H1 : (some (0, 5)) = some (r1, r2) := by rw [if_pos rfl] at H; exact H
                                clear H
                                have H := H1
                                clear H1
                                simp only [Option.some.injEq, Prod.mk.injEq] at H
                                obtain ⟨rfl, rfl⟩ := H
                                go_wp2
                                go_ret2
                                exact ⟨by first | rfl | (simp [errW_none, errW_some] <;> rfl) | (simp [*, errW_none, errW_some] <;> rfl), by repeat (first | (with_reducible first | exact HB.out | apply below_alloc | apply pw_below_drewN | apply below_drew1) | exact HB.out)⟩
                              · replace c25 := Bool.eq_false_iff.mpr c25
                                subst c25
                                have H1 : (num_Wide.l1 kj20 x5_9 x6_4 (x6_4.length : Int) 0) = some (r1, r2) := by rw [if_neg (show ¬ (false = true) by decide)] at H; exact H
                                clear H
                                have H := H1
                                clear H1
                                have H' := Aside0.mk H
                                clear H
                                go_wp2
                                go_loopg [5, 56] kj20 (fun kq v5 v56 w' => ∃ (x5_6 : Int) (x56_6 : Int), v5 = .int .u64 x5_6 ∧ v56 = .int .i64 x56_6 ∧ Aside0 (num_Wide.l1 kq x5_6 x6_4 (x6_4.length : Int) x56_6 = some (r1, r2)) ∧ Aside0 (kq ≤ kj20) ∧ Aside0 (Kd.V (Kd.int .u8) 5 w' w.heap.size (fun k_ => (P0_ k_ ∨ w.heap.size ≤ k_)) (.slice Ao22 x6_4.length co22) x6_4) ∧ Aside0 (Below w.heap.size w w'))
                                case atStart => exact ⟨(x5_9), (0), (by first | rfl | (simp; done) | (simp [*]; done)), (by first | rfl | (simp; done) | (simp [*]; done)), H', ⟨Nat.le_refl _⟩, ⟨by (with_reducible repeat (first | apply Kd.V_alloc | apply Kd.V_drewN | apply Kd.V_drew)); exact HO_6.out⟩, ⟨by repeat (first | (with_reducible first | exact HB.out | apply below_alloc | apply pw_below_drewN | apply below_drew1) | exact HB.out)⟩⟩
                                case round =>
                                  clear H'
                                  try clear c1
                                  try clear p1
                                  try clear q1
                                  try clear hx1
                                  try clear qi1
                                  try clear c2
                                  try clear p2
                                  try clear c3
                                  try clear c3b0
                                  try clear c3b1
                                  try clear c4
                                  try clear c4b0
                                  try clear c4b1
                                  try clear c5
                                  try clear c5b0
                                  try clear c5b1
                                  try clear c6
                                  try clear c7
                                  try clear c7b0
                                  try clear c7b1
                                  try clear c9
                                  try clear c9b0
                                  try clear c9b1
                                  try clear c11
                                  try clear c11b0
                                  try clear c11b1
                                  try clear c12
                                  try clear c12b0
                                  try clear c12b1
                                  try clear c13
                                  try clear p13
                                  try clear q13
                                  try clear hx13
                                  try clear qi13
                                  try clear c14
                                  try clear c14b0
                                  try clear c14b1
                                  try clear p14
                                  try clear q14
                                  try clear hx14
                                  try clear qi14
                                  try clear c15
                                  try clear c15b0
                                  try clear c15b1
                                  try clear c16
                                  try clear c16b0
                                  try clear c16b1
                                  try clear c17
                                  try clear c17b0
                                  try clear c17b1
                                  try clear c19
                                  try clear q19
                                  try clear c23
                                  try clear c23b0
                                  try clear c23b1
                                  try clear c24
                                  try clear c24b0
                                  try clear c24b1
                                  try clear c25
                                  try clear hx131_0
                                  try clear hx132_0
                                  try clear hx133_0
                                  try clear hx139_0
                                  try clear hx145_0
                                  try clear p1
                                  try clear p13
                                  try clear p131
                                  try clear p132
                                  try clear p133
                                  try clear p139
                                  try clear p14
                                  try clear p145
                                  try clear p2
                                  try clear q1
                                  try clear q13
                                  try clear q131
                                  try clear q132
                                  try clear q133
                                  try clear q139
                                  try clear q14
                                  try clear q145
                                  try clear q19
                                  obtain ⟨x5_6, x56_6, rfl, rfl, HA, HK6, HO_54, HB⟩ := hrel
                                  cases gk with
                                  | zero => exact absurd HA.out (by simp [num_Wide.l1])
                                  | succ k6 =>
                                    have H := HA.out
                                    clear HA
                                    simp only [num_Wide.l1] at H
                                    by_cases c26 : x56_6 < (x6_4.length : Int)
                                    · rw [if_pos c26] at H
                                      have c26b0 : decide (x56_6 < (x6_4.length : Int)) = true := decide_eq_true c26
                                      clear c26
                                      by_cases c27 : 0 ≤ x56_6
                                      · rw [if_pos c27] at H
                                        have c27b0 : decide (0 ≤ x56_6) = true := decide_eq_true c27
                                        clear c27
                                        by_cases c28 : x56_6 < (x6_4.length : Int)
                                        · rw [if_pos c28] at H
                                          have c28b0 : decide (x56_6 < (x6_4.length : Int)) = true := decide_eq_true c28
                                          clear c28
                                          have H' := Aside0.mk H
                                          clear H
                                          have p146 : 0 ≤ (x56_6 : Int) := of_decide_eq_true (by first | (with_reducible assumption) | assumption)
                                          have q146 : x56_6 < (x6_4.length : Int) := of_decide_eq_true (by first | (with_reducible assumption) | assumption)
                                          obtain ⟨ad146, e146, hx146_0⟩ := Kd.at_int (Kd.V_reads' HO_54.out).2.2 x56_6 p146 q146
                                          cases e146
                                          replace p146 := eq_true p146
                                          replace q146 := eq_true q146
                                          go_wp2
                                          go_roundg k6
                                          case measure => have := HJ1.out; have := HJ7.out; have := HJ9.out; have := HK4.out; have := HJ20.out; have := HK6.out; omega
                                          case rel => exact ⟨(Go.bits .or .u64 (IntKind.u64.wrap (x5_6 * 256)) (IntKind.u64.wrap (rd x6_4 x56_6))), (wrap64 (x56_6 + 1)), (by first | rfl | (simp; done) | (simp [*]; done)), (by first | rfl | (simp; done) | (simp [*]; done)), H', ⟨by have := HJ1.out; have := HJ7.out; have := HJ9.out; have := HK4.out; have := HJ20.out; have := HK6.out; omega⟩, ⟨by (with_reducible repeat (first | apply Kd.V_alloc | apply Kd.V_drewN | apply Kd.V_drew)); exact HO_54.out⟩, ⟨by repeat (first | (with_reducible first | exact HB.out | apply below_alloc | apply pw_below_drewN | apply below_drew1) | exact HB.out)⟩⟩
                                        · rw [if_neg c28] at H
                                          exact absurd H (by simp)
                                      · rw [if_neg c27] at H
                                        exact absurd H (by simp)
                                    · rw [if_neg c26] at H
                                      have c26b0 : decide (x56_6 < (x6_4.length : Int)) = false := decide_eq_false c26
                                      clear c26
                                      simp only [Option.some.injEq, Prod.mk.injEq] at H
                                      obtain ⟨rfl, rfl⟩ := H
                                      go_wp2
                                      go_ret2
                                      exact ⟨by first | rfl | (simp [errW_none, errW_some] <;> rfl) | (simp [*, errW_none, errW_some] <;> rfl), by repeat (first | (with_reducible first | exact HB.out | apply below_alloc | apply pw_below_drewN | apply below_drew1) | exact HB.out)⟩
                  · rw [if_neg c12] at H
                    exact absurd H (by simp)
        · rw [if_neg c7] at H
          exact absurd H (by simp)

end Go.Proofs.YtkcgioggnbnfkaaDoor.PVolumeJoins
