-- Written by a program of this session over the print (contracts by hand for the functions that it passes over).
import Derived.Test.YtoabboeongbloaaDoorPHeadGetsx0
namespace Go.Proofs.YtoabboeongbloaaDoor.PHeadGets
open Go.RowKit Go.Proofs.YtoabboeongbloaaDoorW.PrintWords Go.Proofs.YtoabboeongbloaaDoorW.PrintLast Go.Proofs.YtoabboeongbloaaDoorW.PrintMore
attribute [local go_sem] max2_int min2_int max_two min_two max_three min_three max_four min_four   -- for this text's walks alone
set_option linter.unusedVariables false
set_option linter.unusedSimpArgs false

/-! ### head_mark: function 34 -/
def head_mark.f (l0 : List Int) : Option (Int) := if 265 ≤ l0.length then some (Go.Proofs.YtoabboeongbloaaDoor.HeadA.markOf l0) else none
theorem head_mark.calls (A0 : Option Addr) (c0 : Nat) (l0 : List Int) (r : Int) (w : World) (hr0 : Kd.C (Kd.int .u8) w A0 l0.length l0) (hc0 : l0.length ≤ c0) (h : head_mark.f l0 = some r) :
    Calls Tryd.prog 34 #[.slice A0 l0.length c0] w fun e w' => e = .returned (.int .i64 r) ∧ Drawn0 w w' := by
  unfold head_mark.f at h
  by_cases hl : 265 ≤ l0.length
  · rw [if_pos hl] at h
    cases h
    refine (Go.Proofs.YtoabboeongbloaaDoor.HeadA.mark_calls A0 c0 l0 w hr0 hc0 hl).mono ?_
    rintro e w' ⟨rfl, rfl⟩
    exact ⟨rfl, Drawn0.refl _⟩
  · rw [if_neg hl] at h
    cases h

-- NOT PRINTED: function 75 (bytealg_IndexByte)

-- NOT PRINTED: function 57 (bytes_IndexByte)

/-! ### text_Get: function 35 -/
def text_Get.f (l0 : List Int) : Option (ByteArray) := some (Go.Proofs.YtoabboeongbloaaDoor.Txt.getOf l0)
theorem text_Get.calls (A0 : Option Addr) (c0 : Nat) (l0 : List Int) (r : ByteArray) (w : World) (hr0 : Kd.C (Kd.int .u8) w A0 l0.length l0) (hc0 : l0.length ≤ c0) (h : text_Get.f l0 = some r) :
    Calls Tryd.prog 35 #[.slice A0 l0.length c0] w fun e w' => e = .returned (.string r) ∧ Drawn0 w w' := by
  cases h
  refine (Go.Proofs.YtoabboeongbloaaDoor.Txt.get_calls A0 c0 l0 w hr0 hc0).mono ?_
  rintro e w' ⟨rfl, rfl⟩
  exact ⟨rfl, Drawn0.refl _⟩

-- NOT PRINTED: function 12 (head_Get)

/-! ### oakumref03_Sums: function 44 -/
mutual
def oakumref03_Sums.l0 : Nat → List Int → Int → Int → Int → Option (Int × Int)
  | 0, _, _, _, _ => none
  | k + 1, x0, x4, x5, x6 => if x6 < 512 then (if x6 ≥ 148 then (oakumref03_Sums.j1 k x0 x4 x5 x6 (decide (x6 < 156))) else (oakumref03_Sums.j1 k x0 x4 x5 x6 false)) else (some (x4, wrap64 (x4 - (wrap64 (256 * x5)))))
def oakumref03_Sums.j1 : Nat → List Int → Int → Int → Int → Bool → Option (Int × Int)
  | 0, _, _, _, _, _ => none
  | k + 1, x0, x4, x5, x6, x16 => if x16 = true then (oakumref03_Sums.l0 k x0 x4 x5 (wrap64 (x6 + 1))) else (if 0 ≤ x6 then (if x6 < (x0.length : Int) then (if (rd x0 x6) ≥ 128 then (oakumref03_Sums.l0 k x0 (wrap64 (x4 + (wrap64 (rd x0 x6)))) (wrap64 (x5 + 1)) (wrap64 (x6 + 1))) else (oakumref03_Sums.l0 k x0 (wrap64 (x4 + (wrap64 (rd x0 x6)))) x5 (wrap64 (x6 + 1)))) else (none)) else (none))
end
def oakumref03_Sums.f (k : Nat) (l0 : List Int) : Option (Int × Int) := oakumref03_Sums.l0 k l0 256 0 0
theorem oakumref03_Sums.mono_l : ∀ k, (∀ y0 y1 y2 y3, LeO (oakumref03_Sums.l0 k y0 y1 y2 y3) (oakumref03_Sums.l0 (k + 1) y0 y1 y2 y3)) ∧ (∀ y0 y1 y2 y3 y4, LeO (oakumref03_Sums.j1 k y0 y1 y2 y3 y4) (oakumref03_Sums.j1 (k + 1) y0 y1 y2 y3 y4))
  | 0 => ⟨fun _ _ _ _ r h => by simp [oakumref03_Sums.l0] at h, fun _ _ _ _ _ r h => by simp [oakumref03_Sums.j1] at h⟩
  | k + 1 => by
    obtain ⟨ih0, ih1⟩ := oakumref03_Sums.mono_l k
    refine ⟨?_, ?_⟩
    · intro y0 y1 y2 y3
      unfold oakumref03_Sums.l0
      repeat' first
      | (with_reducible exact ih0 _ _ _ _)
      | (with_reducible exact ih1 _ _ _ _ _)
      | (with_reducible exact LeO.refl _)
      | (with_reducible exact LeO.none _)
      | (with_reducible refine LeO.ite ?_ ?_)
      | (with_reducible refine LeO.bind ?_ (fun _ => ?_))
      | exact ih0 _ _ _ _
      | exact ih1 _ _ _ _ _
      | exact LeO.none _
      | refine LeO.ite ?_ ?_
      | refine LeO.bind ?_ (fun _ => ?_)
    · intro y0 y1 y2 y3 y4
      unfold oakumref03_Sums.j1
      repeat' first
      | (with_reducible exact ih0 _ _ _ _)
      | (with_reducible exact ih1 _ _ _ _ _)
      | (with_reducible exact LeO.refl _)
      | (with_reducible exact LeO.none _)
      | (with_reducible refine LeO.ite ?_ ?_)
      | (with_reducible refine LeO.bind ?_ (fun _ => ?_))
      | exact ih0 _ _ _ _
      | exact ih1 _ _ _ _ _
      | exact LeO.none _
      | refine LeO.ite ?_ ?_
      | refine LeO.bind ?_ (fun _ => ?_)
theorem oakumref03_Sums.mono : ∀ a0 k, LeO (oakumref03_Sums.f k a0) (oakumref03_Sums.f (k + 1) a0) := by
  intro a0 k
  obtain ⟨ih0, ih1⟩ := oakumref03_Sums.mono_l k
  unfold oakumref03_Sums.f
  repeat' first
      | (with_reducible exact ih0 _ _ _ _)
      | (with_reducible exact ih1 _ _ _ _ _)
      | (with_reducible exact LeO.refl _)
      | (with_reducible exact LeO.none _)
      | (with_reducible refine LeO.ite ?_ ?_)
      | (with_reducible refine LeO.bind ?_ (fun _ => ?_))
      | exact ih0 _ _ _ _
      | exact ih1 _ _ _ _ _
      | exact LeO.none _
      | refine LeO.ite ?_ ?_
      | refine LeO.bind ?_ (fun _ => ?_)
set_option maxHeartbeats 8000000 in
set_option maxRecDepth 100000 in
theorem oakumref03_Sums.calls (k : Nat) (A0 : Option Addr) (c0 : Nat) (l0 : List Int) (r1 : Int) (r2 : Int) (w : World) (hr0 : Kd.C (Kd.int .u8) w A0 l0.length l0) (hc0 : l0.length ≤ c0) (h : oakumref03_Sums.f k l0 = some (r1, r2)) :
    Calls Tryd.prog 44 #[.slice A0 l0.length c0] w fun e w' => e = .returned (.tuple #[.int .i64 r1, .int .i64 r2]) ∧ Drawn0 w w' := by
  have HR0 := Aside0.mk hr0
  have HC0 := Aside0.mk hc0
  clear hr0 hc0
  have H : (oakumref03_Sums.l0 k l0 256 0 0) = some (r1, r2) := h
  clear h
  have H' := Aside0.mk H
  clear H
  go_enter Tryd.func44, Tryd.ntmps44
  go_wp2
  go_loopg [4, 5, 6] k (fun kq v4 v5 v6 w' => ∃ (x4_1 : Int) (x5_1 : Int) (x6_1 : Int), v4 = .int .i64 x4_1 ∧ v5 = .int .i64 x5_1 ∧ v6 = .int .i64 x6_1 ∧ Aside0 (oakumref03_Sums.l0 kq l0 x4_1 x5_1 x6_1 = some (r1, r2)) ∧ Aside0 (kq ≤ k) ∧ Drawn0 w w')
  case atStart => exact ⟨(256), (0), (0), (by first | rfl | (simp; done) | (simp [*]; done)), (by first | rfl | (simp; done) | (simp [*]; done)), (by first | rfl | (simp; done) | (simp [*]; done)), H', ⟨Nat.le_refl _⟩, by repeat (first | exact Drawn0.refl _ | apply Drawn0.step)⟩
  case round =>
    clear H'
    obtain ⟨x4_1, x5_1, x6_1, rfl, rfl, rfl, HA, HK1, ⟨m1, rfl⟩⟩ := hrel
    cases gk with
    | zero => exact absurd HA.out (by simp [oakumref03_Sums.l0])
    | succ k1 =>
      have H := HA.out
      clear HA
      simp only [oakumref03_Sums.l0] at H
      by_cases c2 : x6_1 < 512
      · rw [if_pos c2] at H
        have c2b0 : decide (x6_1 < 512) = true := decide_eq_true c2
        clear c2
        have HC3 := Aside0.mk H
        clear H
        go_upto_region 5 with (fail)
        go_cut [16] (fun v16 wc => ∃ (kq : Nat) (x16_2 : Bool), v16 = .bool x16_2 ∧ Aside0 (oakumref03_Sums.j1 kq l0 x4_1 x5_1 x6_1 x16_2 = some (r1, r2)) ∧ Aside0 (kq ≤ k1) ∧ Drawn0 w wc)
        case first =>
          have H := HC3.out
          clear HC3
          by_cases c4 : x6_1 ≥ 148
          · rw [if_pos c4] at H
            have c4b0 : decide (148 ≤ x6_1) = true := decide_eq_true c4
            clear c4
            (first | rw [c4b0] | (simp only [i64_w, i32_w]; rw [c4b0]) | skip)
            have H' := Aside0.mk H
            clear H
            go_wp2
            go_meet
            case rel => exact ⟨_, (decide (x6_1 < 156)), (by first | rfl | (simp; done) | (simp [*]; done)), H', ⟨by have := HK1.out; first | omega | exact Nat.le_refl _⟩, by repeat (first | exact Drawn0.refl _ | apply Drawn0.step)⟩
          · rw [if_neg c4] at H
            have c4b0 : decide (148 ≤ x6_1) = false := decide_eq_false c4
            clear c4
            (first | rw [c4b0] | (simp only [i64_w, i32_w]; rw [c4b0]) | skip)
            have H' := Aside0.mk H
            clear H
            go_wp2
            go_meet
            case rel => exact ⟨_, (false), (by first | rfl | (simp; done) | (simp [*]; done)), H', ⟨by have := HK1.out; first | omega | exact Nat.le_refl _⟩, by repeat (first | exact Drawn0.refl _ | apply Drawn0.step)⟩
        case rest =>
          clear HC3
          try clear c2
          try clear c2b0
          try clear p2
          try clear c4
          try clear c4b0
          obtain ⟨kq, x16_2, rfl, HA, HJ2, ⟨mc2, rfl⟩⟩ := hcut
          cases kq with
          | zero => exact absurd HA.out (by simp [oakumref03_Sums.j1])
          | succ kj2 =>
            have H := HA.out
            clear HA
            simp only [oakumref03_Sums.j1] at H
            by_cases c5 : x16_2 = true
            · subst c5
              have H1 : (oakumref03_Sums.l0 kj2 l0 x4_1 x5_1 (wrap64 (x6_1 + 1))) = some (r1, r2) := by rw [if_pos rfl] at H; exact H
              clear H
              have H := H1
              clear H1
              have H' := Aside0.mk H
              clear H
              go_wp2
              go_roundg kj2
              case measure => have := HK1.out; have := HJ2.out; omega
              case rel => exact ⟨(x4_1), (x5_1), (wrap64 (x6_1 + 1)), (by first | rfl | (simp; done) | (simp [*]; done)), (by first | rfl | (simp; done) | (simp [*]; done)), (by first | rfl | (simp; done) | (simp [*]; done)), H', ⟨by have := HK1.out; have := HJ2.out; omega⟩, by repeat (first | exact Drawn0.refl _ | apply Drawn0.step)⟩
            · replace c5 := Bool.eq_false_iff.mpr c5
              subst c5
              have H1 : (if 0 ≤ x6_1 then (if x6_1 < (l0.length : Int) then (if (rd l0 x6_1) ≥ 128 then (oakumref03_Sums.l0 kj2 l0 (wrap64 (x4_1 + (wrap64 (rd l0 x6_1)))) (wrap64 (x5_1 + 1)) (wrap64 (x6_1 + 1))) else (oakumref03_Sums.l0 kj2 l0 (wrap64 (x4_1 + (wrap64 (rd l0 x6_1)))) x5_1 (wrap64 (x6_1 + 1)))) else (none)) else (none)) = some (r1, r2) := by rw [if_neg (show ¬ (false = true) by decide)] at H; exact H
              clear H
              have H := H1
              clear H1
              by_cases c6 : 0 ≤ x6_1
              · rw [if_pos c6] at H
                have c6b0 : decide (0 ≤ x6_1) = true := decide_eq_true c6
                clear c6
                by_cases c7 : x6_1 < (l0.length : Int)
                · rw [if_pos c7] at H
                  have c7b0 : decide (x6_1 < (l0.length : Int)) = true := decide_eq_true c7
                  clear c7
                  by_cases c8 : (rd l0 x6_1) ≥ 128
                  · rw [if_pos c8] at H
                    have c8b0 : decide (128 ≤ (rd l0 x6_1)) = true := decide_eq_true c8
                    clear c8
                    have H' := Aside0.mk H
                    clear H
                    have p215 : 0 ≤ (x6_1 : Int) := of_decide_eq_true (by first | (with_reducible assumption) | assumption)
                    have q215 : x6_1 < (l0.length : Int) := of_decide_eq_true (by first | (with_reducible assumption) | assumption)
                    obtain ⟨ad215, e215, hx215_0⟩ := Kd.at_int HR0.out x6_1 p215 q215
                    cases e215
                    replace p215 := eq_true p215
                    replace q215 := eq_true q215
                    have p216 : 0 ≤ (x6_1 : Int) := of_decide_eq_true (by first | (with_reducible assumption) | assumption)
                    have q216 : x6_1 < (l0.length : Int) := of_decide_eq_true (by first | (with_reducible assumption) | assumption)
                    obtain ⟨ad216, e216, hx216_0⟩ := Kd.at_int HR0.out x6_1 p216 q216
                    obtain rfl : ad215 = ad216 := (by injection e216)
                    replace p216 := eq_true p216
                    replace q216 := eq_true q216
                    go_wp2
                    go_roundg kj2
                    case measure => have := HK1.out; have := HJ2.out; omega
                    case rel => exact ⟨(wrap64 (x4_1 + (wrap64 (rd l0 x6_1)))), (wrap64 (x5_1 + 1)), (wrap64 (x6_1 + 1)), (by first | rfl | (simp; done) | (simp [*]; done)), (by first | rfl | (simp; done) | (simp [*]; done)), (by first | rfl | (simp; done) | (simp [*]; done)), H', ⟨by have := HK1.out; have := HJ2.out; omega⟩, by repeat (first | exact Drawn0.refl _ | apply Drawn0.step)⟩
                  · rw [if_neg c8] at H
                    have c8b0 : decide (128 ≤ (rd l0 x6_1)) = false := decide_eq_false c8
                    clear c8
                    have H' := Aside0.mk H
                    clear H
                    have p215 : 0 ≤ (x6_1 : Int) := of_decide_eq_true (by first | (with_reducible assumption) | assumption)
                    have q215 : x6_1 < (l0.length : Int) := of_decide_eq_true (by first | (with_reducible assumption) | assumption)
                    obtain ⟨ad215, e215, hx215_0⟩ := Kd.at_int HR0.out x6_1 p215 q215
                    cases e215
                    replace p215 := eq_true p215
                    replace q215 := eq_true q215
                    have p216 : 0 ≤ (x6_1 : Int) := of_decide_eq_true (by first | (with_reducible assumption) | assumption)
                    have q216 : x6_1 < (l0.length : Int) := of_decide_eq_true (by first | (with_reducible assumption) | assumption)
                    obtain ⟨ad216, e216, hx216_0⟩ := Kd.at_int HR0.out x6_1 p216 q216
                    obtain rfl : ad215 = ad216 := (by injection e216)
                    replace p216 := eq_true p216
                    replace q216 := eq_true q216
                    go_wp2
                    go_roundg kj2
                    case measure => have := HK1.out; have := HJ2.out; omega
                    case rel => exact ⟨(wrap64 (x4_1 + (wrap64 (rd l0 x6_1)))), (x5_1), (wrap64 (x6_1 + 1)), (by first | rfl | (simp; done) | (simp [*]; done)), (by first | rfl | (simp; done) | (simp [*]; done)), (by first | rfl | (simp; done) | (simp [*]; done)), H', ⟨by have := HK1.out; have := HJ2.out; omega⟩, by repeat (first | exact Drawn0.refl _ | apply Drawn0.step)⟩
                · rw [if_neg c7] at H
                  exact absurd H (by simp)
              · rw [if_neg c6] at H
                exact absurd H (by simp)
      · rw [if_neg c2] at H
        have c2b0 : decide (x6_1 < 512) = false := decide_eq_false c2
        clear c2
        simp only [Option.some.injEq, Prod.mk.injEq] at H
        obtain ⟨rfl, rfl⟩ := H
        go_wp2
        go_ret2
        exact ⟨by first | rfl | (simp; done) | (simp [*]; done), by repeat (first | exact Drawn0.refl _ | apply Drawn0.step)⟩

/-! ### oakumref03_Seal: function 21 -/
def oakumref03_Seal.l0 : Nat → List Int → Int → Int → Option (List Int)
  | 0, _, _, _ => none
  | k + 1, x3, x4, x6 => if x6 ≥ 0 then (if 0 ≤ (wrap64 (148 + x6)) then (if (wrap64 (148 + x6)) < (x3.length : Int) then (oakumref03_Seal.l0 k (x3.set ((wrap64 (148 + x6)) : Int).toNat ((wrap64 (48 + (Int.tmod x4 8))) % 256)) (wrap64 (Int.tdiv x4 8)) (wrap64 (x6 - 1))) else (none)) else (none)) else (if 154 < (x3.length : Int) then (if 155 < (x3.length : Int) then (some ((x3.set (154 : Int).toNat 0).set (155 : Int).toNat 32)) else (none)) else (none))
def oakumref03_Seal.f (k : Nat) (l0 : List Int) : Option (List Int) := (some (([] : List Int) : List Int)).bind fun y217 => (if y217.length + l0.length < 140737488355328 then ((oakumref03_Sums.f k l0).bind fun bt223 => (oakumref03_Seal.l0 k (y217 ++ l0) bt223.1 5)) else (none))
theorem oakumref03_Seal.mono_l : ∀ k, (∀ y0 y1 y2, LeO (oakumref03_Seal.l0 k y0 y1 y2) (oakumref03_Seal.l0 (k + 1) y0 y1 y2))
  | 0 => fun _ _ _ r h => by simp [oakumref03_Seal.l0] at h
  | k + 1 => by
    have ih0 := oakumref03_Seal.mono_l k
    · intro y0 y1 y2
      unfold oakumref03_Seal.l0
      repeat' first
      | (with_reducible exact ih0 _ _ _)
      | (with_reducible exact oakumref03_Sums.mono _ _)
      | (with_reducible exact LeO.refl _)
      | (with_reducible exact LeO.none _)
      | (with_reducible refine LeO.ite ?_ ?_)
      | (with_reducible refine LeO.bind ?_ (fun _ => ?_))
      | exact ih0 _ _ _
      | exact oakumref03_Sums.mono _ _
      | exact LeO.none _
      | refine LeO.ite ?_ ?_
      | refine LeO.bind ?_ (fun _ => ?_)
theorem oakumref03_Seal.mono : ∀ a0 k, LeO (oakumref03_Seal.f k a0) (oakumref03_Seal.f (k + 1) a0) := by
  intro a0 k
  have ih0 := oakumref03_Seal.mono_l k
  unfold oakumref03_Seal.f
  repeat' first
      | (with_reducible exact ih0 _ _ _)
      | (with_reducible exact oakumref03_Sums.mono _ _)
      | (with_reducible exact LeO.refl _)
      | (with_reducible exact LeO.none _)
      | (with_reducible refine LeO.ite ?_ ?_)
      | (with_reducible refine LeO.bind ?_ (fun _ => ?_))
      | exact ih0 _ _ _
      | exact oakumref03_Sums.mono _ _
      | exact LeO.none _
      | refine LeO.ite ?_ ?_
      | refine LeO.bind ?_ (fun _ => ?_)
set_option maxHeartbeats 8000000 in
set_option maxRecDepth 100000 in
theorem oakumref03_Seal.calls (k : Nat) (A0 : Option Addr) (c0 : Nat) (l0 : List Int) (r : List Int) (w : World) (hr0 : Kd.C (Kd.int .u8) w A0 l0.length l0) (hc0 : l0.length ≤ c0) (h : oakumref03_Seal.f k l0 = some r) :
    Calls Tryd.prog 21 #[.slice A0 l0.length c0] w fun e w' => ∃ v0_ : Value, e = .returned (v0_) ∧ Kd.R (Kd.int .u8) 5 w' w.heap.size (fun _ => True) v0_ r ∧ Below w.heap.size w w' := by
  have HR0 := Aside0.mk hr0
  have HC0 := Aside0.mk hc0
  clear hr0 hc0
  have HB := Aside0.mk (Below.refl w.heap.size w)
  have H : ((some (([] : List Int) : List Int)).bind fun y217 => (if y217.length + l0.length < 140737488355328 then ((oakumref03_Sums.f k l0).bind fun bt223 => (oakumref03_Seal.l0 k (y217 ++ l0) bt223.1 5)) else (none))) = some r := h
  clear h
  obtain ⟨y217, hy217⟩ : ∃ y_ : List Int, y_ = (([] : List Int)) := ⟨_, rfl⟩
  replace H : (if y217.length + l0.length < 140737488355328 then ((oakumref03_Sums.f k l0).bind fun bt223 => (oakumref03_Seal.l0 k (y217 ++ l0) bt223.1 5)) else (none)) = some r := by first | (rw [hy217]; with_reducible exact H) | (have H2_ := (Option.bind_some _ _).symm.trans H; rw [hy217]; with_reducible exact H2_) | (have H2_ := (Option.bind_some _ _).symm.trans H; with_reducible exact H2_) | with_reducible exact H | (rw [hy217]; exact H) | exact H
  have Ny217 := Aside0.mk hy217
  clear hy217
  by_cases c2 : y217.length + l0.length < 140737488355328
  · rw [if_pos c2] at H
    have LMc2 := Aside0.mk c2
    clear c2
    obtain ⟨y220, hy220⟩ : ∃ y_ : List Int, y_ = (y217 ++ l0) := ⟨_, rfl⟩
    replace H : ((oakumref03_Sums.f k l0).bind fun bt223 => (oakumref03_Seal.l0 k y220 bt223.1 5)) = some r := by first | (rw [hy220]; with_reducible exact H) | (have H2_ := (Option.bind_some _ _).symm.trans H; rw [hy220]; with_reducible exact H2_) | (have H2_ := (Option.bind_some _ _).symm.trans H; with_reducible exact H2_) | with_reducible exact H | (rw [hy220]; exact H) | exact H
    have Ny220 := Aside0.mk hy220
    clear hy220
    replace H := Option.bind_eq_some_iff.mp H
    obtain ⟨⟨t223, t224⟩, A30, H⟩ := H
    replace H : (oakumref03_Seal.l0 k y220 t223 5) = some r := H
    have A3 := Aside0.mk A30
    clear A30
    have H' := Aside0.mk H
    clear H
    go_enter Tryd.func21, Tryd.ntmps21
    go_wp2_with (first | ((with_reducible refine gate_dst (N := 7) rfl ?_); refine Kd.R_lit (Kd.int .u8) _ 5 ?hg (N := 7) ?hd (xs := ([] : List Int)) (inner := []) (ok := fun _ => True) (okp := fun _ => True) ?hr ?hp (fun _ hk => hk) trivial (Below.refl _ _) (Nat.le_refl _) (by simp) ?_; (case hd => rfl); (case hg => rfl); (case hr => first | (go_simp; done) | (go_simp; rfl)); (case hp => exact (Reps.none _ _)); intro v218 w4 ho5 hb hg_ hnew_; clear hg_ hnew_; (first | rw [← Ny217.out] at ho5 | (simp only [Int.reduceToNat] at ho5; rw [← Ny217.out] at ho5)); have n0_ := Aside0.mk (Kd.R_lower ho5 (below_size (by repeat (first | (with_reducible first | exact HB.out | apply below_alloc | apply pw_below_drewN | apply below_drew1) | exact HB.out)))); have n1_ := Aside0.mk (below_step (by repeat (first | (with_reducible first | exact HB.out | apply below_alloc | apply pw_below_drewN | apply below_drew1) | exact HB.out)) hb); clear HB; have HO219 := n0_; have HB := n1_; clear n0_ n1_; clear hb ho5) | ((with_reducible refine gate_builtin (b := .append) (xs := #[.tmp 7, .tmp 8]) rfl ?_); at_builtin; refine Kd.R_append_rows (Kd.int .u8) (w0 := w) w.heap.size rfl (.tmp 7) (.tmp 8) 25 5 (.int .u8 0) 1 rfl Tryd.underlying25 info5 rfl (by decide) (by omega) v218 y217 l0 _ _ _ (fun _ => True) (fun _ => False) rfl rfl ?aO ?aR (fun _ _ h => h) (fun _ h => h.elim) ?aF ?aB ?aS ?aL ?_; (case aR => repeat (first | exact (Kd.C_below HR0.out HB.out) | (with_reducible refine Kd.C_alloc ?_ _) | (with_reducible refine Kd.C_drewN ?_ _) | (with_reducible refine Kd.C_drew ?_))); (case aB => exact (by repeat (first | (with_reducible first | exact HB.out | apply below_alloc | apply pw_below_drewN | apply below_drew1) | exact HB.out))); (case aF => exact (fun _ _ => trivial)); (case aO => exact (by (with_reducible repeat (first | apply Kd.R_alloc | apply Kd.R_drewN | apply Kd.R_drew)); exact HO219.out)); (case aS => exact (below_size (by repeat (first | (with_reducible first | exact HB.out | apply below_alloc | apply pw_below_drewN | apply below_drew1) | exact HB.out)))); (case aL => have := LMc2.out; omega); intro v221 w6 ho hb hg hat; rw [← Ny220.out] at ho; have n0_ := Aside0.mk (hb); have n1_ := Aside0.mk (ho); clear HB; clear HO219; have HB := n0_; have HO222 := n1_; clear n0_ n1_; clear ho hb hg hat) | ((with_reducible refine gate_callee (f := 44) rfl ?_); refine goesL_ (some 12) rfl rfl Tryd.func44 (by kernel_rfl) rfl #[.slice A0 l0.length c0] rfl (by (try simp only [List.map_toArray, List.map_cons, List.map_nil]); first | done | rfl | (simp only [List.length_drop, List.length_take]; rfl)) ?_; (with_reducible refine (oakumref03_Sums.calls k _ _ l0 t223 t224 _ ?side1 ?side2 A3.out).mono ?_); (case side1 => repeat (first | exact (Kd.C_below HR0.out HB.out) | (with_reducible refine Kd.C_alloc ?_ _) | (with_reducible refine Kd.C_drewN ?_ _) | (with_reducible refine Kd.C_drew ?_))); (case side2 => exact HC0.out); rintro e w' ⟨rfl, ⟨nd, rfl⟩⟩; refine ⟨_, rfl, ?_⟩))
    go_loopg [4, 6] k (fun kq v4 v6 w' => ∃ (x3_1 : List Int) (x4_1 : Int) (x6_1 : Int), v4 = .int .i64 x4_1 ∧ v6 = .int .i64 x6_1 ∧ Aside0 (oakumref03_Seal.l0 kq x3_1 x4_1 x6_1 = some r) ∧ Aside0 (kq ≤ k) ∧ Aside0 (Kd.R (Kd.int .u8) 5 w' w.heap.size (fun _ => True) v221 x3_1) ∧ Aside0 (Below w.heap.size w w'))
    case atStart => exact ⟨(y220), (t223), (5), (by first | rfl | (simp; done) | (simp [*]; done)), (by first | rfl | (simp; done) | (simp [*]; done)), H', ⟨Nat.le_refl _⟩, ⟨by (with_reducible repeat (first | apply Kd.R_alloc | apply Kd.R_drewN | apply Kd.R_drew)); exact HO222.out⟩, ⟨by repeat (first | (with_reducible first | exact HB.out | apply below_alloc | apply pw_below_drewN | apply below_drew1) | exact HB.out)⟩⟩
    case round =>
      clear H'
      try clear c2
      try clear p2
      try clear c4
      obtain ⟨x3_1, x4_1, x6_1, rfl, rfl, HA, HK1, HO_3, HB⟩ := hrel
      cases gk with
      | zero => exact absurd HA.out (by simp [oakumref03_Seal.l0])
      | succ k1 =>
        have H := HA.out
        clear HA
        simp only [oakumref03_Seal.l0] at H
        by_cases c7 : x6_1 ≥ 0
        · rw [if_pos c7] at H
          have c7b0 : decide (0 ≤ x6_1) = true := decide_eq_true c7
          clear c7
          obtain ⟨ji8, hji8⟩ : ∃ j_ : Int, (wrap64 (148 + x6_1)) = j_ := ⟨_, rfl⟩
          replace H : (if 0 ≤ (ji8) then (if (ji8) < (x3_1.length : Int) then (oakumref03_Seal.l0 k1 (x3_1.set ((ji8) : Int).toNat ((wrap64 (48 + (Int.tmod x4_1 8))) % 256)) (wrap64 (Int.tdiv x4_1 8)) (wrap64 (x6_1 - 1))) else (none)) else (none)) = some r := by first | (rw [hji8] at H; exact H) | (simp only [hji8] at H ⊢; exact H)
          have hji8w : (IntKind.i64.wrap (148 + x6_1)) = ji8 := (i64_w _).trans hji8
          by_cases c9 : 0 ≤ (ji8)
          · rw [if_pos c9] at H
            have c9b0 : decide (0 ≤ (ji8)) = true := decide_eq_true c9
            clear c9
            by_cases c10 : (ji8) < (x3_1.length : Int)
            · rw [if_pos c10] at H
              have c10b0 : decide ((ji8) < (x3_1.length : Int)) = true := decide_eq_true c10
              clear c10
              obtain ⟨y225, hy225⟩ : ∃ y_ : List Int, y_ = (x3_1.set ((ji8) : Int).toNat ((wrap64 (48 + (Int.tmod x4_1 8))) % 256)) := ⟨_, rfl⟩
              replace H : (oakumref03_Seal.l0 k1 y225 (wrap64 (Int.tdiv x4_1 8)) (wrap64 (x6_1 - 1))) = some r := by first | (rw [hy225]; with_reducible exact H) | (have H2_ := (Option.bind_some _ _).symm.trans H; rw [hy225]; with_reducible exact H2_) | (have H2_ := (Option.bind_some _ _).symm.trans H; with_reducible exact H2_) | with_reducible exact H | (rw [hy225]; exact H) | exact H
              have Ny225 := Aside0.mk hy225
              clear hy225
              have H' := Aside0.mk H
              clear H
              have p11 : 0 ≤ ((ji8) : Int) := of_decide_eq_true (by first | (with_reducible assumption) | assumption)
              have q11 : ((ji8) : Int) < ((x3_1.length : Int) : Int) := of_decide_eq_true (by first | (with_reducible assumption) | assumption)
              obtain ⟨go11, co11, eo11, gb11, gl11, cl11, HG11⟩ := Kd.R_form HO_3.out (by omega)
              (first | cases eo11 | (injection eo11 with ea_ en_ ec_; (first | subst ea_ | (injection ea_ with ea_; subst ea_)); subst ec_; clear en_))
              have GB11 := Aside0.mk gb11
              have GG11 := Aside0.mk HG11
              clear gb11 gl11 HG11
              obtain ⟨hx11_0, hf11_0⟩ := Kd.R_celln 0 HO_3.out ((ji8) : Int) p11 q11
              replace p11 := eq_true p11
              replace q11 := eq_true q11
              have HP12 := Kd.R_putg HO_3.out ((ji8) : Int) ((wrap64 (48 + (Int.tmod x4_1 8))) % 256)
              go_wp2_with (first | ((with_reducible refine gate_store (t := 5) (p := 26) rfl ?_); refine store_event (t := 5) (p := 26) (v := ?vo_w13) (w1 := (wr.setCell ⟨go11, ((ji8) : Int).toNat, none⟩ (.int .u8 ((wrap64 (48 + (Int.tmod x4_1 8))) % 256)))) ?hg ?ho ?hn ?hr ?_; (case ho => rfl); (case hg => rfl); (case hn => rfl); (case hr => first | (go_simp; done) | (go_simp; rfl)); intro w13 hw; have hg : wr.grownBy w13 (some go11) := (by rw [hw]; exact HP12.2); have hp_ : Kd.R (Kd.int .u8) 5 w13 w.heap.size (fun _ => True) (.slice (some ⟨go11, 0, none⟩) x3_1.length co11) y225 := (by rw [hw, Ny225.out]; exact HP12.1); clear HP12; have n0_ := Aside0.mk (hp_); have n1_ := Aside0.mk ((by rw [hw]; exact below_set (HB.out) GB11.out : Below w.heap.size w w13)); clear HO_3; clear HB; have HO_3 := n0_; have HB := n1_; clear n0_ n1_; clear hg hw hp_))
              go_roundg k1
              case measure => have := HK1.out; omega
              case rel => exact ⟨(y225), (wrap64 (Int.tdiv x4_1 8)), (wrap64 (x6_1 - 1)), (by first | rfl | (simp; done) | (simp [*]; done)), (by first | rfl | (simp; done) | (simp [*]; done)), H', ⟨by have := HK1.out; omega⟩, ⟨by (with_reducible repeat (first | apply Kd.R_alloc | apply Kd.R_drewN | apply Kd.R_drew)); exact HO_3.out⟩, ⟨by repeat (first | (with_reducible first | exact HB.out | apply below_alloc | apply pw_below_drewN | apply below_drew1) | exact HB.out)⟩⟩
            · rw [if_neg c10] at H
              exact absurd H (by simp)
          · rw [if_neg c9] at H
            exact absurd H (by simp)
        · rw [if_neg c7] at H
          have c7b0 : decide (0 ≤ x6_1) = false := decide_eq_false c7
          clear c7
          by_cases c14 : 154 < (x3_1.length : Int)
          · rw [if_pos c14] at H
            have c14b0 : decide (154 < (x3_1.length : Int)) = true := decide_eq_true c14
            have c14b1 : decide (154 < x3_1.length) = true := decide_eq_true (by omega)
            clear c14
            obtain ⟨y226, hy226⟩ : ∃ y_ : List Int, y_ = (x3_1.set (154 : Int).toNat 0) := ⟨_, rfl⟩
            replace H : (if 155 < (x3_1.length : Int) then (some (y226.set (155 : Int).toNat 32)) else (none)) = some r := by first | (rw [hy226]; with_reducible exact H) | (have H2_ := (Option.bind_some _ _).symm.trans H; rw [hy226]; with_reducible exact H2_) | (have H2_ := (Option.bind_some _ _).symm.trans H; with_reducible exact H2_) | with_reducible exact H | (rw [hy226]; exact H) | exact H
            have Ny226 := Aside0.mk hy226
            clear hy226
            by_cases c16 : 155 < (x3_1.length : Int)
            · rw [if_pos c16] at H
              have c16b0 : decide (155 < (x3_1.length : Int)) = true := decide_eq_true c16
              have c16b1 : decide (155 < x3_1.length) = true := decide_eq_true (by omega)
              clear c16
              obtain ⟨y227, hy227⟩ : ∃ y_ : List Int, y_ = (y226.set (155 : Int).toNat 32) := ⟨_, rfl⟩
              replace H : (some y227) = some r := by first | (rw [hy227]; with_reducible exact H) | (have H2_ := (Option.bind_some _ _).symm.trans H; rw [hy227]; with_reducible exact H2_) | (have H2_ := (Option.bind_some _ _).symm.trans H; with_reducible exact H2_) | with_reducible exact H | (rw [hy227]; exact H) | exact H
              have Ny227 := Aside0.mk hy227
              clear hy227
              obtain rfl := Option.some.inj H
              have p15 : 0 ≤ (154 : Int) := (by omega)
              have q15 : (154 : Int) < ((x3_1.length : Int) : Int) := of_decide_eq_true (by first | (with_reducible assumption) | assumption)
              have qi15 : (154 < x3_1.length) = True := eq_true (by omega)
              obtain ⟨go15, co15, eo15, gb15, gl15, cl15, HG15⟩ := Kd.R_form HO_3.out (by omega)
              (first | cases eo15 | (injection eo15 with ea_ en_ ec_; (first | subst ea_ | (injection ea_ with ea_; subst ea_)); subst ec_; clear en_))
              have GB15 := Aside0.mk gb15
              have GG15 := Aside0.mk HG15
              clear gb15 gl15 HG15
              obtain ⟨hx15_0, hf15_0⟩ := Kd.R_celln 0 HO_3.out (154 : Int) p15 q15
              (try rw [show ((154 : Int)).toNat = 154 from rfl] at hx15_0)
              (try simp only [Nat.reduceMul, Nat.zero_mul, Nat.zero_add, Nat.reduceAdd] at hx15_0)
              (try rw [show ((154 : Int)).toNat = 154 from rfl] at hf15_0)
              (try simp only [Nat.reduceMul, Nat.zero_mul, Nat.zero_add, Nat.reduceAdd] at hf15_0)
              replace p15 := eq_true p15
              replace q15 := eq_true q15
              have HP18 := Kd.R_putg HO_3.out (154 : Int) 0
              go_wp2_with (first | ((with_reducible refine gate_store (t := 5) (p := 31) rfl ?_); refine store_event (t := 5) (p := 31) (v := ?vo_w19) (w1 := (wr.setCell ⟨go15, (154 : Int).toNat, none⟩ (.int .u8 0))) ?hg ?ho ?hn ?hr ?_; (case ho => rfl); (case hg => rfl); (case hn => rfl); (case hr => first | (go_simp; done) | (go_simp; rfl)); intro w19 hw; have hg : wr.grownBy w19 (some go15) := (by rw [hw]; exact HP18.2); have hp_ : Kd.R (Kd.int .u8) 5 w19 w.heap.size (fun _ => True) (.slice (some ⟨go15, 0, none⟩) x3_1.length co15) y226 := (by rw [hw, Ny226.out]; exact HP18.1); clear HP18; have n0_ := Aside0.mk (hp_); have n1_ := Aside0.mk ((by rw [hw]; exact below_set (HB.out) GB15.out : Below w.heap.size w w19)); clear HO_3; clear HB; have HO_3 := n0_; have HB := n1_; clear n0_ n1_; clear hg hw hp_; have p17 : 0 ≤ (155 : Int) := (by omega); have q17 : (155 : Int) < ((x3_1.length : Int) : Int) := of_decide_eq_true (by first | (with_reducible assumption) | assumption); have qi17 : (155 < x3_1.length) = True := eq_true (by omega); obtain ⟨hx17_0, hf17_0⟩ := Kd.R_celln 0 HO_3.out (155 : Int) p17 q17; (try rw [show ((155 : Int)).toNat = 155 from rfl] at hx17_0); (try simp only [Nat.reduceMul, Nat.zero_mul, Nat.zero_add, Nat.reduceAdd] at hx17_0); (try rw [show ((155 : Int)).toNat = 155 from rfl] at hf17_0); (try simp only [Nat.reduceMul, Nat.zero_mul, Nat.zero_add, Nat.reduceAdd] at hf17_0); replace p17 := eq_true p17; replace q17 := eq_true q17; obtain ⟨hy20_, hz20_⟩ := Kd.R_celln 0 HO_3.out (155 : Int) (by omega) (of_decide_eq_true (by first | (with_reducible assumption) | assumption)); (try simp only [Int.reduceToNat, Int.toNat_zero, Int.toNat_ofNat, Nat.reduceMul, Nat.zero_mul, Nat.zero_add] at hy20_ hz20_); (try rw [show ((155 : Int)).toNat = 155 from rfl] at hy20_); (try rw [show ((155 : Int)).toNat = 155 from rfl] at hz20_); have HP20 := Kd.R_putg HO_3.out (155 : Int) 32) | ((with_reducible refine gate_store (t := 5) (p := 32) rfl ?_); refine store_event (t := 5) (p := 32) (v := ?vo_w21) (w1 := (w19.setCell ⟨go15, (155 : Int).toNat, none⟩ (.int .u8 32))) ?hg ?ho ?hn ?hr ?_; (case ho => rfl); (case hg => rfl); (case hn => rfl); (case hr => first | (go_simp; done) | (go_simp; rfl)); intro w21 hw; have hg : w19.grownBy w21 (some go15) := (by rw [hw]; exact HP20.2); have hp_ : Kd.R (Kd.int .u8) 5 w21 w.heap.size (fun _ => True) (.slice (some ⟨go15, 0, none⟩) x3_1.length co15) y227 := (by rw [hw, Ny227.out]; exact HP20.1); clear HP20; have n0_ := Aside0.mk (hp_); have n1_ := Aside0.mk ((by rw [hw]; exact below_set (HB.out) GB15.out : Below w.heap.size w w21)); clear HO_3; clear HB; have HO_3 := n0_; have HB := n1_; clear n0_ n1_; clear hg hw hp_))
              go_ret
              exact ⟨_, by first | rfl | (simp [errW_none, errW_some] <;> rfl) | (simp [*, errW_none, errW_some] <;> rfl), by (with_reducible repeat (first | apply Kd.R_alloc | apply Kd.R_drewN | apply Kd.R_drew)); exact HO_3.out, by repeat (first | (with_reducible first | exact HB.out | apply below_alloc | apply pw_below_drewN | apply below_drew1) | exact HB.out)⟩
            · rw [if_neg c16] at H
              exact absurd H (by simp)
          · rw [if_neg c14] at H
            exact absurd H (by simp)
  · rw [if_neg c2] at H
    exact absurd H (by simp)

-- NOT PRINTED: function 7 (oakumlaw06_alive)

-- NOT PRINTED: function 10 (oakumlaw06_Of)

/-! ### oakumref06_Known: function 28 -/
def oakumref06_Known.f (a0 : Int) : Option (Bool) := if a0 = 0 then (some true) else (if a0 ≥ 48 then (if a0 ≤ 55 then (some true) else (if a0 = 120 then (some true) else (if a0 = 103 then (some true) else (if a0 = 76 then (some true) else (some (a0 == 75)))))) else (if a0 = 120 then (some true) else (if a0 = 103 then (some true) else (if a0 = 76 then (some true) else (some (a0 == 75))))))
set_option maxHeartbeats 8000000 in
set_option maxRecDepth 100000 in
theorem oakumref06_Known.calls (a0 : Int) (r : Bool) (w : World) (h : oakumref06_Known.f a0 = some r) :
    Calls Tryd.prog 28 #[.int .u8 a0] w fun e w' => e = .returned (.bool r) ∧ Drawn0 w w' := by
  have H : (if a0 = 0 then (some true) else (if a0 ≥ 48 then (if a0 ≤ 55 then (some true) else (if a0 = 120 then (some true) else (if a0 = 103 then (some true) else (if a0 = 76 then (some true) else (some (a0 == 75)))))) else (if a0 = 120 then (some true) else (if a0 = 103 then (some true) else (if a0 = 76 then (some true) else (some (a0 == 75))))))) = some r := h
  clear h
  by_cases c2 : a0 = 0
  · rw [if_pos c2] at H
    have c2b0 : (a0 == 0) = true := beq_iff_eq.mpr c2
    have c2b1 : (a0 != 0) = false := bne_eq_false_iff_eq.mpr c2
    clear c2
    obtain rfl := Option.some.inj H
    go_enter Tryd.func28, Tryd.ntmps28
    go_wp2
    go_ret
    exact ⟨by first | rfl | (simp; done) | (simp [*]; done), by repeat (first | exact Drawn0.refl _ | apply Drawn0.step)⟩
  · rw [if_neg c2] at H
    have c2b0 : (a0 == 0) = false := beq_eq_false_iff_ne.mpr c2
    have c2b1 : (a0 != 0) = true := bne_iff_ne.mpr c2
    by_cases c3 : a0 ≥ 48
    · rw [if_pos c3] at H
      have c3b0 : decide (48 ≤ a0) = true := decide_eq_true c3
      clear c3
      by_cases c4 : a0 ≤ 55
      · rw [if_pos c4] at H
        have c4b0 : decide (a0 ≤ 55) = true := decide_eq_true c4
        clear c4
        obtain rfl := Option.some.inj H
        go_enter Tryd.func28, Tryd.ntmps28
        go_wp2
        go_ret
        exact ⟨by first | rfl | (simp; done) | (simp [*]; done), by repeat (first | exact Drawn0.refl _ | apply Drawn0.step)⟩
      · rw [if_neg c4] at H
        have c4b0 : decide (a0 ≤ 55) = false := decide_eq_false c4
        clear c4
        by_cases c5 : a0 = 120
        · rw [if_pos c5] at H
          have c5b0 : (a0 == 120) = true := beq_iff_eq.mpr c5
          have c5b1 : (a0 != 120) = false := bne_eq_false_iff_eq.mpr c5
          clear c5
          obtain rfl := Option.some.inj H
          go_enter Tryd.func28, Tryd.ntmps28
          go_wp2
          go_ret
          exact ⟨by first | rfl | (simp; done) | (simp [*]; done), by repeat (first | exact Drawn0.refl _ | apply Drawn0.step)⟩
        · rw [if_neg c5] at H
          have c5b0 : (a0 == 120) = false := beq_eq_false_iff_ne.mpr c5
          have c5b1 : (a0 != 120) = true := bne_iff_ne.mpr c5
          by_cases c6 : a0 = 103
          · rw [if_pos c6] at H
            have c6b0 : (a0 == 103) = true := beq_iff_eq.mpr c6
            have c6b1 : (a0 != 103) = false := bne_eq_false_iff_eq.mpr c6
            clear c6
            obtain rfl := Option.some.inj H
            go_enter Tryd.func28, Tryd.ntmps28
            go_wp2
            go_ret
            exact ⟨by first | rfl | (simp; done) | (simp [*]; done), by repeat (first | exact Drawn0.refl _ | apply Drawn0.step)⟩
          · rw [if_neg c6] at H
            have c6b0 : (a0 == 103) = false := beq_eq_false_iff_ne.mpr c6
            have c6b1 : (a0 != 103) = true := bne_iff_ne.mpr c6
            by_cases c7 : a0 = 76
            · rw [if_pos c7] at H
              have c7b0 : (a0 == 76) = true := beq_iff_eq.mpr c7
              have c7b1 : (a0 != 76) = false := bne_eq_false_iff_eq.mpr c7
              clear c7
              obtain rfl := Option.some.inj H
              go_enter Tryd.func28, Tryd.ntmps28
              go_wp2
              go_ret
              exact ⟨by first | rfl | (simp; done) | (simp [*]; done), by repeat (first | exact Drawn0.refl _ | apply Drawn0.step)⟩
            · rw [if_neg c7] at H
              have c7b0 : (a0 == 76) = false := beq_eq_false_iff_ne.mpr c7
              have c7b1 : (a0 != 76) = true := bne_iff_ne.mpr c7
              obtain rfl := Option.some.inj H
              go_enter Tryd.func28, Tryd.ntmps28
              go_wp2
              go_ret
              exact ⟨by first | rfl | (simp; done) | (simp [*]; done), by repeat (first | exact Drawn0.refl _ | apply Drawn0.step)⟩
    · rw [if_neg c3] at H
      have c3b0 : decide (48 ≤ a0) = false := decide_eq_false c3
      clear c3
      by_cases c8 : a0 = 120
      · rw [if_pos c8] at H
        have c8b0 : (a0 == 120) = true := beq_iff_eq.mpr c8
        have c8b1 : (a0 != 120) = false := bne_eq_false_iff_eq.mpr c8
        clear c8
        obtain rfl := Option.some.inj H
        go_enter Tryd.func28, Tryd.ntmps28
        go_wp2
        go_ret
        exact ⟨by first | rfl | (simp; done) | (simp [*]; done), by repeat (first | exact Drawn0.refl _ | apply Drawn0.step)⟩
      · rw [if_neg c8] at H
        have c8b0 : (a0 == 120) = false := beq_eq_false_iff_ne.mpr c8
        have c8b1 : (a0 != 120) = true := bne_iff_ne.mpr c8
        by_cases c9 : a0 = 103
        · rw [if_pos c9] at H
          have c9b0 : (a0 == 103) = true := beq_iff_eq.mpr c9
          have c9b1 : (a0 != 103) = false := bne_eq_false_iff_eq.mpr c9
          clear c9
          obtain rfl := Option.some.inj H
          go_enter Tryd.func28, Tryd.ntmps28
          go_wp2
          go_ret
          exact ⟨by first | rfl | (simp; done) | (simp [*]; done), by repeat (first | exact Drawn0.refl _ | apply Drawn0.step)⟩
        · rw [if_neg c9] at H
          have c9b0 : (a0 == 103) = false := beq_eq_false_iff_ne.mpr c9
          have c9b1 : (a0 != 103) = true := bne_iff_ne.mpr c9
          by_cases c10 : a0 = 76
          · rw [if_pos c10] at H
            have c10b0 : (a0 == 76) = true := beq_iff_eq.mpr c10
            have c10b1 : (a0 != 76) = false := bne_eq_false_iff_eq.mpr c10
            clear c10
            obtain rfl := Option.some.inj H
            go_enter Tryd.func28, Tryd.ntmps28
            go_wp2
            go_ret
            exact ⟨by first | rfl | (simp; done) | (simp [*]; done), by repeat (first | exact Drawn0.refl _ | apply Drawn0.step)⟩
          · rw [if_neg c10] at H
            have c10b0 : (a0 == 76) = false := beq_eq_false_iff_ne.mpr c10
            have c10b1 : (a0 != 76) = true := bne_iff_ne.mpr c10
            obtain rfl := Option.some.inj H
            go_enter Tryd.func28, Tryd.ntmps28
            go_wp2
            go_ret
            exact ⟨by first | rfl | (simp; done) | (simp [*]; done), by repeat (first | exact Drawn0.refl _ | apply Drawn0.step)⟩

-- NOT PRINTED: function 29 (oakumref06_Texts)

end Go.Proofs.YtoabboeongbloaaDoor.PHeadGets
