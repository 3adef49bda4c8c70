-- Written by a program of this session over the print (contracts by hand for the functions that it passes over).
import Derived.Test.YthojbddpfpgnhaaPTextFieldsx0
namespace Go.Proofs.Ythojbddpfpgnhaa.PTextFields
open Go.RowKit Go.Proofs.YthojbddpfpgnhaaW.PrintWords Go.Proofs.YthojbddpfpgnhaaW.PrintLast Go.Proofs.YthojbddpfpgnhaaW.PrintMore
attribute [local go_sem] max2_int min2_int max_two min_two max_three min_three max_four min_four   -- for this text's walks alone
set_option linter.unusedVariables false
set_option linter.unusedSimpArgs false

/-! ### text_open: function 27 -/
def text_open.f (a0 : Int) : Option (Bool) := if a0 > 32 then (if a0 < 127 then (some (a0 != 92)) else (some false)) else (some false)
set_option maxHeartbeats 8000000 in
set_option maxRecDepth 100000 in
theorem text_open.calls (a0 : Int) (r : Bool) (w : World) (h : text_open.f a0 = some r) :
    Calls Try.prog 27 #[.int .u8 a0] w fun e w' => e = .returned (.bool r) ∧ Drawn0 w w' := by
  have H : (if a0 > 32 then (if a0 < 127 then (some (a0 != 92)) else (some false)) else (some false)) = some r := h
  clear h
  by_cases c2 : a0 > 32
  · rw [if_pos c2] at H
    have c2b0 : decide (32 < a0) = true := decide_eq_true c2
    clear c2
    by_cases c3 : a0 < 127
    · rw [if_pos c3] at H
      have c3b0 : decide (a0 < 127) = true := decide_eq_true c3
      clear c3
      obtain rfl := Option.some.inj H
      go_enter Try.func27, Try.ntmps27
      go_wp2
      go_ret
      exact ⟨by first | rfl | (simp; done) | (simp [*]; done), by repeat (first | exact Drawn0.refl _ | apply Drawn0.step)⟩
    · rw [if_neg c3] at H
      have c3b0 : decide (a0 < 127) = false := decide_eq_false c3
      clear c3
      obtain rfl := Option.some.inj H
      go_enter Try.func27, Try.ntmps27
      go_wp2
      go_ret
      exact ⟨by first | rfl | (simp; done) | (simp [*]; done), by repeat (first | exact Drawn0.refl _ | apply Drawn0.step)⟩
  · rw [if_neg c2] at H
    have c2b0 : decide (32 < a0) = false := decide_eq_false c2
    clear c2
    obtain rfl := Option.some.inj H
    go_enter Try.func27, Try.ntmps27
    go_wp2
    go_ret
    exact ⟨by first | rfl | (simp; done) | (simp [*]; done), by repeat (first | exact Drawn0.refl _ | apply Drawn0.step)⟩

/-! ### text_digit: function 28 -/
def text_digit.f (a0 : Int) : Option (Bool) := if a0 ≥ 48 then (some (decide (a0 ≤ 55))) else (some false)
set_option maxHeartbeats 8000000 in
set_option maxRecDepth 100000 in
theorem text_digit.calls (a0 : Int) (r : Bool) (w : World) (h : text_digit.f a0 = some r) :
    Calls Try.prog 28 #[.int .u8 a0] w fun e w' => e = .returned (.bool r) ∧ Drawn0 w w' := by
  have H : (if a0 ≥ 48 then (some (decide (a0 ≤ 55))) else (some false)) = some r := h
  clear h
  by_cases c2 : a0 ≥ 48
  · rw [if_pos c2] at H
    have c2b0 : decide (48 ≤ a0) = true := decide_eq_true c2
    clear c2
    obtain rfl := Option.some.inj H
    go_enter Try.func28, Try.ntmps28
    go_wp2
    go_ret
    exact ⟨by first | rfl | (simp; done) | (simp [*]; done), by repeat (first | exact Drawn0.refl _ | apply Drawn0.step)⟩
  · rw [if_neg c2] at H
    have c2b0 : decide (48 ≤ a0) = false := decide_eq_false c2
    clear c2
    obtain rfl := Option.some.inj H
    go_enter Try.func28, Try.ntmps28
    go_wp2
    go_ret
    exact ⟨by first | rfl | (simp; done) | (simp [*]; done), by repeat (first | exact Drawn0.refl _ | apply Drawn0.step)⟩

/-! ### text_Unquote: function 8 -/
mutual
def text_Unquote.l0 : Nat → ByteArray → List Int → Option (ByteArray × Int)
  | 0, _, _ => none
  | k + 1, x0, x4 => if (x0.size : Int) > 0 then (if 0 < (x0.size : Int) then ((text_open.f (bt x0 0)).bind fun t101 => (if t101 = true then (if x4.length < 140737488355328 then (if 1 ≤ (x0.size : Int) then (text_Unquote.l0 k (x0.extract 1 x0.size) (x4 ++ [bt x0 0])) else (none)) else (none)) else (if (bt x0 0) = 92 then (if (x0.size : Int) < 4 then (text_Unquote.j1 k x0 x4 true) else (if 1 < (x0.size : Int) then (if (bt x0 1) > 51 then (text_Unquote.j1 k x0 x4 true) else ((text_digit.f (bt x0 1)).bind fun t105 => (if t105 = true then (if 2 < (x0.size : Int) then ((text_digit.f (bt x0 2)).bind fun t106 => (if t106 = true then (if 3 < (x0.size : Int) then ((text_digit.f (bt x0 3)).bind fun t107 => (text_Unquote.j1 k x0 x4 (!t107))) else (none)) else (text_Unquote.j1 k x0 x4 true))) else (none)) else (text_Unquote.j1 k x0 x4 true)))) else (none))) else (text_Unquote.j1 k x0 x4 true)))) else (none)) else (some (strOfNums x4, 0))
def text_Unquote.j1 : Nat → ByteArray → List Int → Bool → Option (ByteArray × Int)
  | 0, _, _, _ => none
  | k + 1, x0, x4, x49 => if x49 = true then (some ((⟨#[]⟩ : ByteArray), 15)) else (if 1 < (x0.size : Int) then (if 2 < (x0.size : Int) then (if 3 < (x0.size : Int) then ((text_open.f (Go.bits .or .u8 (Go.bits .or .u8 (((Go.bits .and .u8 (bt x0 1) 7) * 64) % 256) (((Go.bits .and .u8 (bt x0 2) 7) * 8) % 256)) (Go.bits .and .u8 (bt x0 3) 7))).bind fun t108 => (if t108 = true then (some ((⟨#[]⟩ : ByteArray), 15)) else (if x4.length < 140737488355328 then (if 4 ≤ (x0.size : Int) then (text_Unquote.l0 k (x0.extract 4 x0.size) (x4 ++ [Go.bits .or .u8 (Go.bits .or .u8 (((Go.bits .and .u8 (bt x0 1) 7) * 64) % 256) (((Go.bits .and .u8 (bt x0 2) 7) * 8) % 256)) (Go.bits .and .u8 (bt x0 3) 7)])) else (none)) else (none)))) else (none)) else (none)) else (none))
end
def text_Unquote.f (k : Nat) (a0 : ByteArray) : Option (ByteArray × Int) := text_Unquote.l0 k a0 ([] : List Int)
theorem text_Unquote.mono_l : ∀ k, (∀ y0 y1, LeO (text_Unquote.l0 k y0 y1) (text_Unquote.l0 (k + 1) y0 y1)) ∧ (∀ y0 y1 y2, LeO (text_Unquote.j1 k y0 y1 y2) (text_Unquote.j1 (k + 1) y0 y1 y2))
  | 0 => ⟨fun _ _ r h => by simp [text_Unquote.l0] at h, fun _ _ _ r h => by simp [text_Unquote.j1] at h⟩
  | k + 1 => by
    obtain ⟨ih0, ih1⟩ := text_Unquote.mono_l k
    refine ⟨?_, ?_⟩
    · intro y0 y1
      unfold text_Unquote.l0
      repeat' first
      | (with_reducible exact ih0 _ _)
      | (with_reducible exact ih1 _ _ _)
      | (with_reducible exact LeO.refl _)
      | (with_reducible exact LeO.none _)
      | (with_reducible refine LeO.ite ?_ ?_)
      | (with_reducible refine LeO.bind ?_ (fun _ => ?_))
      | exact ih0 _ _
      | exact ih1 _ _ _
      | exact LeO.none _
      | refine LeO.ite ?_ ?_
      | refine LeO.bind ?_ (fun _ => ?_)
    · intro y0 y1 y2
      unfold text_Unquote.j1
      repeat' first
      | (with_reducible exact ih0 _ _)
      | (with_reducible exact ih1 _ _ _)
      | (with_reducible exact LeO.refl _)
      | (with_reducible exact LeO.none _)
      | (with_reducible refine LeO.ite ?_ ?_)
      | (with_reducible refine LeO.bind ?_ (fun _ => ?_))
      | exact ih0 _ _
      | exact ih1 _ _ _
      | exact LeO.none _
      | refine LeO.ite ?_ ?_
      | refine LeO.bind ?_ (fun _ => ?_)
theorem text_Unquote.mono : ∀ a0 k, LeO (text_Unquote.f k a0) (text_Unquote.f (k + 1) a0) := by
  intro a0 k
  obtain ⟨ih0, ih1⟩ := text_Unquote.mono_l k
  unfold text_Unquote.f
  repeat' first
      | (with_reducible exact ih0 _ _)
      | (with_reducible exact ih1 _ _ _)
      | (with_reducible exact LeO.refl _)
      | (with_reducible exact LeO.none _)
      | (with_reducible refine LeO.ite ?_ ?_)
      | (with_reducible refine LeO.bind ?_ (fun _ => ?_))
      | exact ih0 _ _
      | exact ih1 _ _ _
      | exact LeO.none _
      | refine LeO.ite ?_ ?_
      | refine LeO.bind ?_ (fun _ => ?_)
set_option maxHeartbeats 8000000 in
set_option maxRecDepth 100000 in
theorem text_Unquote.calls (k : Nat) (a0 : ByteArray) (r1 : ByteArray) (r2 : Int) (w : World) (h : text_Unquote.f k a0 = some (r1, r2)) :
    Calls Try.prog 8 #[.string a0] w fun e w' => e = .returned (.tuple #[.string r1, .int .u8 r2]) ∧ Below w.heap.size w w' := by
  have HB := Aside0.mk (Below.refl w.heap.size w)
  have H : (text_Unquote.l0 k a0 ([] : List Int)) = some (r1, r2) := h
  clear h
  have H' := Aside0.mk H
  clear H
  go_enter Try.func8, Try.ntmps8
  go_wp2
  repeat (go_quiet (fail); try go_wp2)
  go_loopg [0, 4] k (fun kq v0 v4 w' => ∃ (x0_1 : ByteArray) (x4_1 : List Int), v0 = .string x0_1 ∧ Aside0 (text_Unquote.l0 kq x0_1 x4_1 = some (r1, r2)) ∧ Aside0 (kq ≤ k) ∧ Aside0 (Kd.R (Kd.int .u8) 5 w' w.heap.size (fun _ => True) v4 x4_1) ∧ Aside0 (Below w.heap.size w w'))
  case atStart => exact ⟨(a0), (([] : List Int)), (by first | rfl | (simp; done) | (simp [*]; done)), H', ⟨Nat.le_refl _⟩, ⟨by first | exact Kd.R_nil _ _ _ _ _ | exact Kd.N_nil _ _ _ _ _ | exact Kd.V_nil _ _ _ _ _ | exact Kd.Q_nil _ _ _ _ _ | exact Kd.S_nil _ _ _ _ _⟩, ⟨by repeat (first | (with_reducible first | exact HB.out | apply below_alloc | apply pw_below_drewN | apply below_drew1) | exact HB.out)⟩⟩
  case round =>
    clear H'
    obtain ⟨x0_1, x4_1, rfl, HA, HK1, HO_4, HB⟩ := hrel
    cases gk with
    | zero => exact absurd HA.out (by simp [text_Unquote.l0])
    | succ k1 =>
      have H := HA.out
      clear HA
      simp only [text_Unquote.l0] at H
      by_cases c2 : (x0_1.size : Int) > 0
      · rw [if_pos c2] at H
        have c2b0 : decide (0 < (x0_1.size : Int)) = true := decide_eq_true c2
        have c2b1 : decide (0 < x0_1.size) = true := decide_eq_true (by omega)
        clear c2
        by_cases c3 : 0 < (x0_1.size : Int)
        · rw [if_pos c3] at H
          have c3b0 : decide (0 < (x0_1.size : Int)) = true := decide_eq_true c3
          have c3b1 : decide (0 < x0_1.size) = true := decide_eq_true (by omega)
          clear c3
          replace H := Option.bind_eq_some_iff.mp H
          obtain ⟨t101, A50, H⟩ := H
          replace H : (if t101 = true then (if x4_1.length < 140737488355328 then (if 1 ≤ (x0_1.size : Int) then (text_Unquote.l0 k1 (x0_1.extract 1 x0_1.size) (x4_1 ++ [bt x0_1 0])) else (none)) else (none)) else (if (bt x0_1 0) = 92 then (if (x0_1.size : Int) < 4 then (text_Unquote.j1 k1 x0_1 x4_1 true) else (if 1 < (x0_1.size : Int) then (if (bt x0_1 1) > 51 then (text_Unquote.j1 k1 x0_1 x4_1 true) else ((text_digit.f (bt x0_1 1)).bind fun t105 => (if t105 = true then (if 2 < (x0_1.size : Int) then ((text_digit.f (bt x0_1 2)).bind fun t106 => (if t106 = true then (if 3 < (x0_1.size : Int) then ((text_digit.f (bt x0_1 3)).bind fun t107 => (text_Unquote.j1 k1 x0_1 x4_1 (!t107))) else (none)) else (text_Unquote.j1 k1 x0_1 x4_1 true))) else (none)) else (text_Unquote.j1 k1 x0_1 x4_1 true)))) else (none))) else (text_Unquote.j1 k1 x0_1 x4_1 true))) = some (r1, r2) := H
          have A5 := Aside0.mk A50
          clear A50
          by_cases c6 : t101 = true
          · subst c6
            have H1 : (if x4_1.length < 140737488355328 then (if 1 ≤ (x0_1.size : Int) then (text_Unquote.l0 k1 (x0_1.extract 1 x0_1.size) (x4_1 ++ [bt x0_1 0])) else (none)) else (none)) = some (r1, r2) := by rw [if_pos rfl] at H; exact H
            clear H
            have H := H1
            clear H1
            by_cases c8 : x4_1.length < 140737488355328
            · rw [if_pos c8] at H
              have LMc8 := Aside0.mk c8
              clear c8
              obtain ⟨y102, hy102⟩ : ∃ y_ : List Int, y_ = (x4_1 ++ [bt x0_1 0]) := ⟨_, rfl⟩
              replace H : (if 1 ≤ (x0_1.size : Int) then (text_Unquote.l0 k1 (x0_1.extract 1 x0_1.size) y102) else (none)) = some (r1, r2) := by first | (rw [hy102]; with_reducible exact H) | (have H2_ := (Option.bind_some _ _).symm.trans H; rw [hy102]; with_reducible exact H2_) | (have H2_ := (Option.bind_some _ _).symm.trans H; with_reducible exact H2_) | with_reducible exact H | (rw [hy102]; exact H) | exact H
              have Ny102 := Aside0.mk hy102
              clear hy102
              by_cases c9 : 1 ≤ (x0_1.size : Int)
              · rw [if_pos c9] at H
                have c9b0 := eq_true c9
                have c9b1 : decide (1 ≤ (x0_1.size : Int)) = true := decide_eq_true c9
                clear c9
                have H' := Aside0.mk H
                clear H
                have p4 : 0 ≤ (0 : Int) := (by omega)
                have q4 : 0 < x0_1.size := (by have : (0 : Int) < (x0_1.size : Int) := of_decide_eq_true (by first | (with_reducible assumption) | assumption); omega)
                have hx4 : ∀ h : 0 < x0_1.size, ((x0_1[0]'h).toNat : Int) = bt x0_1 0 := bt_at x0_1 0
                clear p4
                have qi4 : (0 < (x0_1.size : Int)) = True := eq_true (of_decide_eq_true (by first | (with_reducible assumption) | assumption))
                replace q4 := eq_true q4
                go_wp2_with (first | (go_at_call 27; (with_reducible refine (text_open.calls (bt x0_1 0) true _ A5.out).mono ?_); rintro e w' ⟨rfl, ⟨nd, rfl⟩⟩; (try first | exact ⟨rfl, _, World.drewN_drewN _ _ _⟩ | exact ⟨rfl, _, Eq.trans (World.drewN_drewN _ _ _) (congrArg (World.drewN _) (Nat.add_assoc _ _ _))⟩); have p7 : 0 ≤ (0 : Int) := (by omega); have q7 : 0 < x0_1.size := (by have : (0 : Int) < (x0_1.size : Int) := of_decide_eq_true (by first | (with_reducible assumption) | assumption); omega); have hx7 : ∀ h : 0 < x0_1.size, ((x0_1[0]'h).toNat : Int) = bt x0_1 0 := bt_at x0_1 0; clear p7; have qi7 : (0 < (x0_1.size : Int)) = True := eq_true (of_decide_eq_true (by first | (with_reducible assumption) | assumption)); replace q7 := eq_true q7) | ((with_reducible refine gate_builtin (b := .append) (xs := #[.tmp 12, .tmp 15]) rfl ?_); (try (refine gate_guard (by rfl) ?_; dsimp only)); at_builtin; refine Kd.R_append (Kd.int .u8) (w0 := w) w.heap.size rfl (.tmp 12) (.tmp 15) 32 5 (.int .u8 0) 1 rfl Try.underlying32 info5 rfl (by decide) (by omega) u4 x4_1 (bt x0_1 0) [.int .u8 (bt x0_1 0)] (fun _ => True) (fun _ => False) rfl rfl ?aP (fun _ hk => hk.elim) ?aF ?aO ?aB ?aS ?aL ?_; (case aP => exact rfl); (case aB => exact (by repeat (first | (with_reducible first | exact HB.out | apply below_alloc | apply pw_below_drewN | apply below_drew1) | exact HB.out))); (case aF => exact (fun _ _ => trivial)); (case aO => exact (by (with_reducible repeat (first | apply Kd.R_alloc | apply Kd.R_drewN | apply Kd.R_drew)); exact HO_4.out)); (case aS => exact (below_size (by repeat (first | (with_reducible first | exact HB.out | apply below_alloc | apply pw_below_drewN | apply below_drew1) | exact HB.out)))); (case aL => have := LMc8.out; omega); intro v103 w10 ho hb hg hat; rw [← Ny102.out] at ho; have n0_ := Aside0.mk (hb); have n1_ := Aside0.mk (ho); clear HB; clear HO_4; have HB := n0_; have HO104 := n1_; clear n0_ n1_; clear ho hb hg hat))
                repeat (go_quiet (first | (go_at_call 27; (with_reducible refine (text_open.calls (bt x0_1 0) true _ A5.out).mono ?_); rintro e w' ⟨rfl, ⟨nd, rfl⟩⟩; (try first | exact ⟨rfl, _, World.drewN_drewN _ _ _⟩ | exact ⟨rfl, _, Eq.trans (World.drewN_drewN _ _ _) (congrArg (World.drewN _) (Nat.add_assoc _ _ _))⟩); have p7 : 0 ≤ (0 : Int) := (by omega); have q7 : 0 < x0_1.size := (by have : (0 : Int) < (x0_1.size : Int) := of_decide_eq_true (by first | (with_reducible assumption) | assumption); omega); have hx7 : ∀ h : 0 < x0_1.size, ((x0_1[0]'h).toNat : Int) = bt x0_1 0 := bt_at x0_1 0; clear p7; have qi7 : (0 < (x0_1.size : Int)) = True := eq_true (of_decide_eq_true (by first | (with_reducible assumption) | assumption)); replace q7 := eq_true q7) | ((with_reducible refine gate_builtin (b := .append) (xs := #[.tmp 12, .tmp 15]) rfl ?_); (try (refine gate_guard (by rfl) ?_; dsimp only)); at_builtin; refine Kd.R_append (Kd.int .u8) (w0 := w) w.heap.size rfl (.tmp 12) (.tmp 15) 32 5 (.int .u8 0) 1 rfl Try.underlying32 info5 rfl (by decide) (by omega) u4 x4_1 (bt x0_1 0) [.int .u8 (bt x0_1 0)] (fun _ => True) (fun _ => False) rfl rfl ?aP (fun _ hk => hk.elim) ?aF ?aO ?aB ?aS ?aL ?_; (case aP => exact rfl); (case aB => exact (by repeat (first | (with_reducible first | exact HB.out | apply below_alloc | apply pw_below_drewN | apply below_drew1) | exact HB.out))); (case aF => exact (fun _ _ => trivial)); (case aO => exact (by (with_reducible repeat (first | apply Kd.R_alloc | apply Kd.R_drewN | apply Kd.R_drew)); exact HO_4.out)); (case aS => exact (below_size (by repeat (first | (with_reducible first | exact HB.out | apply below_alloc | apply pw_below_drewN | apply below_drew1) | exact HB.out)))); (case aL => have := LMc8.out; omega); intro v103 w10 ho hb hg hat; rw [← Ny102.out] at ho; have n0_ := Aside0.mk (hb); have n1_ := Aside0.mk (ho); clear HB; clear HO_4; have HB := n0_; have HO104 := n1_; clear n0_ n1_; clear ho hb hg hat)); try go_wp2_with (first | (go_at_call 27; (with_reducible refine (text_open.calls (bt x0_1 0) true _ A5.out).mono ?_); rintro e w' ⟨rfl, ⟨nd, rfl⟩⟩; (try first | exact ⟨rfl, _, World.drewN_drewN _ _ _⟩ | exact ⟨rfl, _, Eq.trans (World.drewN_drewN _ _ _) (congrArg (World.drewN _) (Nat.add_assoc _ _ _))⟩); have p7 : 0 ≤ (0 : Int) := (by omega); have q7 : 0 < x0_1.size := (by have : (0 : Int) < (x0_1.size : Int) := of_decide_eq_true (by first | (with_reducible assumption) | assumption); omega); have hx7 : ∀ h : 0 < x0_1.size, ((x0_1[0]'h).toNat : Int) = bt x0_1 0 := bt_at x0_1 0; clear p7; have qi7 : (0 < (x0_1.size : Int)) = True := eq_true (of_decide_eq_true (by first | (with_reducible assumption) | assumption)); replace q7 := eq_true q7) | ((with_reducible refine gate_builtin (b := .append) (xs := #[.tmp 12, .tmp 15]) rfl ?_); (try (refine gate_guard (by rfl) ?_; dsimp only)); at_builtin; refine Kd.R_append (Kd.int .u8) (w0 := w) w.heap.size rfl (.tmp 12) (.tmp 15) 32 5 (.int .u8 0) 1 rfl Try.underlying32 info5 rfl (by decide) (by omega) u4 x4_1 (bt x0_1 0) [.int .u8 (bt x0_1 0)] (fun _ => True) (fun _ => False) rfl rfl ?aP (fun _ hk => hk.elim) ?aF ?aO ?aB ?aS ?aL ?_; (case aP => exact rfl); (case aB => exact (by repeat (first | (with_reducible first | exact HB.out | apply below_alloc | apply pw_below_drewN | apply below_drew1) | exact HB.out))); (case aF => exact (fun _ _ => trivial)); (case aO => exact (by (with_reducible repeat (first | apply Kd.R_alloc | apply Kd.R_drewN | apply Kd.R_drew)); exact HO_4.out)); (case aS => exact (below_size (by repeat (first | (with_reducible first | exact HB.out | apply below_alloc | apply pw_below_drewN | apply below_drew1) | exact HB.out)))); (case aL => have := LMc8.out; omega); intro v103 w10 ho hb hg hat; rw [← Ny102.out] at ho; have n0_ := Aside0.mk (hb); have n1_ := Aside0.mk (ho); clear HB; clear HO_4; have HB := n0_; have HO104 := n1_; clear n0_ n1_; clear ho hb hg hat)))
                go_roundg k1
                case measure => have := HK1.out; omega
                case rel => exact ⟨(x0_1.extract 1 x0_1.size), (y102), (by first | rfl | (simp; done) | (simp [*]; done)), H', ⟨by have := HK1.out; omega⟩, ⟨by (with_reducible repeat (first | apply Kd.R_alloc | apply Kd.R_drewN | apply Kd.R_drew)); exact HO104.out⟩, ⟨by repeat (first | (with_reducible first | exact HB.out | apply below_alloc | apply pw_below_drewN | apply below_drew1) | exact HB.out)⟩⟩
              · rw [if_neg c9] at H
                exact absurd H (by simp)
            · rw [if_neg c8] at H
              exact absurd H (by simp)
          · replace c6 := Bool.eq_false_iff.mpr c6
            subst c6
            have H1 : (if (bt x0_1 0) = 92 then (if (x0_1.size : Int) < 4 then (text_Unquote.j1 k1 x0_1 x4_1 true) else (if 1 < (x0_1.size : Int) then (if (bt x0_1 1) > 51 then (text_Unquote.j1 k1 x0_1 x4_1 true) else ((text_digit.f (bt x0_1 1)).bind fun t105 => (if t105 = true then (if 2 < (x0_1.size : Int) then ((text_digit.f (bt x0_1 2)).bind fun t106 => (if t106 = true then (if 3 < (x0_1.size : Int) then ((text_digit.f (bt x0_1 3)).bind fun t107 => (text_Unquote.j1 k1 x0_1 x4_1 (!t107))) else (none)) else (text_Unquote.j1 k1 x0_1 x4_1 true))) else (none)) else (text_Unquote.j1 k1 x0_1 x4_1 true)))) else (none))) else (text_Unquote.j1 k1 x0_1 x4_1 true)) = some (r1, r2) := by rw [if_neg (show ¬ (false = true) by decide)] at H; exact H
            clear H
            have H := H1
            clear H1
            have HC11 := Aside0.mk H
            clear H
            have p4 : 0 ≤ (0 : Int) := (by omega)
            have q4 : 0 < x0_1.size := (by have : (0 : Int) < (x0_1.size : Int) := of_decide_eq_true (by first | (with_reducible assumption) | assumption); omega)
            have hx4 : ∀ h : 0 < x0_1.size, ((x0_1[0]'h).toNat : Int) = bt x0_1 0 := bt_at x0_1 0
            clear p4
            have qi4 : (0 < (x0_1.size : Int)) = True := eq_true (of_decide_eq_true (by first | (with_reducible assumption) | assumption))
            replace q4 := eq_true q4
            go_upto_region 6 with (first | (go_at_call 27; (with_reducible refine (text_open.calls (bt x0_1 0) false _ A5.out).mono ?_); rintro e w' ⟨rfl, ⟨nd, rfl⟩⟩; (try first | exact ⟨rfl, _, World.drewN_drewN _ _ _⟩ | exact ⟨rfl, _, Eq.trans (World.drewN_drewN _ _ _) (congrArg (World.drewN _) (Nat.add_assoc _ _ _))⟩)))
            repeat (go_quiet (first | (go_at_call 27; (with_reducible refine (text_open.calls (bt x0_1 0) false _ A5.out).mono ?_); rintro e w' ⟨rfl, ⟨nd, rfl⟩⟩; (try first | exact ⟨rfl, _, World.drewN_drewN _ _ _⟩ | exact ⟨rfl, _, Eq.trans (World.drewN_drewN _ _ _) (congrArg (World.drewN _) (Nat.add_assoc _ _ _))⟩))); go_upto_region 6 with (first | (go_at_call 27; (with_reducible refine (text_open.calls (bt x0_1 0) false _ A5.out).mono ?_); rintro e w' ⟨rfl, ⟨nd, rfl⟩⟩; (try first | exact ⟨rfl, _, World.drewN_drewN _ _ _⟩ | exact ⟨rfl, _, Eq.trans (World.drewN_drewN _ _ _) (congrArg (World.drewN _) (Nat.add_assoc _ _ _))⟩))))
            (try simp only [Act.put, List.setIfInBounds_toArray, List.set_cons_zero, List.set_cons_succ])
            go_cut [49] (fun v49 wc => ∃ (kq : Nat) (x49_10 : Bool), v49 = .bool x49_10 ∧ Aside0 (text_Unquote.j1 kq x0_1 x4_1 x49_10 = some (r1, r2)) ∧ Aside0 (kq ≤ k1) ∧ Aside0 (Kd.R (Kd.int .u8) 5 wc w.heap.size (fun _ => True) u4 x4_1) ∧ Aside0 (Below w.heap.size w wc))
            case first =>
              have H := HC11.out
              clear HC11
              by_cases c13 : (bt x0_1 0) = 92
              · rw [if_pos c13] at H
                have c13b0 : ((bt x0_1 0) == 92) = true := beq_iff_eq.mpr c13
                have c13b1 : ((bt x0_1 0) != 92) = false := bne_eq_false_iff_eq.mpr c13
                clear c13
                (first | rw [c13b0] | (simp only [i64_w, i32_w]; rw [c13b0]) | skip)
                by_cases c14 : (x0_1.size : Int) < 4
                · rw [if_pos c14] at H
                  have c14b0 : decide ((x0_1.size : Int) < 4) = true := decide_eq_true c14
                  have c14b1 : decide (x0_1.size < 4) = true := decide_eq_true (by omega)
                  clear c14
                  have H' := Aside0.mk H
                  clear H
                  have p12 : 0 ≤ (0 : Int) := (by omega)
                  have q12 : 0 < x0_1.size := (by have : (0 : Int) < (x0_1.size : Int) := of_decide_eq_true (by first | (with_reducible assumption) | assumption); omega)
                  have hx12 : ∀ h : 0 < x0_1.size, ((x0_1[0]'h).toNat : Int) = bt x0_1 0 := bt_at x0_1 0
                  clear p12
                  have qi12 : (0 < (x0_1.size : Int)) = True := eq_true (of_decide_eq_true (by first | (with_reducible assumption) | assumption))
                  replace q12 := eq_true q12
                  go_wp2
                  repeat (go_quiet (fail); try go_wp2)
                  go_meet
                  case rel => exact ⟨_, (true), (by first | rfl | (simp; done) | (simp [*]; done)), H', ⟨by have := HK1.out; first | omega | exact Nat.le_refl _⟩, ⟨by (with_reducible repeat (first | apply Kd.R_alloc | apply Kd.R_drewN | apply Kd.R_drew)); exact HO_4.out⟩, ⟨by repeat (first | (with_reducible first | exact HB.out | apply below_alloc | apply pw_below_drewN | apply below_drew1) | exact HB.out)⟩⟩
                · rw [if_neg c14] at H
                  have c14b0 : decide ((x0_1.size : Int) < 4) = false := decide_eq_false c14
                  have c14b1 : decide (x0_1.size < 4) = false := decide_eq_false (by omega)
                  clear c14
                  by_cases c15 : 1 < (x0_1.size : Int)
                  · rw [if_pos c15] at H
                    have c15b0 : decide (1 < (x0_1.size : Int)) = true := decide_eq_true c15
                    have c15b1 : decide (1 < x0_1.size) = true := decide_eq_true (by omega)
                    clear c15
                    by_cases c17 : (bt x0_1 1) > 51
                    · rw [if_pos c17] at H
                      have c17b0 : decide (51 < (bt x0_1 1)) = true := decide_eq_true c17
                      clear c17
                      have H' := Aside0.mk H
                      clear H
                      have p12 : 0 ≤ (0 : Int) := (by omega)
                      have q12 : 0 < x0_1.size := (by have : (0 : Int) < (x0_1.size : Int) := of_decide_eq_true (by first | (with_reducible assumption) | assumption); omega)
                      have hx12 : ∀ h : 0 < x0_1.size, ((x0_1[0]'h).toNat : Int) = bt x0_1 0 := bt_at x0_1 0
                      clear p12
                      have qi12 : (0 < (x0_1.size : Int)) = True := eq_true (of_decide_eq_true (by first | (with_reducible assumption) | assumption))
                      replace q12 := eq_true q12
                      have p16 : 0 ≤ (1 : Int) := (by omega)
                      have q16 : 1 < x0_1.size := (by have : (1 : Int) < (x0_1.size : Int) := of_decide_eq_true (by first | (with_reducible assumption) | assumption); omega)
                      have hx16 : ∀ h : 1 < x0_1.size, ((x0_1[1]'h).toNat : Int) = bt x0_1 1 := bt_at x0_1 1
                      clear p16
                      have qi16 : (1 < (x0_1.size : Int)) = True := eq_true (of_decide_eq_true (by first | (with_reducible assumption) | assumption))
                      replace q16 := eq_true q16
                      go_wp2
                      repeat (go_quiet (fail); try go_wp2)
                      go_meet
                      case rel => exact ⟨_, (true), (by first | rfl | (simp; done) | (simp [*]; done)), H', ⟨by have := HK1.out; first | omega | exact Nat.le_refl _⟩, ⟨by (with_reducible repeat (first | apply Kd.R_alloc | apply Kd.R_drewN | apply Kd.R_drew)); exact HO_4.out⟩, ⟨by repeat (first | (with_reducible first | exact HB.out | apply below_alloc | apply pw_below_drewN | apply below_drew1) | exact HB.out)⟩⟩
                    · rw [if_neg c17] at H
                      have c17b0 : decide (51 < (bt x0_1 1)) = false := decide_eq_false c17
                      clear c17
                      replace H := Option.bind_eq_some_iff.mp H
                      obtain ⟨t105, A190, H⟩ := H
                      replace H : (if t105 = true then (if 2 < (x0_1.size : Int) then ((text_digit.f (bt x0_1 2)).bind fun t106 => (if t106 = true then (if 3 < (x0_1.size : Int) then ((text_digit.f (bt x0_1 3)).bind fun t107 => (text_Unquote.j1 k1 x0_1 x4_1 (!t107))) else (none)) else (text_Unquote.j1 k1 x0_1 x4_1 true))) else (none)) else (text_Unquote.j1 k1 x0_1 x4_1 true)) = some (r1, r2) := H
                      have A19 := Aside0.mk A190
                      clear A190
                      by_cases c20 : t105 = true
                      · subst c20
                        have H1 : (if 2 < (x0_1.size : Int) then ((text_digit.f (bt x0_1 2)).bind fun t106 => (if t106 = true then (if 3 < (x0_1.size : Int) then ((text_digit.f (bt x0_1 3)).bind fun t107 => (text_Unquote.j1 k1 x0_1 x4_1 (!t107))) else (none)) else (text_Unquote.j1 k1 x0_1 x4_1 true))) else (none)) = some (r1, r2) := by rw [if_pos rfl] at H; exact H
                        clear H
                        have H := H1
                        clear H1
                        by_cases c21 : 2 < (x0_1.size : Int)
                        · rw [if_pos c21] at H
                          have c21b0 : decide (2 < (x0_1.size : Int)) = true := decide_eq_true c21
                          have c21b1 : decide (2 < x0_1.size) = true := decide_eq_true (by omega)
                          clear c21
                          replace H := Option.bind_eq_some_iff.mp H
                          obtain ⟨t106, A230, H⟩ := H
                          replace H : (if t106 = true then (if 3 < (x0_1.size : Int) then ((text_digit.f (bt x0_1 3)).bind fun t107 => (text_Unquote.j1 k1 x0_1 x4_1 (!t107))) else (none)) else (text_Unquote.j1 k1 x0_1 x4_1 true)) = some (r1, r2) := H
                          have A23 := Aside0.mk A230
                          clear A230
                          by_cases c24 : t106 = true
                          · subst c24
                            have H1 : (if 3 < (x0_1.size : Int) then ((text_digit.f (bt x0_1 3)).bind fun t107 => (text_Unquote.j1 k1 x0_1 x4_1 (!t107))) else (none)) = some (r1, r2) := by rw [if_pos rfl] at H; exact H
                            clear H
                            have H := H1
                            clear H1
                            by_cases c25 : 3 < (x0_1.size : Int)
                            · rw [if_pos c25] at H
                              have c25b0 : decide (3 < (x0_1.size : Int)) = true := decide_eq_true c25
                              have c25b1 : decide (3 < x0_1.size) = true := decide_eq_true (by omega)
                              clear c25
                              replace H := Option.bind_eq_some_iff.mp H
                              obtain ⟨t107, A270, H⟩ := H
                              replace H : (text_Unquote.j1 k1 x0_1 x4_1 (!t107)) = some (r1, r2) := H
                              have A27 := Aside0.mk A270
                              clear A270
                              have H' := Aside0.mk H
                              clear H
                              have p12 : 0 ≤ (0 : Int) := (by omega)
                              have q12 : 0 < x0_1.size := (by have : (0 : Int) < (x0_1.size : Int) := of_decide_eq_true (by first | (with_reducible assumption) | assumption); omega)
                              have hx12 : ∀ h : 0 < x0_1.size, ((x0_1[0]'h).toNat : Int) = bt x0_1 0 := bt_at x0_1 0
                              clear p12
                              have qi12 : (0 < (x0_1.size : Int)) = True := eq_true (of_decide_eq_true (by first | (with_reducible assumption) | assumption))
                              replace q12 := eq_true q12
                              have p16 : 0 ≤ (1 : Int) := (by omega)
                              have q16 : 1 < x0_1.size := (by have : (1 : Int) < (x0_1.size : Int) := of_decide_eq_true (by first | (with_reducible assumption) | assumption); omega)
                              have hx16 : ∀ h : 1 < x0_1.size, ((x0_1[1]'h).toNat : Int) = bt x0_1 1 := bt_at x0_1 1
                              clear p16
                              have qi16 : (1 < (x0_1.size : Int)) = True := eq_true (of_decide_eq_true (by first | (with_reducible assumption) | assumption))
                              replace q16 := eq_true q16
                              have p18 : 0 ≤ (1 : Int) := (by omega)
                              have q18 : 1 < x0_1.size := (by have : (1 : Int) < (x0_1.size : Int) := of_decide_eq_true (by first | (with_reducible assumption) | assumption); omega)
                              have hx18 : ∀ h : 1 < x0_1.size, ((x0_1[1]'h).toNat : Int) = bt x0_1 1 := bt_at x0_1 1
                              clear p18
                              have qi18 : (1 < (x0_1.size : Int)) = True := eq_true (of_decide_eq_true (by first | (with_reducible assumption) | assumption))
                              replace q18 := eq_true q18
                              go_wp2_with (first | (go_at_call 28; (with_reducible refine (text_digit.calls (bt x0_1 1) true _ A19.out).mono ?_); rintro e w' ⟨rfl, ⟨nd, rfl⟩⟩; (try first | exact ⟨rfl, _, World.drewN_drewN _ _ _⟩ | exact ⟨rfl, _, Eq.trans (World.drewN_drewN _ _ _) (congrArg (World.drewN _) (Nat.add_assoc _ _ _))⟩); have p22 : 0 ≤ (2 : Int) := (by omega); have q22 : 2 < x0_1.size := (by have : (2 : Int) < (x0_1.size : Int) := of_decide_eq_true (by first | (with_reducible assumption) | assumption); omega); have hx22 : ∀ h : 2 < x0_1.size, ((x0_1[2]'h).toNat : Int) = bt x0_1 2 := bt_at x0_1 2; clear p22; have qi22 : (2 < (x0_1.size : Int)) = True := eq_true (of_decide_eq_true (by first | (with_reducible assumption) | assumption)); replace q22 := eq_true q22) | (go_at_call 28; (with_reducible refine (text_digit.calls (bt x0_1 2) true _ A23.out).mono ?_); rintro e w' ⟨rfl, ⟨nd, rfl⟩⟩; (try first | exact ⟨rfl, _, World.drewN_drewN _ _ _⟩ | exact ⟨rfl, _, Eq.trans (World.drewN_drewN _ _ _) (congrArg (World.drewN _) (Nat.add_assoc _ _ _))⟩); have p26 : 0 ≤ (3 : Int) := (by omega); have q26 : 3 < x0_1.size := (by have : (3 : Int) < (x0_1.size : Int) := of_decide_eq_true (by first | (with_reducible assumption) | assumption); omega); have hx26 : ∀ h : 3 < x0_1.size, ((x0_1[3]'h).toNat : Int) = bt x0_1 3 := bt_at x0_1 3; clear p26; have qi26 : (3 < (x0_1.size : Int)) = True := eq_true (of_decide_eq_true (by first | (with_reducible assumption) | assumption)); replace q26 := eq_true q26) | (go_at_call 28; (with_reducible refine (text_digit.calls (bt x0_1 3) t107 _ A27.out).mono ?_); rintro e w' ⟨rfl, ⟨nd, rfl⟩⟩; (try first | exact ⟨rfl, _, World.drewN_drewN _ _ _⟩ | exact ⟨rfl, _, Eq.trans (World.drewN_drewN _ _ _) (congrArg (World.drewN _) (Nat.add_assoc _ _ _))⟩)))
                              repeat (go_quiet (first | (go_at_call 28; (with_reducible refine (text_digit.calls (bt x0_1 1) true _ A19.out).mono ?_); rintro e w' ⟨rfl, ⟨nd, rfl⟩⟩; (try first | exact ⟨rfl, _, World.drewN_drewN _ _ _⟩ | exact ⟨rfl, _, Eq.trans (World.drewN_drewN _ _ _) (congrArg (World.drewN _) (Nat.add_assoc _ _ _))⟩); have p22 : 0 ≤ (2 : Int) := (by omega); have q22 : 2 < x0_1.size := (by have : (2 : Int) < (x0_1.size : Int) := of_decide_eq_true (by first | (with_reducible assumption) | assumption); omega); have hx22 : ∀ h : 2 < x0_1.size, ((x0_1[2]'h).toNat : Int) = bt x0_1 2 := bt_at x0_1 2; clear p22; have qi22 : (2 < (x0_1.size : Int)) = True := eq_true (of_decide_eq_true (by first | (with_reducible assumption) | assumption)); replace q22 := eq_true q22) | (go_at_call 28; (with_reducible refine (text_digit.calls (bt x0_1 2) true _ A23.out).mono ?_); rintro e w' ⟨rfl, ⟨nd, rfl⟩⟩; (try first | exact ⟨rfl, _, World.drewN_drewN _ _ _⟩ | exact ⟨rfl, _, Eq.trans (World.drewN_drewN _ _ _) (congrArg (World.drewN _) (Nat.add_assoc _ _ _))⟩); have p26 : 0 ≤ (3 : Int) := (by omega); have q26 : 3 < x0_1.size := (by have : (3 : Int) < (x0_1.size : Int) := of_decide_eq_true (by first | (with_reducible assumption) | assumption); omega); have hx26 : ∀ h : 3 < x0_1.size, ((x0_1[3]'h).toNat : Int) = bt x0_1 3 := bt_at x0_1 3; clear p26; have qi26 : (3 < (x0_1.size : Int)) = True := eq_true (of_decide_eq_true (by first | (with_reducible assumption) | assumption)); replace q26 := eq_true q26) | (go_at_call 28; (with_reducible refine (text_digit.calls (bt x0_1 3) t107 _ A27.out).mono ?_); rintro e w' ⟨rfl, ⟨nd, rfl⟩⟩; (try first | exact ⟨rfl, _, World.drewN_drewN _ _ _⟩ | exact ⟨rfl, _, Eq.trans (World.drewN_drewN _ _ _) (congrArg (World.drewN _) (Nat.add_assoc _ _ _))⟩))); try go_wp2_with (first | (go_at_call 28; (with_reducible refine (text_digit.calls (bt x0_1 1) true _ A19.out).mono ?_); rintro e w' ⟨rfl, ⟨nd, rfl⟩⟩; (try first | exact ⟨rfl, _, World.drewN_drewN _ _ _⟩ | exact ⟨rfl, _, Eq.trans (World.drewN_drewN _ _ _) (congrArg (World.drewN _) (Nat.add_assoc _ _ _))⟩); have p22 : 0 ≤ (2 : Int) := (by omega); have q22 : 2 < x0_1.size := (by have : (2 : Int) < (x0_1.size : Int) := of_decide_eq_true (by first | (with_reducible assumption) | assumption); omega); have hx22 : ∀ h : 2 < x0_1.size, ((x0_1[2]'h).toNat : Int) = bt x0_1 2 := bt_at x0_1 2; clear p22; have qi22 : (2 < (x0_1.size : Int)) = True := eq_true (of_decide_eq_true (by first | (with_reducible assumption) | assumption)); replace q22 := eq_true q22) | (go_at_call 28; (with_reducible refine (text_digit.calls (bt x0_1 2) true _ A23.out).mono ?_); rintro e w' ⟨rfl, ⟨nd, rfl⟩⟩; (try first | exact ⟨rfl, _, World.drewN_drewN _ _ _⟩ | exact ⟨rfl, _, Eq.trans (World.drewN_drewN _ _ _) (congrArg (World.drewN _) (Nat.add_assoc _ _ _))⟩); have p26 : 0 ≤ (3 : Int) := (by omega); have q26 : 3 < x0_1.size := (by have : (3 : Int) < (x0_1.size : Int) := of_decide_eq_true (by first | (with_reducible assumption) | assumption); omega); have hx26 : ∀ h : 3 < x0_1.size, ((x0_1[3]'h).toNat : Int) = bt x0_1 3 := bt_at x0_1 3; clear p26; have qi26 : (3 < (x0_1.size : Int)) = True := eq_true (of_decide_eq_true (by first | (with_reducible assumption) | assumption)); replace q26 := eq_true q26) | (go_at_call 28; (with_reducible refine (text_digit.calls (bt x0_1 3) t107 _ A27.out).mono ?_); rintro e w' ⟨rfl, ⟨nd, rfl⟩⟩; (try first | exact ⟨rfl, _, World.drewN_drewN _ _ _⟩ | exact ⟨rfl, _, Eq.trans (World.drewN_drewN _ _ _) (congrArg (World.drewN _) (Nat.add_assoc _ _ _))⟩))))
                              go_meet
                              case rel => exact ⟨_, (!t107), (by first | rfl | (simp; done) | (simp [*]; done)), H', ⟨by have := HK1.out; first | omega | exact Nat.le_refl _⟩, ⟨by (with_reducible repeat (first | apply Kd.R_alloc | apply Kd.R_drewN | apply Kd.R_drew)); exact HO_4.out⟩, ⟨by repeat (first | (with_reducible first | exact HB.out | apply below_alloc | apply pw_below_drewN | apply below_drew1) | exact HB.out)⟩⟩
                            · rw [if_neg c25] at H
                              exact absurd H (by simp)
                          · replace c24 := Bool.eq_false_iff.mpr c24
                            subst c24
                            have H1 : (text_Unquote.j1 k1 x0_1 x4_1 true) = some (r1, r2) := by rw [if_neg (show ¬ (false = true) by decide)] at H; exact H
                            clear H
                            have H := H1
                            clear H1
                            have H' := Aside0.mk H
                            clear H
                            have p12 : 0 ≤ (0 : Int) := (by omega)
                            have q12 : 0 < x0_1.size := (by have : (0 : Int) < (x0_1.size : Int) := of_decide_eq_true (by first | (with_reducible assumption) | assumption); omega)
                            have hx12 : ∀ h : 0 < x0_1.size, ((x0_1[0]'h).toNat : Int) = bt x0_1 0 := bt_at x0_1 0
                            clear p12
                            have qi12 : (0 < (x0_1.size : Int)) = True := eq_true (of_decide_eq_true (by first | (with_reducible assumption) | assumption))
                            replace q12 := eq_true q12
                            have p16 : 0 ≤ (1 : Int) := (by omega)
                            have q16 : 1 < x0_1.size := (by have : (1 : Int) < (x0_1.size : Int) := of_decide_eq_true (by first | (with_reducible assumption) | assumption); omega)
                            have hx16 : ∀ h : 1 < x0_1.size, ((x0_1[1]'h).toNat : Int) = bt x0_1 1 := bt_at x0_1 1
                            clear p16
                            have qi16 : (1 < (x0_1.size : Int)) = True := eq_true (of_decide_eq_true (by first | (with_reducible assumption) | assumption))
                            replace q16 := eq_true q16
                            have p18 : 0 ≤ (1 : Int) := (by omega)
                            have q18 : 1 < x0_1.size := (by have : (1 : Int) < (x0_1.size : Int) := of_decide_eq_true (by first | (with_reducible assumption) | assumption); omega)
                            have hx18 : ∀ h : 1 < x0_1.size, ((x0_1[1]'h).toNat : Int) = bt x0_1 1 := bt_at x0_1 1
                            clear p18
                            have qi18 : (1 < (x0_1.size : Int)) = True := eq_true (of_decide_eq_true (by first | (with_reducible assumption) | assumption))
                            replace q18 := eq_true q18
                            go_wp2_with (first | (go_at_call 28; (with_reducible refine (text_digit.calls (bt x0_1 1) true _ A19.out).mono ?_); rintro e w' ⟨rfl, ⟨nd, rfl⟩⟩; (try first | exact ⟨rfl, _, World.drewN_drewN _ _ _⟩ | exact ⟨rfl, _, Eq.trans (World.drewN_drewN _ _ _) (congrArg (World.drewN _) (Nat.add_assoc _ _ _))⟩); have p22 : 0 ≤ (2 : Int) := (by omega); have q22 : 2 < x0_1.size := (by have : (2 : Int) < (x0_1.size : Int) := of_decide_eq_true (by first | (with_reducible assumption) | assumption); omega); have hx22 : ∀ h : 2 < x0_1.size, ((x0_1[2]'h).toNat : Int) = bt x0_1 2 := bt_at x0_1 2; clear p22; have qi22 : (2 < (x0_1.size : Int)) = True := eq_true (of_decide_eq_true (by first | (with_reducible assumption) | assumption)); replace q22 := eq_true q22) | (go_at_call 28; (with_reducible refine (text_digit.calls (bt x0_1 2) false _ A23.out).mono ?_); rintro e w' ⟨rfl, ⟨nd, rfl⟩⟩; (try first | exact ⟨rfl, _, World.drewN_drewN _ _ _⟩ | exact ⟨rfl, _, Eq.trans (World.drewN_drewN _ _ _) (congrArg (World.drewN _) (Nat.add_assoc _ _ _))⟩)))
                            repeat (go_quiet (first | (go_at_call 28; (with_reducible refine (text_digit.calls (bt x0_1 1) true _ A19.out).mono ?_); rintro e w' ⟨rfl, ⟨nd, rfl⟩⟩; (try first | exact ⟨rfl, _, World.drewN_drewN _ _ _⟩ | exact ⟨rfl, _, Eq.trans (World.drewN_drewN _ _ _) (congrArg (World.drewN _) (Nat.add_assoc _ _ _))⟩); have p22 : 0 ≤ (2 : Int) := (by omega); have q22 : 2 < x0_1.size := (by have : (2 : Int) < (x0_1.size : Int) := of_decide_eq_true (by first | (with_reducible assumption) | assumption); omega); have hx22 : ∀ h : 2 < x0_1.size, ((x0_1[2]'h).toNat : Int) = bt x0_1 2 := bt_at x0_1 2; clear p22; have qi22 : (2 < (x0_1.size : Int)) = True := eq_true (of_decide_eq_true (by first | (with_reducible assumption) | assumption)); replace q22 := eq_true q22) | (go_at_call 28; (with_reducible refine (text_digit.calls (bt x0_1 2) false _ A23.out).mono ?_); rintro e w' ⟨rfl, ⟨nd, rfl⟩⟩; (try first | exact ⟨rfl, _, World.drewN_drewN _ _ _⟩ | exact ⟨rfl, _, Eq.trans (World.drewN_drewN _ _ _) (congrArg (World.drewN _) (Nat.add_assoc _ _ _))⟩))); try go_wp2_with (first | (go_at_call 28; (with_reducible refine (text_digit.calls (bt x0_1 1) true _ A19.out).mono ?_); rintro e w' ⟨rfl, ⟨nd, rfl⟩⟩; (try first | exact ⟨rfl, _, World.drewN_drewN _ _ _⟩ | exact ⟨rfl, _, Eq.trans (World.drewN_drewN _ _ _) (congrArg (World.drewN _) (Nat.add_assoc _ _ _))⟩); have p22 : 0 ≤ (2 : Int) := (by omega); have q22 : 2 < x0_1.size := (by have : (2 : Int) < (x0_1.size : Int) := of_decide_eq_true (by first | (with_reducible assumption) | assumption); omega); have hx22 : ∀ h : 2 < x0_1.size, ((x0_1[2]'h).toNat : Int) = bt x0_1 2 := bt_at x0_1 2; clear p22; have qi22 : (2 < (x0_1.size : Int)) = True := eq_true (of_decide_eq_true (by first | (with_reducible assumption) | assumption)); replace q22 := eq_true q22) | (go_at_call 28; (with_reducible refine (text_digit.calls (bt x0_1 2) false _ A23.out).mono ?_); rintro e w' ⟨rfl, ⟨nd, rfl⟩⟩; (try first | exact ⟨rfl, _, World.drewN_drewN _ _ _⟩ | exact ⟨rfl, _, Eq.trans (World.drewN_drewN _ _ _) (congrArg (World.drewN _) (Nat.add_assoc _ _ _))⟩))))
                            go_meet
                            case rel => exact ⟨_, (true), (by first | rfl | (simp; done) | (simp [*]; done)), H', ⟨by have := HK1.out; first | omega | exact Nat.le_refl _⟩, ⟨by (with_reducible repeat (first | apply Kd.R_alloc | apply Kd.R_drewN | apply Kd.R_drew)); exact HO_4.out⟩, ⟨by repeat (first | (with_reducible first | exact HB.out | apply below_alloc | apply pw_below_drewN | apply below_drew1) | exact HB.out)⟩⟩
                        · rw [if_neg c21] at H
                          exact absurd H (by simp)
                      · replace c20 := Bool.eq_false_iff.mpr c20
                        subst c20
                        have H1 : (text_Unquote.j1 k1 x0_1 x4_1 true) = some (r1, r2) := by rw [if_neg (show ¬ (false = true) by decide)] at H; exact H
                        clear H
                        have H := H1
                        clear H1
                        have H' := Aside0.mk H
                        clear H
                        have p12 : 0 ≤ (0 : Int) := (by omega)
                        have q12 : 0 < x0_1.size := (by have : (0 : Int) < (x0_1.size : Int) := of_decide_eq_true (by first | (with_reducible assumption) | assumption); omega)
                        have hx12 : ∀ h : 0 < x0_1.size, ((x0_1[0]'h).toNat : Int) = bt x0_1 0 := bt_at x0_1 0
                        clear p12
                        have qi12 : (0 < (x0_1.size : Int)) = True := eq_true (of_decide_eq_true (by first | (with_reducible assumption) | assumption))
                        replace q12 := eq_true q12
                        have p16 : 0 ≤ (1 : Int) := (by omega)
                        have q16 : 1 < x0_1.size := (by have : (1 : Int) < (x0_1.size : Int) := of_decide_eq_true (by first | (with_reducible assumption) | assumption); omega)
                        have hx16 : ∀ h : 1 < x0_1.size, ((x0_1[1]'h).toNat : Int) = bt x0_1 1 := bt_at x0_1 1
                        clear p16
                        have qi16 : (1 < (x0_1.size : Int)) = True := eq_true (of_decide_eq_true (by first | (with_reducible assumption) | assumption))
                        replace q16 := eq_true q16
                        have p18 : 0 ≤ (1 : Int) := (by omega)
                        have q18 : 1 < x0_1.size := (by have : (1 : Int) < (x0_1.size : Int) := of_decide_eq_true (by first | (with_reducible assumption) | assumption); omega)
                        have hx18 : ∀ h : 1 < x0_1.size, ((x0_1[1]'h).toNat : Int) = bt x0_1 1 := bt_at x0_1 1
                        clear p18
                        have qi18 : (1 < (x0_1.size : Int)) = True := eq_true (of_decide_eq_true (by first | (with_reducible assumption) | assumption))
                        replace q18 := eq_true q18
                        go_wp2_with (first | (go_at_call 28; (with_reducible refine (text_digit.calls (bt x0_1 1) false _ A19.out).mono ?_); rintro e w' ⟨rfl, ⟨nd, rfl⟩⟩; (try first | exact ⟨rfl, _, World.drewN_drewN _ _ _⟩ | exact ⟨rfl, _, Eq.trans (World.drewN_drewN _ _ _) (congrArg (World.drewN _) (Nat.add_assoc _ _ _))⟩)))
                        repeat (go_quiet (first | (go_at_call 28; (with_reducible refine (text_digit.calls (bt x0_1 1) false _ A19.out).mono ?_); rintro e w' ⟨rfl, ⟨nd, rfl⟩⟩; (try first | exact ⟨rfl, _, World.drewN_drewN _ _ _⟩ | exact ⟨rfl, _, Eq.trans (World.drewN_drewN _ _ _) (congrArg (World.drewN _) (Nat.add_assoc _ _ _))⟩))); try go_wp2_with (first | (go_at_call 28; (with_reducible refine (text_digit.calls (bt x0_1 1) false _ A19.out).mono ?_); rintro e w' ⟨rfl, ⟨nd, rfl⟩⟩; (try first | exact ⟨rfl, _, World.drewN_drewN _ _ _⟩ | exact ⟨rfl, _, Eq.trans (World.drewN_drewN _ _ _) (congrArg (World.drewN _) (Nat.add_assoc _ _ _))⟩))))
                        go_meet
                        case rel => exact ⟨_, (true), (by first | rfl | (simp; done) | (simp [*]; done)), H', ⟨by have := HK1.out; first | omega | exact Nat.le_refl _⟩, ⟨by (with_reducible repeat (first | apply Kd.R_alloc | apply Kd.R_drewN | apply Kd.R_drew)); exact HO_4.out⟩, ⟨by repeat (first | (with_reducible first | exact HB.out | apply below_alloc | apply pw_below_drewN | apply below_drew1) | exact HB.out)⟩⟩
                  · rw [if_neg c15] at H
                    exact absurd H (by simp)
              · rw [if_neg c13] at H
                have c13b0 : ((bt x0_1 0) == 92) = false := beq_eq_false_iff_ne.mpr c13
                have c13b1 : ((bt x0_1 0) != 92) = true := bne_iff_ne.mpr c13
                (first | rw [c13b0] | (simp only [i64_w, i32_w]; rw [c13b0]) | skip)
                have H' := Aside0.mk H
                clear H
                have p12 : 0 ≤ (0 : Int) := (by omega)
                have q12 : 0 < x0_1.size := (by have : (0 : Int) < (x0_1.size : Int) := of_decide_eq_true (by first | (with_reducible assumption) | assumption); omega)
                have hx12 : ∀ h : 0 < x0_1.size, ((x0_1[0]'h).toNat : Int) = bt x0_1 0 := bt_at x0_1 0
                clear p12
                have qi12 : (0 < (x0_1.size : Int)) = True := eq_true (of_decide_eq_true (by first | (with_reducible assumption) | assumption))
                replace q12 := eq_true q12
                go_wp2
                repeat (go_quiet (fail); try go_wp2)
                go_meet
                case rel => exact ⟨_, (true), (by first | rfl | (simp; done) | (simp [*]; done)), H', ⟨by have := HK1.out; first | omega | exact Nat.le_refl _⟩, ⟨by (with_reducible repeat (first | apply Kd.R_alloc | apply Kd.R_drewN | apply Kd.R_drew)); exact HO_4.out⟩, ⟨by repeat (first | (with_reducible first | exact HB.out | apply below_alloc | apply pw_below_drewN | apply below_drew1) | exact HB.out)⟩⟩
            case rest =>
              clear HC11
              try clear c1
              try clear p1
              try clear q1
              try clear hx1
              try clear qi1
              try clear c2
              try clear c2b0
              try clear c2b1
              try clear p2
              try clear q2
              try clear hx2
              try clear qi2
              try clear c3
              try clear c3b0
              try clear c3b1
              try clear p4
              try clear q4
              try clear hx4
              try clear qi4
              try clear c6
              try clear p7
              try clear q7
              try clear hx7
              try clear qi7
              try clear c8
              try clear c9
              try clear c9b0
              try clear c9b1
              try clear p12
              try clear q12
              try clear hx12
              try clear qi12
              try clear c13
              try clear c13b0
              try clear c13b1
              try clear c14
              try clear c14b0
              try clear c14b1
              try clear c15
              try clear c15b0
              try clear c15b1
              try clear p16
              try clear q16
              try clear hx16
              try clear qi16
              try clear c17
              try clear c17b0
              try clear p18
              try clear q18
              try clear hx18
              try clear qi18
              try clear c20
              try clear c21
              try clear c21b0
              try clear c21b1
              try clear p22
              try clear q22
              try clear hx22
              try clear qi22
              try clear c24
              try clear c25
              try clear c25b0
              try clear c25b1
              try clear p26
              try clear q26
              try clear hx26
              try clear qi26
              try clear p12
              try clear p16
              try clear p18
              try clear p22
              try clear p26
              try clear p4
              try clear p7
              try clear q12
              try clear q16
              try clear q18
              try clear q22
              try clear q26
              try clear q4
              try clear q7
              obtain ⟨kq, x49_10, rfl, HA, HJ10, HO_4, HB⟩ := hcut
              cases kq with
              | zero => exact absurd HA.out (by simp [text_Unquote.j1])
              | succ kj10 =>
                have H := HA.out
                clear HA
                simp only [text_Unquote.j1] at H
                by_cases c28 : x49_10 = true
                · subst c28
                  have H1 : (some ((⟨#[]⟩ : ByteArray), 15)) = some (r1, r2) := by rw [if_pos rfl] at H; exact H
                  clear H
                  have H := H1
                  clear H1
                  simp only [Option.some.injEq, Prod.mk.injEq] at H
                  obtain ⟨rfl, rfl⟩ := H
                  go_wp2
                  repeat (go_quiet (fail); try go_wp2)
                  go_ret2
                  exact ⟨by first | rfl | (simp [errW_none, errW_some] <;> rfl) | (simp [*, errW_none, errW_some] <;> rfl), by repeat (first | (with_reducible first | exact HB.out | apply below_alloc | apply pw_below_drewN | apply below_drew1) | exact HB.out)⟩
                · replace c28 := Bool.eq_false_iff.mpr c28
                  subst c28
                  have H1 : (if 1 < (x0_1.size : Int) then (if 2 < (x0_1.size : Int) then (if 3 < (x0_1.size : Int) then ((text_open.f (Go.bits .or .u8 (Go.bits .or .u8 (((Go.bits .and .u8 (bt x0_1 1) 7) * 64) % 256) (((Go.bits .and .u8 (bt x0_1 2) 7) * 8) % 256)) (Go.bits .and .u8 (bt x0_1 3) 7))).bind fun t108 => (if t108 = true then (some ((⟨#[]⟩ : ByteArray), 15)) else (if x4_1.length < 140737488355328 then (if 4 ≤ (x0_1.size : Int) then (text_Unquote.l0 kj10 (x0_1.extract 4 x0_1.size) (x4_1 ++ [Go.bits .or .u8 (Go.bits .or .u8 (((Go.bits .and .u8 (bt x0_1 1) 7) * 64) % 256) (((Go.bits .and .u8 (bt x0_1 2) 7) * 8) % 256)) (Go.bits .and .u8 (bt x0_1 3) 7)])) else (none)) else (none)))) else (none)) else (none)) else (none)) = some (r1, r2) := by rw [if_neg (show ¬ (false = true) by decide)] at H; exact H
                  clear H
                  have H := H1
                  clear H1
                  by_cases c29 : 1 < (x0_1.size : Int)
                  · rw [if_pos c29] at H
                    have c29b0 : decide (1 < (x0_1.size : Int)) = true := decide_eq_true c29
                    have c29b1 : decide (1 < x0_1.size) = true := decide_eq_true (by omega)
                    clear c29
                    by_cases c31 : 2 < (x0_1.size : Int)
                    · rw [if_pos c31] at H
                      have c31b0 : decide (2 < (x0_1.size : Int)) = true := decide_eq_true c31
                      have c31b1 : decide (2 < x0_1.size) = true := decide_eq_true (by omega)
                      clear c31
                      by_cases c33 : 3 < (x0_1.size : Int)
                      · rw [if_pos c33] at H
                        have c33b0 : decide (3 < (x0_1.size : Int)) = true := decide_eq_true c33
                        have c33b1 : decide (3 < x0_1.size) = true := decide_eq_true (by omega)
                        clear c33
                        replace H := Option.bind_eq_some_iff.mp H
                        obtain ⟨t108, A350, H⟩ := H
                        replace H : (if t108 = true then (some ((⟨#[]⟩ : ByteArray), 15)) else (if x4_1.length < 140737488355328 then (if 4 ≤ (x0_1.size : Int) then (text_Unquote.l0 kj10 (x0_1.extract 4 x0_1.size) (x4_1 ++ [Go.bits .or .u8 (Go.bits .or .u8 (((Go.bits .and .u8 (bt x0_1 1) 7) * 64) % 256) (((Go.bits .and .u8 (bt x0_1 2) 7) * 8) % 256)) (Go.bits .and .u8 (bt x0_1 3) 7)])) else (none)) else (none))) = some (r1, r2) := H
                        have A35 := Aside0.mk A350
                        clear A350
                        by_cases c36 : t108 = true
                        · subst c36
                          have H1 : (some ((⟨#[]⟩ : ByteArray), 15)) = some (r1, r2) := by rw [if_pos rfl] at H; exact H
                          clear H
                          have H := H1
                          clear H1
                          simp only [Option.some.injEq, Prod.mk.injEq] at H
                          obtain ⟨rfl, rfl⟩ := H
                          have p30 : 0 ≤ (1 : Int) := (by omega)
                          have q30 : 1 < x0_1.size := (by have : (1 : Int) < (x0_1.size : Int) := of_decide_eq_true (by first | (with_reducible assumption) | assumption); omega)
                          have hx30 : ∀ h : 1 < x0_1.size, ((x0_1[1]'h).toNat : Int) = bt x0_1 1 := bt_at x0_1 1
                          clear p30
                          have qi30 : (1 < (x0_1.size : Int)) = True := eq_true (of_decide_eq_true (by first | (with_reducible assumption) | assumption))
                          replace q30 := eq_true q30
                          have p32 : 0 ≤ (2 : Int) := (by omega)
                          have q32 : 2 < x0_1.size := (by have : (2 : Int) < (x0_1.size : Int) := of_decide_eq_true (by first | (with_reducible assumption) | assumption); omega)
                          have hx32 : ∀ h : 2 < x0_1.size, ((x0_1[2]'h).toNat : Int) = bt x0_1 2 := bt_at x0_1 2
                          clear p32
                          have qi32 : (2 < (x0_1.size : Int)) = True := eq_true (of_decide_eq_true (by first | (with_reducible assumption) | assumption))
                          replace q32 := eq_true q32
                          have p34 : 0 ≤ (3 : Int) := (by omega)
                          have q34 : 3 < x0_1.size := (by have : (3 : Int) < (x0_1.size : Int) := of_decide_eq_true (by first | (with_reducible assumption) | assumption); omega)
                          have hx34 : ∀ h : 3 < x0_1.size, ((x0_1[3]'h).toNat : Int) = bt x0_1 3 := bt_at x0_1 3
                          clear p34
                          have qi34 : (3 < (x0_1.size : Int)) = True := eq_true (of_decide_eq_true (by first | (with_reducible assumption) | assumption))
                          replace q34 := eq_true q34
                          go_wp2_with (first | (go_at_call 27; (with_reducible refine (text_open.calls (Go.bits .or .u8 (Go.bits .or .u8 (((Go.bits .and .u8 (bt x0_1 1) 7) * 64) % 256) (((Go.bits .and .u8 (bt x0_1 2) 7) * 8) % 256)) (Go.bits .and .u8 (bt x0_1 3) 7)) true _ A35.out).mono ?_); rintro e w' ⟨rfl, ⟨nd, rfl⟩⟩; (try first | exact ⟨rfl, _, World.drewN_drewN _ _ _⟩ | exact ⟨rfl, _, Eq.trans (World.drewN_drewN _ _ _) (congrArg (World.drewN _) (Nat.add_assoc _ _ _))⟩)))
                          repeat (go_quiet (first | (go_at_call 27; (with_reducible refine (text_open.calls (Go.bits .or .u8 (Go.bits .or .u8 (((Go.bits .and .u8 (bt x0_1 1) 7) * 64) % 256) (((Go.bits .and .u8 (bt x0_1 2) 7) * 8) % 256)) (Go.bits .and .u8 (bt x0_1 3) 7)) true _ A35.out).mono ?_); rintro e w' ⟨rfl, ⟨nd, rfl⟩⟩; (try first | exact ⟨rfl, _, World.drewN_drewN _ _ _⟩ | exact ⟨rfl, _, Eq.trans (World.drewN_drewN _ _ _) (congrArg (World.drewN _) (Nat.add_assoc _ _ _))⟩))); try go_wp2_with (first | (go_at_call 27; (with_reducible refine (text_open.calls (Go.bits .or .u8 (Go.bits .or .u8 (((Go.bits .and .u8 (bt x0_1 1) 7) * 64) % 256) (((Go.bits .and .u8 (bt x0_1 2) 7) * 8) % 256)) (Go.bits .and .u8 (bt x0_1 3) 7)) true _ A35.out).mono ?_); rintro e w' ⟨rfl, ⟨nd, rfl⟩⟩; (try first | exact ⟨rfl, _, World.drewN_drewN _ _ _⟩ | exact ⟨rfl, _, Eq.trans (World.drewN_drewN _ _ _) (congrArg (World.drewN _) (Nat.add_assoc _ _ _))⟩))))
                          go_ret2
                          exact ⟨by first | rfl | (simp [errW_none, errW_some] <;> rfl) | (simp [*, errW_none, errW_some] <;> rfl), by repeat (first | (with_reducible first | exact HB.out | apply below_alloc | apply pw_below_drewN | apply below_drew1) | exact HB.out)⟩
                        · replace c36 := Bool.eq_false_iff.mpr c36
                          subst c36
                          have H1 : (if x4_1.length < 140737488355328 then (if 4 ≤ (x0_1.size : Int) then (text_Unquote.l0 kj10 (x0_1.extract 4 x0_1.size) (x4_1 ++ [Go.bits .or .u8 (Go.bits .or .u8 (((Go.bits .and .u8 (bt x0_1 1) 7) * 64) % 256) (((Go.bits .and .u8 (bt x0_1 2) 7) * 8) % 256)) (Go.bits .and .u8 (bt x0_1 3) 7)])) else (none)) else (none)) = some (r1, r2) := by rw [if_neg (show ¬ (false = true) by decide)] at H; exact H
                          clear H
                          have H := H1
                          clear H1
                          by_cases c37 : x4_1.length < 140737488355328
                          · rw [if_pos c37] at H
                            have LMc37 := Aside0.mk c37
                            clear c37
                            obtain ⟨y109, hy109⟩ : ∃ y_ : List Int, y_ = (x4_1 ++ [Go.bits .or .u8 (Go.bits .or .u8 (((Go.bits .and .u8 (bt x0_1 1) 7) * 64) % 256) (((Go.bits .and .u8 (bt x0_1 2) 7) * 8) % 256)) (Go.bits .and .u8 (bt x0_1 3) 7)]) := ⟨_, rfl⟩
                            replace H : (if 4 ≤ (x0_1.size : Int) then (text_Unquote.l0 kj10 (x0_1.extract 4 x0_1.size) y109) else (none)) = some (r1, r2) := by first | (rw [hy109]; with_reducible exact H) | (have H2_ := (Option.bind_some _ _).symm.trans H; rw [hy109]; with_reducible exact H2_) | (have H2_ := (Option.bind_some _ _).symm.trans H; with_reducible exact H2_) | with_reducible exact H | (rw [hy109]; exact H) | exact H
                            have Ny109 := Aside0.mk hy109
                            clear hy109
                            by_cases c38 : 4 ≤ (x0_1.size : Int)
                            · rw [if_pos c38] at H
                              have c38b0 := eq_true c38
                              have c38b1 : decide (4 ≤ (x0_1.size : Int)) = true := decide_eq_true c38
                              clear c38
                              have H' := Aside0.mk H
                              clear H
                              have p30 : 0 ≤ (1 : Int) := (by omega)
                              have q30 : 1 < x0_1.size := (by have : (1 : Int) < (x0_1.size : Int) := of_decide_eq_true (by first | (with_reducible assumption) | assumption); omega)
                              have hx30 : ∀ h : 1 < x0_1.size, ((x0_1[1]'h).toNat : Int) = bt x0_1 1 := bt_at x0_1 1
                              clear p30
                              have qi30 : (1 < (x0_1.size : Int)) = True := eq_true (of_decide_eq_true (by first | (with_reducible assumption) | assumption))
                              replace q30 := eq_true q30
                              have p32 : 0 ≤ (2 : Int) := (by omega)
                              have q32 : 2 < x0_1.size := (by have : (2 : Int) < (x0_1.size : Int) := of_decide_eq_true (by first | (with_reducible assumption) | assumption); omega)
                              have hx32 : ∀ h : 2 < x0_1.size, ((x0_1[2]'h).toNat : Int) = bt x0_1 2 := bt_at x0_1 2
                              clear p32
                              have qi32 : (2 < (x0_1.size : Int)) = True := eq_true (of_decide_eq_true (by first | (with_reducible assumption) | assumption))
                              replace q32 := eq_true q32
                              have p34 : 0 ≤ (3 : Int) := (by omega)
                              have q34 : 3 < x0_1.size := (by have : (3 : Int) < (x0_1.size : Int) := of_decide_eq_true (by first | (with_reducible assumption) | assumption); omega)
                              have hx34 : ∀ h : 3 < x0_1.size, ((x0_1[3]'h).toNat : Int) = bt x0_1 3 := bt_at x0_1 3
                              clear p34
                              have qi34 : (3 < (x0_1.size : Int)) = True := eq_true (of_decide_eq_true (by first | (with_reducible assumption) | assumption))
                              replace q34 := eq_true q34
                              go_wp2_with (first | (go_at_call 27; (with_reducible refine (text_open.calls (Go.bits .or .u8 (Go.bits .or .u8 (((Go.bits .and .u8 (bt x0_1 1) 7) * 64) % 256) (((Go.bits .and .u8 (bt x0_1 2) 7) * 8) % 256)) (Go.bits .and .u8 (bt x0_1 3) 7)) false _ A35.out).mono ?_); rintro e w' ⟨rfl, ⟨nd, rfl⟩⟩; (try first | exact ⟨rfl, _, World.drewN_drewN _ _ _⟩ | exact ⟨rfl, _, Eq.trans (World.drewN_drewN _ _ _) (congrArg (World.drewN _) (Nat.add_assoc _ _ _))⟩)) | ((with_reducible refine gate_builtin (b := .append) (xs := #[.tmp 65, .tmp 67]) rfl ?_); (try (refine gate_guard (by rfl) ?_; dsimp only)); at_builtin; refine Kd.R_append (Kd.int .u8) (w0 := w) w.heap.size rfl (.tmp 65) (.tmp 67) 32 5 (.int .u8 0) 1 rfl Try.underlying32 info5 rfl (by decide) (by omega) u4 x4_1 (Go.bits .or .u8 (Go.bits .or .u8 (((Go.bits .and .u8 (bt x0_1 1) 7) * 64) % 256) (((Go.bits .and .u8 (bt x0_1 2) 7) * 8) % 256)) (Go.bits .and .u8 (bt x0_1 3) 7)) [.int .u8 (Go.bits .or .u8 (Go.bits .or .u8 (((Go.bits .and .u8 (bt x0_1 1) 7) * 64) % 256) (((Go.bits .and .u8 (bt x0_1 2) 7) * 8) % 256)) (Go.bits .and .u8 (bt x0_1 3) 7))] (fun _ => True) (fun _ => False) rfl rfl ?aP (fun _ hk => hk.elim) ?aF ?aO ?aB ?aS ?aL ?_; (case aP => exact rfl); (case aB => exact (by repeat (first | (with_reducible first | exact HB.out | apply below_alloc | apply pw_below_drewN | apply below_drew1) | exact HB.out))); (case aF => exact (fun _ _ => trivial)); (case aO => exact (by (with_reducible repeat (first | apply Kd.R_alloc | apply Kd.R_drewN | apply Kd.R_drew)); exact HO_4.out)); (case aS => exact (below_size (by repeat (first | (with_reducible first | exact HB.out | apply below_alloc | apply pw_below_drewN | apply below_drew1) | exact HB.out)))); (case aL => have := LMc37.out; omega); intro v110 w39 ho hb hg hat; rw [← Ny109.out] at ho; have n0_ := Aside0.mk (hb); have n1_ := Aside0.mk (ho); clear HB; clear HO_4; have HB := n0_; have HO111 := n1_; clear n0_ n1_; clear ho hb hg hat))
                              repeat (go_quiet (first | (go_at_call 27; (with_reducible refine (text_open.calls (Go.bits .or .u8 (Go.bits .or .u8 (((Go.bits .and .u8 (bt x0_1 1) 7) * 64) % 256) (((Go.bits .and .u8 (bt x0_1 2) 7) * 8) % 256)) (Go.bits .and .u8 (bt x0_1 3) 7)) false _ A35.out).mono ?_); rintro e w' ⟨rfl, ⟨nd, rfl⟩⟩; (try first | exact ⟨rfl, _, World.drewN_drewN _ _ _⟩ | exact ⟨rfl, _, Eq.trans (World.drewN_drewN _ _ _) (congrArg (World.drewN _) (Nat.add_assoc _ _ _))⟩)) | ((with_reducible refine gate_builtin (b := .append) (xs := #[.tmp 65, .tmp 67]) rfl ?_); (try (refine gate_guard (by rfl) ?_; dsimp only)); at_builtin; refine Kd.R_append (Kd.int .u8) (w0 := w) w.heap.size rfl (.tmp 65) (.tmp 67) 32 5 (.int .u8 0) 1 rfl Try.underlying32 info5 rfl (by decide) (by omega) u4 x4_1 (Go.bits .or .u8 (Go.bits .or .u8 (((Go.bits .and .u8 (bt x0_1 1) 7) * 64) % 256) (((Go.bits .and .u8 (bt x0_1 2) 7) * 8) % 256)) (Go.bits .and .u8 (bt x0_1 3) 7)) [.int .u8 (Go.bits .or .u8 (Go.bits .or .u8 (((Go.bits .and .u8 (bt x0_1 1) 7) * 64) % 256) (((Go.bits .and .u8 (bt x0_1 2) 7) * 8) % 256)) (Go.bits .and .u8 (bt x0_1 3) 7))] (fun _ => True) (fun _ => False) rfl rfl ?aP (fun _ hk => hk.elim) ?aF ?aO ?aB ?aS ?aL ?_; (case aP => exact rfl); (case aB => exact (by repeat (first | (with_reducible first | exact HB.out | apply below_alloc | apply pw_below_drewN | apply below_drew1) | exact HB.out))); (case aF => exact (fun _ _ => trivial)); (case aO => exact (by (with_reducible repeat (first | apply Kd.R_alloc | apply Kd.R_drewN | apply Kd.R_drew)); exact HO_4.out)); (case aS => exact (below_size (by repeat (first | (with_reducible first | exact HB.out | apply below_alloc | apply pw_below_drewN | apply below_drew1) | exact HB.out)))); (case aL => have := LMc37.out; omega); intro v110 w39 ho hb hg hat; rw [← Ny109.out] at ho; have n0_ := Aside0.mk (hb); have n1_ := Aside0.mk (ho); clear HB; clear HO_4; have HB := n0_; have HO111 := n1_; clear n0_ n1_; clear ho hb hg hat)); try go_wp2_with (first | (go_at_call 27; (with_reducible refine (text_open.calls (Go.bits .or .u8 (Go.bits .or .u8 (((Go.bits .and .u8 (bt x0_1 1) 7) * 64) % 256) (((Go.bits .and .u8 (bt x0_1 2) 7) * 8) % 256)) (Go.bits .and .u8 (bt x0_1 3) 7)) false _ A35.out).mono ?_); rintro e w' ⟨rfl, ⟨nd, rfl⟩⟩; (try first | exact ⟨rfl, _, World.drewN_drewN _ _ _⟩ | exact ⟨rfl, _, Eq.trans (World.drewN_drewN _ _ _) (congrArg (World.drewN _) (Nat.add_assoc _ _ _))⟩)) | ((with_reducible refine gate_builtin (b := .append) (xs := #[.tmp 65, .tmp 67]) rfl ?_); (try (refine gate_guard (by rfl) ?_; dsimp only)); at_builtin; refine Kd.R_append (Kd.int .u8) (w0 := w) w.heap.size rfl (.tmp 65) (.tmp 67) 32 5 (.int .u8 0) 1 rfl Try.underlying32 info5 rfl (by decide) (by omega) u4 x4_1 (Go.bits .or .u8 (Go.bits .or .u8 (((Go.bits .and .u8 (bt x0_1 1) 7) * 64) % 256) (((Go.bits .and .u8 (bt x0_1 2) 7) * 8) % 256)) (Go.bits .and .u8 (bt x0_1 3) 7)) [.int .u8 (Go.bits .or .u8 (Go.bits .or .u8 (((Go.bits .and .u8 (bt x0_1 1) 7) * 64) % 256) (((Go.bits .and .u8 (bt x0_1 2) 7) * 8) % 256)) (Go.bits .and .u8 (bt x0_1 3) 7))] (fun _ => True) (fun _ => False) rfl rfl ?aP (fun _ hk => hk.elim) ?aF ?aO ?aB ?aS ?aL ?_; (case aP => exact rfl); (case aB => exact (by repeat (first | (with_reducible first | exact HB.out | apply below_alloc | apply pw_below_drewN | apply below_drew1) | exact HB.out))); (case aF => exact (fun _ _ => trivial)); (case aO => exact (by (with_reducible repeat (first | apply Kd.R_alloc | apply Kd.R_drewN | apply Kd.R_drew)); exact HO_4.out)); (case aS => exact (below_size (by repeat (first | (with_reducible first | exact HB.out | apply below_alloc | apply pw_below_drewN | apply below_drew1) | exact HB.out)))); (case aL => have := LMc37.out; omega); intro v110 w39 ho hb hg hat; rw [← Ny109.out] at ho; have n0_ := Aside0.mk (hb); have n1_ := Aside0.mk (ho); clear HB; clear HO_4; have HB := n0_; have HO111 := n1_; clear n0_ n1_; clear ho hb hg hat)))
                              go_roundg kj10
                              case measure => have := HK1.out; have := HJ10.out; omega
                              case rel => exact ⟨(x0_1.extract 4 x0_1.size), (y109), (by first | rfl | (simp; done) | (simp [*]; done)), H', ⟨by have := HK1.out; have := HJ10.out; omega⟩, ⟨by (with_reducible repeat (first | apply Kd.R_alloc | apply Kd.R_drewN | apply Kd.R_drew)); exact HO111.out⟩, ⟨by repeat (first | (with_reducible first | exact HB.out | apply below_alloc | apply pw_below_drewN | apply below_drew1) | exact HB.out)⟩⟩
                            · rw [if_neg c38] at H
                              exact absurd H (by simp)
                          · rw [if_neg c37] at H
                            exact absurd H (by simp)
                      · rw [if_neg c33] at H
                        exact absurd H (by simp)
                    · rw [if_neg c31] at H
                      exact absurd H (by simp)
                  · rw [if_neg c29] at H
                    exact absurd H (by simp)
        · rw [if_neg c3] at H
          exact absurd H (by simp)
      · rw [if_neg c2] at H
        have c2b0 : decide (0 < (x0_1.size : Int)) = false := decide_eq_false c2
        have c2b1 : decide (0 < x0_1.size) = false := decide_eq_false (by omega)
        clear c2
        simp only [Option.some.injEq, Prod.mk.injEq] at H
        obtain ⟨rfl, rfl⟩ := H
        have hcv40 := own_string (P := Try.prog) Try.underlying32 Try.underlying5 Try.underlying9 (Kd.own_of_R HO_4.out)
        go_wp2
        repeat (go_quiet (fail); try go_wp2)
        go_ret2
        exact ⟨by first | rfl | (simp [errW_none, errW_some] <;> rfl) | (simp [*, errW_none, errW_some] <;> rfl), by repeat (first | (with_reducible first | exact HB.out | apply below_alloc | apply pw_below_drewN | apply below_drew1) | exact HB.out)⟩

-- NOT PRINTED: function 39 (abi_NoEscape)

-- NOT PRINTED: function 36 (strings_Builder_copyCheck)

-- NOT PRINTED: function 31 (strings_Builder_WriteByte)

-- NOT PRINTED: function 32 (strings_Builder_String)

/-! ### text_Quote: function 10 -/
def text_Quote.f (a0 : ByteArray) : Option (ByteArray) := if a0.size ≤ 1000000 then some (⟨(Go.Proofs.Ythojbddpfpgnhaa.Hand.quoteList a0.data.toList).toArray⟩ : ByteArray) else none
theorem text_Quote.calls (a0 : ByteArray) (r : ByteArray) (w : World) (h : text_Quote.f a0 = some r) :
    Calls Try.prog 10 #[.string a0] w fun e w' => e = .returned (.string r) ∧ Below w.heap.size w w' := by
  unfold text_Quote.f at h
  by_cases hs : a0.size ≤ 1000000
  · rw [if_pos hs] at h
    cases h
    exact Go.Proofs.Ythojbddpfpgnhaa.Hand.quote_calls a0 w hs
  · rw [if_neg hs] at h
    cases h

/-! ### oakumlaw02_alive: function 7 -/
def oakumlaw02_alive.f (k : Nat)  : Option (Bool) := (text_Unquote.f k (⟨#[92, 48, 52, 48, 92, 49, 51, 52, 97]⟩ : ByteArray)).bind fun bt112 => ((text_Quote.f (⟨#[32, 92, 97]⟩ : ByteArray)).bind fun t114 => (if t114.toList = ([92, 48, 52, 48, 92, 49, 51, 52, 97] : List UInt8) then (if (wrap64 (bt112.2)) = 0 then (some (bt112.1.toList == ([32, 92, 97] : List UInt8))) else (some false)) else (some false)))
theorem oakumlaw02_alive.mono : ∀ k, LeO (oakumlaw02_alive.f k ) (oakumlaw02_alive.f (k + 1) ) := by
  intro  k
  unfold oakumlaw02_alive.f
  repeat' first
      | (with_reducible exact text_Unquote.mono _ _)
      | (with_reducible exact LeO.refl _)
      | (with_reducible exact LeO.none _)
      | (with_reducible refine LeO.ite ?_ ?_)
      | (with_reducible refine LeO.bind ?_ (fun _ => ?_))
      | exact text_Unquote.mono _ _
      | exact LeO.none _
      | refine LeO.ite ?_ ?_
      | refine LeO.bind ?_ (fun _ => ?_)
set_option maxHeartbeats 8000000 in
set_option maxRecDepth 100000 in
theorem oakumlaw02_alive.calls (k : Nat)  (r : Bool) (w : World) (h : oakumlaw02_alive.f k  = some r) :
    Calls Try.prog 7 #[] w fun e w' => e = .returned (.bool r) ∧ Below w.heap.size w w' := by
  have HB := Aside0.mk (Below.refl w.heap.size w)
  have H : ((text_Unquote.f k (⟨#[92, 48, 52, 48, 92, 49, 51, 52, 97]⟩ : ByteArray)).bind fun bt112 => ((text_Quote.f (⟨#[32, 92, 97]⟩ : ByteArray)).bind fun t114 => (if t114.toList = ([92, 48, 52, 48, 92, 49, 51, 52, 97] : List UInt8) then (if (wrap64 (bt112.2)) = 0 then (some (bt112.1.toList == ([32, 92, 97] : List UInt8))) else (some false)) else (some false)))) = some r := h
  clear h
  replace H := Option.bind_eq_some_iff.mp H
  obtain ⟨⟨t112, t113⟩, A10, H⟩ := H
  replace H : ((text_Quote.f (⟨#[32, 92, 97]⟩ : ByteArray)).bind fun t114 => (if t114.toList = ([92, 48, 52, 48, 92, 49, 51, 52, 97] : List UInt8) then (if (wrap64 (t113)) = 0 then (some (t112.toList == ([32, 92, 97] : List UInt8))) else (some false)) else (some false))) = some r := H
  have A1 := Aside0.mk A10
  clear A10
  replace H := Option.bind_eq_some_iff.mp H
  obtain ⟨t114, A20, H⟩ := H
  replace H : (if t114.toList = ([92, 48, 52, 48, 92, 49, 51, 52, 97] : List UInt8) then (if (wrap64 (t113)) = 0 then (some (t112.toList == ([32, 92, 97] : List UInt8))) else (some false)) else (some false)) = some r := H
  have A2 := Aside0.mk A20
  clear A20
  by_cases c3 : t114.toList = ([92, 48, 52, 48, 92, 49, 51, 52, 97] : List UInt8)
  · rw [if_pos c3] at H
    have c3b0 : (t114.toList == ([92, 48, 52, 48, 92, 49, 51, 52, 97] : List UInt8)) = true := beq_iff_eq.mpr c3
    have c3b1 : (t114.toList != ([92, 48, 52, 48, 92, 49, 51, 52, 97] : List UInt8)) = false := bne_eq_false_iff_eq.mpr c3
    clear c3
    by_cases c4 : (wrap64 (t113)) = 0
    · rw [if_pos c4] at H
      have c4b0 : ((wrap64 (t113)) == 0) = true := beq_iff_eq.mpr c4
      have c4b1 : ((wrap64 (t113)) != 0) = false := bne_eq_false_iff_eq.mpr c4
      clear c4
      obtain rfl := Option.some.inj H
      go_enter Try.func7, Try.ntmps7
      go_wp2_with (first | ((with_reducible refine gate_callee (f := 8) rfl ?_); refine goesL_ (some 4) rfl rfl Try.func8 (by kernel_rfl) rfl #[.string (⟨#[92, 48, 52, 48, 92, 49, 51, 52, 97]⟩ : ByteArray)] rfl (by (try simp only [List.map_toArray, List.map_cons, List.map_nil]); first | done | rfl | (simp only [List.length_drop, List.length_take]; rfl)) ?_; (with_reducible refine (text_Unquote.calls k (⟨#[92, 48, 52, 48, 92, 49, 51, 52, 97]⟩ : ByteArray) t112 t113 _ A1.out).mono ?_); rintro e w5 ⟨rfl, hb⟩; refine ⟨_, rfl, ?_⟩; have n0_ := Aside0.mk (below_step (by repeat (first | (with_reducible first | exact HB.out | apply below_alloc | apply pw_below_drewN | apply below_drew1) | exact HB.out)) hb); clear HB; have HB := n0_; clear n0_; (try clear hb); (try clear hb2); (try clear hk); (try clear hi)) | ((with_reducible refine gate_callee (f := 10) rfl ?_); refine goesL_ (some 7) rfl rfl Try.func10 (by kernel_rfl) rfl #[.string (⟨#[32, 92, 97]⟩ : ByteArray)] rfl (by (try simp only [List.map_toArray, List.map_cons, List.map_nil]); first | done | rfl | (simp only [List.length_drop, List.length_take]; rfl)) ?_; (with_reducible refine (text_Quote.calls (⟨#[32, 92, 97]⟩ : ByteArray) t114 _ A2.out).mono ?_); rintro e w6 ⟨rfl, hb⟩; refine ⟨_, rfl, ?_⟩; have n0_ := Aside0.mk (below_step (by repeat (first | (with_reducible first | exact HB.out | apply below_alloc | apply pw_below_drewN | apply below_drew1) | exact HB.out)) hb); clear HB; have HB := n0_; clear n0_; (try clear hb); (try clear hb2); (try clear hk); (try clear hi)))
      go_ret
      exact ⟨by first | rfl | (simp [errW_none, errW_some] <;> rfl) | (simp [*, errW_none, errW_some] <;> rfl), by repeat (first | (with_reducible first | exact HB.out | apply below_alloc | apply pw_below_drewN | apply below_drew1) | exact HB.out)⟩
    · rw [if_neg c4] at H
      have c4b0 : ((wrap64 (t113)) == 0) = false := beq_eq_false_iff_ne.mpr c4
      have c4b1 : ((wrap64 (t113)) != 0) = true := bne_iff_ne.mpr c4
      obtain rfl := Option.some.inj H
      go_enter Try.func7, Try.ntmps7
      go_wp2_with (first | ((with_reducible refine gate_callee (f := 8) rfl ?_); refine goesL_ (some 4) rfl rfl Try.func8 (by kernel_rfl) rfl #[.string (⟨#[92, 48, 52, 48, 92, 49, 51, 52, 97]⟩ : ByteArray)] rfl (by (try simp only [List.map_toArray, List.map_cons, List.map_nil]); first | done | rfl | (simp only [List.length_drop, List.length_take]; rfl)) ?_; (with_reducible refine (text_Unquote.calls k (⟨#[92, 48, 52, 48, 92, 49, 51, 52, 97]⟩ : ByteArray) t112 t113 _ A1.out).mono ?_); rintro e w7 ⟨rfl, hb⟩; refine ⟨_, rfl, ?_⟩; have n0_ := Aside0.mk (below_step (by repeat (first | (with_reducible first | exact HB.out | apply below_alloc | apply pw_below_drewN | apply below_drew1) | exact HB.out)) hb); clear HB; have HB := n0_; clear n0_; (try clear hb); (try clear hb2); (try clear hk); (try clear hi)) | ((with_reducible refine gate_callee (f := 10) rfl ?_); refine goesL_ (some 7) rfl rfl Try.func10 (by kernel_rfl) rfl #[.string (⟨#[32, 92, 97]⟩ : ByteArray)] rfl (by (try simp only [List.map_toArray, List.map_cons, List.map_nil]); first | done | rfl | (simp only [List.length_drop, List.length_take]; rfl)) ?_; (with_reducible refine (text_Quote.calls (⟨#[32, 92, 97]⟩ : ByteArray) t114 _ A2.out).mono ?_); rintro e w8 ⟨rfl, hb⟩; refine ⟨_, rfl, ?_⟩; have n0_ := Aside0.mk (below_step (by repeat (first | (with_reducible first | exact HB.out | apply below_alloc | apply pw_below_drewN | apply below_drew1) | exact HB.out)) hb); clear HB; have HB := n0_; clear n0_; (try clear hb); (try clear hb2); (try clear hk); (try clear hi)))
      go_ret
      exact ⟨by first | rfl | (simp [errW_none, errW_some] <;> rfl) | (simp [*, errW_none, errW_some] <;> rfl), by repeat (first | (with_reducible first | exact HB.out | apply below_alloc | apply pw_below_drewN | apply below_drew1) | exact HB.out)⟩
  · rw [if_neg c3] at H
    have c3b0 : (t114.toList == ([92, 48, 52, 48, 92, 49, 51, 52, 97] : List UInt8)) = false := beq_eq_false_iff_ne.mpr c3
    have c3b1 : (t114.toList != ([92, 48, 52, 48, 92, 49, 51, 52, 97] : List UInt8)) = true := bne_iff_ne.mpr c3
    obtain rfl := Option.some.inj H
    go_enter Try.func7, Try.ntmps7
    go_wp2_with (first | ((with_reducible refine gate_callee (f := 8) rfl ?_); refine goesL_ (some 4) rfl rfl Try.func8 (by kernel_rfl) rfl #[.string (⟨#[92, 48, 52, 48, 92, 49, 51, 52, 97]⟩ : ByteArray)] rfl (by (try simp only [List.map_toArray, List.map_cons, List.map_nil]); first | done | rfl | (simp only [List.length_drop, List.length_take]; rfl)) ?_; (with_reducible refine (text_Unquote.calls k (⟨#[92, 48, 52, 48, 92, 49, 51, 52, 97]⟩ : ByteArray) t112 t113 _ A1.out).mono ?_); rintro e w9 ⟨rfl, hb⟩; refine ⟨_, rfl, ?_⟩; have n0_ := Aside0.mk (below_step (by repeat (first | (with_reducible first | exact HB.out | apply below_alloc | apply pw_below_drewN | apply below_drew1) | exact HB.out)) hb); clear HB; have HB := n0_; clear n0_; (try clear hb); (try clear hb2); (try clear hk); (try clear hi)) | ((with_reducible refine gate_callee (f := 10) rfl ?_); refine goesL_ (some 7) rfl rfl Try.func10 (by kernel_rfl) rfl #[.string (⟨#[32, 92, 97]⟩ : ByteArray)] rfl (by (try simp only [List.map_toArray, List.map_cons, List.map_nil]); first | done | rfl | (simp only [List.length_drop, List.length_take]; rfl)) ?_; (with_reducible refine (text_Quote.calls (⟨#[32, 92, 97]⟩ : ByteArray) t114 _ A2.out).mono ?_); rintro e w10 ⟨rfl, hb⟩; refine ⟨_, rfl, ?_⟩; have n0_ := Aside0.mk (below_step (by repeat (first | (with_reducible first | exact HB.out | apply below_alloc | apply pw_below_drewN | apply below_drew1) | exact HB.out)) hb); clear HB; have HB := n0_; clear n0_; (try clear hb); (try clear hb2); (try clear hk); (try clear hi)))
    go_ret
    exact ⟨by first | rfl | (simp [errW_none, errW_some] <;> rfl) | (simp [*, errW_none, errW_some] <;> rfl), by repeat (first | (with_reducible first | exact HB.out | apply below_alloc | apply pw_below_drewN | apply below_drew1) | exact HB.out)⟩

-- NOT PRINTED: function 40 (bytealg_IndexByteString)

-- NOT PRINTED: function 38 (stringslite_IndexByte)

-- NOT PRINTED: function 35 (strings_IndexByte)

/-! ### text_Clean: function 23 -/
def text_Clean.f (a0 : ByteArray) : Option (Bool) := some (Go.Proofs.Ythojbddpfpgnhaa.Hand.cleanB a0)
theorem text_Clean.calls (a0 : ByteArray) (r : Bool) (w : World) (h : text_Clean.f a0 = some r) :
    Calls Try.prog 23 #[.string a0] w fun e w' => e = .returned (.bool r) ∧ Drawn0 w w' := by
  cases h
  refine (Go.Proofs.Ythojbddpfpgnhaa.Hand.clean_calls a0 w).mono ?_
  rintro e w' ⟨rfl, rfl⟩
  exact ⟨rfl, Drawn0.refl _⟩

/-! ### text_Put: function 16 -/
def text_Put.f (a0 : ByteArray) (a1 : Int) : Option (List Int × Int) := if a0.size ≤ 140737488351232 then some (Go.Proofs.Ythojbddpfpgnhaa.Hand.putOf a0 a1) else none
theorem text_Put.calls (a0 : ByteArray) (a1 : Int) (r1 : List Int) (r2 : Int) (w : World) (h : text_Put.f a0 a1 = some (r1, r2)) :
    Calls Try.prog 16 #[.string a0, .int .i64 a1] w fun e w' => ∃ v0_ : Value, e = .returned (.tuple #[v0_, .int .u8 r2]) ∧ Kd.R (Kd.int .u8) 5 w' w.heap.size (fun _ => True) v0_ r1 ∧ Below w.heap.size w w' := by
  unfold text_Put.f at h
  by_cases hs : a0.size ≤ 140737488351232
  · rw [if_pos hs] at h
    have h := Option.some.inj h
    have := Go.Proofs.Ythojbddpfpgnhaa.Hand.put_calls a0 a1 w hs
    rw [h] at this
    exact this
  · rw [if_neg hs] at h
    cases h

-- NOT PRINTED: function 37 (bytealg_IndexByte)

-- NOT PRINTED: function 33 (bytes_IndexByte)

/-! ### text_Get: function 17 -/
def text_Get.f (l0 : List Int) : Option (ByteArray) := some (Go.Proofs.Ythojbddpfpgnhaa.Hand.getOf l0)
theorem text_Get.calls (A0 : Option Addr) (c0 : Nat) (l0 : List Int) (r : ByteArray) (w : World) (hr0 : Kd.C (Kd.int .u8) w A0 l0.length l0) (hc0 : l0.length ≤ c0) (h : text_Get.f l0 = some r) :
    Calls Try.prog 17 #[.slice A0 l0.length c0] w fun e w' => e = .returned (.string r) ∧ Drawn0 w w' := by
  cases h
  refine (Go.Proofs.Ythojbddpfpgnhaa.Hand.get_calls A0 c0 l0 w hr0 hc0).mono ?_
  rintro e w' ⟨rfl, rfl⟩
  exact ⟨rfl, Drawn0.refl _⟩

/-! ### oakumref02_Get: function 19 -/
def oakumref02_Get.l0 : Nat → List Int → List Int → Int → Option (ByteArray)
  | 0, _, _, _ => none
  | k + 1, x0, x3, x4 => if x4 < (x0.length : Int) then (if 0 ≤ x4 then (if (rd x0 x4) = 0 then (some (strOfNums x3)) else (if x3.length < 140737488355328 then (oakumref02_Get.l0 k x0 (x3 ++ [rd x0 x4]) (wrap64 (x4 + 1))) else (none))) else (none)) else (some (strOfNums x3))
def oakumref02_Get.f (k : Nat) (l0 : List Int) : Option (ByteArray) := oakumref02_Get.l0 k l0 (([] : List Int)) 0
theorem oakumref02_Get.mono_l : ∀ k, (∀ y0 y1 y2, LeO (oakumref02_Get.l0 k y0 y1 y2) (oakumref02_Get.l0 (k + 1) y0 y1 y2))
  | 0 => fun _ _ _ r h => by simp [oakumref02_Get.l0] at h
  | k + 1 => by
    have ih0 := oakumref02_Get.mono_l k
    · intro y0 y1 y2
      unfold oakumref02_Get.l0
      repeat' first
      | (with_reducible exact ih0 _ _ _)
      | (with_reducible exact LeO.refl _)
      | (with_reducible exact LeO.none _)
      | (with_reducible refine LeO.ite ?_ ?_)
      | (with_reducible refine LeO.bind ?_ (fun _ => ?_))
      | exact ih0 _ _ _
      | exact LeO.none _
      | refine LeO.ite ?_ ?_
      | refine LeO.bind ?_ (fun _ => ?_)
theorem oakumref02_Get.mono : ∀ a0 k, LeO (oakumref02_Get.f k a0) (oakumref02_Get.f (k + 1) a0) := by
  intro a0 k
  have ih0 := oakumref02_Get.mono_l k
  unfold oakumref02_Get.f
  repeat' first
      | (with_reducible exact ih0 _ _ _)
      | (with_reducible exact LeO.refl _)
      | (with_reducible exact LeO.none _)
      | (with_reducible refine LeO.ite ?_ ?_)
      | (with_reducible refine LeO.bind ?_ (fun _ => ?_))
      | exact ih0 _ _ _
      | exact LeO.none _
      | refine LeO.ite ?_ ?_
      | refine LeO.bind ?_ (fun _ => ?_)
set_option maxHeartbeats 8000000 in
set_option maxRecDepth 100000 in
theorem oakumref02_Get.calls (k : Nat) (A0 : Option Addr) (c0 : Nat) (l0 : List Int) (r : ByteArray) (w : World) (hr0 : Kd.C (Kd.int .u8) w A0 l0.length l0) (hc0 : l0.length ≤ c0) (h : oakumref02_Get.f k l0 = some r) :
    Calls Try.prog 19 #[.slice A0 l0.length c0] w fun e w' => e = .returned (.string r) ∧ Below w.heap.size w w' := by
  have HR0 := Aside0.mk hr0
  have HC0 := Aside0.mk hc0
  clear hr0 hc0
  have HB := Aside0.mk (Below.refl w.heap.size w)
  have H : (oakumref02_Get.l0 k l0 (([] : List Int)) 0) = some r := h
  clear h
  obtain ⟨y115, hy115⟩ : ∃ y_ : List Int, y_ = (([] : List Int)) := ⟨_, rfl⟩
  replace H : (oakumref02_Get.l0 k l0 y115 0) = some r := by first | (rw [hy115]; with_reducible exact H) | (have H2_ := (Option.bind_some _ _).symm.trans H; rw [hy115]; with_reducible exact H2_) | (have H2_ := (Option.bind_some _ _).symm.trans H; with_reducible exact H2_) | with_reducible exact H | (rw [hy115]; exact H) | exact H
  have Ny115 := Aside0.mk hy115
  clear hy115
  have H' := Aside0.mk H
  clear H
  go_enter Try.func19, Try.ntmps19
  go_wp2_with (first | ((with_reducible refine gate_dst (N := 5) rfl ?_); refine Kd.R_lit (Kd.int .u8) _ 5 ?hg (N := 5) ?hd (xs := ([] : List Int)) (inner := []) (ok := fun _ => True) (okp := fun _ => True) ?hr ?hp (fun _ hk => hk) trivial (Below.refl _ _) (Nat.le_refl _) (by simp) ?_; (case hd => rfl); (case hg => rfl); (case hr => first | (go_simp; done) | (go_simp; rfl)); (case hp => exact (Reps.none _ _)); intro v116 w2 ho3 hb hg_ hnew_; clear hg_ hnew_; (first | rw [← Ny115.out] at ho3 | (simp only [Int.reduceToNat] at ho3; rw [← Ny115.out] at ho3)); have n0_ := Aside0.mk (Kd.R_lower ho3 (below_size (by repeat (first | (with_reducible first | exact HB.out | apply below_alloc | apply pw_below_drewN | apply below_drew1) | exact HB.out)))); have n1_ := Aside0.mk (below_step (by repeat (first | (with_reducible first | exact HB.out | apply below_alloc | apply pw_below_drewN | apply below_drew1) | exact HB.out)) hb); clear HB; have HO117 := n0_; have HB := n1_; clear n0_ n1_; clear hb ho3))
  go_loopg [3, 4] k (fun kq v3 v4 w' => ∃ (x3_1 : List Int) (x4_1 : Int), v4 = .int .i64 x4_1 ∧ Aside0 (oakumref02_Get.l0 kq l0 x3_1 x4_1 = some r) ∧ Aside0 (kq ≤ k) ∧ Aside0 (Kd.R (Kd.int .u8) 5 w' w.heap.size (fun _ => True) v3 x3_1) ∧ Aside0 (Below w.heap.size w w'))
  case atStart => exact ⟨(y115), (0), (by first | rfl | (simp; done) | (simp [*]; done)), H', ⟨Nat.le_refl _⟩, ⟨by (with_reducible repeat (first | apply Kd.R_alloc | apply Kd.R_drewN | apply Kd.R_drew)); exact HO117.out⟩, ⟨by repeat (first | (with_reducible first | exact HB.out | apply below_alloc | apply pw_below_drewN | apply below_drew1) | exact HB.out)⟩⟩
  case round =>
    clear H'
    try clear c1
    try clear p2
    obtain ⟨x3_1, x4_1, rfl, HA, HK1, HO_3, HB⟩ := hrel
    cases gk with
    | zero => exact absurd HA.out (by simp [oakumref02_Get.l0])
    | succ k1 =>
      have H := HA.out
      clear HA
      simp only [oakumref02_Get.l0] at H
      by_cases c4 : x4_1 < (l0.length : Int)
      · rw [if_pos c4] at H
        have c4b0 : decide (x4_1 < (l0.length : Int)) = true := decide_eq_true c4
        clear c4
        by_cases c5 : 0 ≤ x4_1
        · rw [if_pos c5] at H
          have c5b0 : decide (0 ≤ x4_1) = true := decide_eq_true c5
          clear c5
          by_cases c6 : (rd l0 x4_1) = 0
          · rw [if_pos c6] at H
            have c6b0 : ((rd l0 x4_1) == 0) = true := beq_iff_eq.mpr c6
            have c6b1 : ((rd l0 x4_1) != 0) = false := bne_eq_false_iff_eq.mpr c6
            clear c6
            obtain rfl := Option.some.inj H
            have p118 : 0 ≤ (x4_1 : Int) := of_decide_eq_true (by first | (with_reducible assumption) | assumption)
            have q118 : x4_1 < (l0.length : Int) := of_decide_eq_true (by first | (with_reducible assumption) | assumption)
            obtain ⟨ad118, e118, hx118_0⟩ := Kd.at_int HR0.out x4_1 p118 q118
            cases e118
            replace hx118_0 := (HB.out.cell (World.block_lt_of_cell? w _ hx118_0)).trans hx118_0
            replace p118 := eq_true p118
            replace q118 := eq_true q118
            have hcv7 := own_string (P := Try.prog) Try.underlying32 Try.underlying5 Try.underlying9 (Kd.own_of_R HO_3.out)
            go_wp2
            go_ret
            exact ⟨by first | rfl | (simp [errW_none, errW_some] <;> rfl) | (simp [*, errW_none, errW_some] <;> rfl), by repeat (first | (with_reducible first | exact HB.out | apply below_alloc | apply pw_below_drewN | apply below_drew1) | exact HB.out)⟩
          · rw [if_neg c6] at H
            have c6b0 : ((rd l0 x4_1) == 0) = false := beq_eq_false_iff_ne.mpr c6
            have c6b1 : ((rd l0 x4_1) != 0) = true := bne_iff_ne.mpr c6
            by_cases c8 : x3_1.length < 140737488355328
            · rw [if_pos c8] at H
              have LMc8 := Aside0.mk c8
              clear c8
              obtain ⟨y120, hy120⟩ : ∃ y_ : List Int, y_ = (x3_1 ++ [rd l0 x4_1]) := ⟨_, rfl⟩
              replace H : (oakumref02_Get.l0 k1 l0 y120 (wrap64 (x4_1 + 1))) = some r := by first | (rw [hy120]; with_reducible exact H) | (have H2_ := (Option.bind_some _ _).symm.trans H; rw [hy120]; with_reducible exact H2_) | (have H2_ := (Option.bind_some _ _).symm.trans H; with_reducible exact H2_) | with_reducible exact H | (rw [hy120]; exact H) | exact H
              have Ny120 := Aside0.mk hy120
              clear hy120
              have H' := Aside0.mk H
              clear H
              have p118 : 0 ≤ (x4_1 : Int) := of_decide_eq_true (by first | (with_reducible assumption) | assumption)
              have q118 : x4_1 < (l0.length : Int) := of_decide_eq_true (by first | (with_reducible assumption) | assumption)
              obtain ⟨ad118, e118, hx118_0⟩ := Kd.at_int HR0.out x4_1 p118 q118
              cases e118
              replace hx118_0 := (HB.out.cell (World.block_lt_of_cell? w _ hx118_0)).trans hx118_0
              replace p118 := eq_true p118
              replace q118 := eq_true q118
              have p119 : 0 ≤ (x4_1 : Int) := of_decide_eq_true (by first | (with_reducible assumption) | assumption)
              have q119 : x4_1 < (l0.length : Int) := of_decide_eq_true (by first | (with_reducible assumption) | assumption)
              obtain ⟨ad119, e119, hx119_0⟩ := Kd.at_int HR0.out x4_1 p119 q119
              obtain rfl : ad118 = ad119 := (by injection e119)
              replace hx119_0 := (HB.out.cell (World.block_lt_of_cell? w _ hx119_0)).trans hx119_0
              replace p119 := eq_true p119
              replace q119 := eq_true q119
              go_wp2_with (first | ((with_reducible refine gate_builtin (b := .append) (xs := #[.tmp 19, .tmp 24]) rfl ?_); at_builtin; refine Kd.R_append (Kd.int .u8) (w0 := w) w.heap.size rfl (.tmp 19) (.tmp 24) 32 5 (.int .u8 0) 1 rfl Try.underlying32 info5 rfl (by decide) (by omega) u3 x3_1 (rd l0 x4_1) [.int .u8 (rd l0 x4_1)] (fun _ => True) (fun _ => False) rfl rfl ?aP (fun _ hk => hk.elim) ?aF ?aO ?aB ?aS ?aL ?_; (case aP => exact rfl); (case aB => exact (by repeat (first | (with_reducible first | exact HB.out | apply below_alloc | apply pw_below_drewN | apply below_drew1) | exact HB.out))); (case aF => exact (fun _ _ => trivial)); (case aO => exact (by (with_reducible repeat (first | apply Kd.R_alloc | apply Kd.R_drewN | apply Kd.R_drew)); exact HO_3.out)); (case aS => exact (below_size (by repeat (first | (with_reducible first | exact HB.out | apply below_alloc | apply pw_below_drewN | apply below_drew1) | exact HB.out)))); (case aL => have := LMc8.out; omega); intro v121 w9 ho hb hg hat; rw [← Ny120.out] at ho; have n0_ := Aside0.mk (hb); have n1_ := Aside0.mk (ho); clear HB; clear HO_3; have HB := n0_; have HO122 := n1_; clear n0_ n1_; clear ho hb hg hat))
              go_roundg k1
              case measure => have := HK1.out; omega
              case rel => exact ⟨(y120), (wrap64 (x4_1 + 1)), (by first | rfl | (simp; done) | (simp [*]; done)), H', ⟨by have := HK1.out; omega⟩, ⟨by (with_reducible repeat (first | apply Kd.R_alloc | apply Kd.R_drewN | apply Kd.R_drew)); exact HO122.out⟩, ⟨by repeat (first | (with_reducible first | exact HB.out | apply below_alloc | apply pw_below_drewN | apply below_drew1) | exact HB.out)⟩⟩
            · rw [if_neg c8] at H
              exact absurd H (by simp)
        · rw [if_neg c5] at H
          exact absurd H (by simp)
      · rw [if_neg c4] at H
        have c4b0 : decide (x4_1 < (l0.length : Int)) = false := decide_eq_false c4
        clear c4
        obtain rfl := Option.some.inj H
        have hcv10 := own_string (P := Try.prog) Try.underlying32 Try.underlying5 Try.underlying9 (Kd.own_of_R HO_3.out)
        go_wp2
        go_ret
        exact ⟨by first | rfl | (simp [errW_none, errW_some] <;> rfl) | (simp [*, errW_none, errW_some] <;> rfl), by repeat (first | (with_reducible first | exact HB.out | apply below_alloc | apply pw_below_drewN | apply below_drew1) | exact HB.out)⟩

end Go.Proofs.Ythojbddpfpgnhaa.PTextFields
