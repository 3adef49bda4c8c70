-- PRINTED BY print.sh 35421559b90ae4d0a3588c463048766b98c2df88dd9212a6774a882060cdf62d: not written by this session
import Derived.Test.YtkmlhfmffnbccaaPSplitWholex0
import Derived.Test.YtkmlhfmffnbccaaPSplitWholex1
namespace Go.Proofs.Ytkmlhfmffnbccaa.PSplitWhole
open Go.RowKit Go.Proofs.YtkmlhfmffnbccaaW.PrintWords Go.Proofs.YtkmlhfmffnbccaaW.PrintLast Go.Proofs.YtkmlhfmffnbccaaW.PrintMore
attribute [local go_sem] max2_int min2_int max_two min_two max_three min_three max_four min_four   -- for this text's walks alone
set_option linter.unusedVariables false
set_option linter.unusedSimpArgs false

/-! ### oakumlaw10_SplitWhole: function 3 -/
def oakumlaw10_SplitWhole.l0 : Nat → ByteArray → ByteArray → ByteArray → Int → Option (Bool)
  | 0, _, _, _, _ => none
  | k + 1, x0, x3, x4, x7 => if (wrap64 (x7 + 1)) < (x0.size : Int) then (if 0 ≤ x7 then (if x7 < (x0.size : Int) then (if (bt x0 x7) = 47 then (if x7 ≤ 155 then (if (wrap64 ((wrap64 ((x0.size : Int) - 1)) - x7)) ≤ 100 then (some false) else (oakumlaw10_SplitWhole.l0 k x0 x3 x4 (wrap64 (x7 + 1)))) else (oakumlaw10_SplitWhole.l0 k x0 x3 x4 (wrap64 (x7 + 1)))) else (oakumlaw10_SplitWhole.l0 k x0 x3 x4 (wrap64 (x7 + 1)))) else (none)) else (none)) else (if x3.toList = ([] : List UInt8) then (if x4.toList = ([] : List UInt8) then (if x0.toList = ([] : List UInt8) then (some true) else (some (decide ((x0.size : Int) > 100)))) else (some false)) else (some false))
def oakumlaw10_SplitWhole.f (k : Nat) (a0 : ByteArray) : Option (Bool) := (oakumlaw10_alive.f k).bind fun t111 => (if t111 = true then (if (a0.size : Int) > 5000 then (some true) else ((split_Split.f k a0).bind fun bt112 => (if bt112.2.2 = true then (if bt112.1.toList = ([] : List UInt8) then (if bt112.2.1.toList = a0.toList then (if (bt112.1.size : Int) ≤ 155 then (if bt112.2.1.toList = ([] : List UInt8) then (some false) else (if (bt112.2.1.size : Int) ≤ 100 then ((split_Most.f).bind fun t115 => (some (decide ((a0.size : Int) ≤ t115)))) else (some false))) else (some false)) else (some false)) else (if bt112.1.size + 1 ≤ 9223372036854775807 then (if (bt112.1 ++ (⟨#[47]⟩ : ByteArray)).size + bt112.2.1.size ≤ 9223372036854775807 then (if ((bt112.1 ++ (⟨#[47]⟩ : ByteArray)) ++ bt112.2.1).toList = a0.toList then (if (bt112.1.size : Int) ≤ 155 then (if bt112.2.1.toList = ([] : List UInt8) then (some false) else (if (bt112.2.1.size : Int) ≤ 100 then ((split_Most.f).bind fun t116 => (some (decide ((a0.size : Int) ≤ t116)))) else (some false))) else (some false)) else (some false)) else (none)) else (none))) else (oakumlaw10_SplitWhole.l0 k a0 bt112.1 bt112.2.1 1)))) else (some false))
theorem oakumlaw10_SplitWhole.mono_l : ∀ k, (∀ y0 y1 y2 y3, LeO (oakumlaw10_SplitWhole.l0 k y0 y1 y2 y3) (oakumlaw10_SplitWhole.l0 (k + 1) y0 y1 y2 y3))
  | 0 => fun _ _ _ _ r h => by simp [oakumlaw10_SplitWhole.l0] at h
  | k + 1 => by
    have ih0 := oakumlaw10_SplitWhole.mono_l k
    · intro y0 y1 y2 y3
      unfold oakumlaw10_SplitWhole.l0
      repeat' first
      | (with_reducible exact ih0 _ _ _ _)
      | (with_reducible exact oakumlaw10_alive.mono _)
      | (with_reducible exact split_Split.mono _ _)
      | (with_reducible exact LeO.refl _)
      | (with_reducible exact LeO.none _)
      | (with_reducible refine LeO.ite ?_ ?_)
      | (with_reducible refine LeO.bind ?_ (fun _ => ?_))
      | exact ih0 _ _ _ _
      | exact oakumlaw10_alive.mono _
      | exact split_Split.mono _ _
      | exact LeO.none _
      | refine LeO.ite ?_ ?_
      | refine LeO.bind ?_ (fun _ => ?_)
theorem oakumlaw10_SplitWhole.mono : ∀ a0 k, LeO (oakumlaw10_SplitWhole.f k a0) (oakumlaw10_SplitWhole.f (k + 1) a0) := by
  intro a0 k
  have ih0 := oakumlaw10_SplitWhole.mono_l k
  unfold oakumlaw10_SplitWhole.f
  repeat' first
      | (with_reducible exact ih0 _ _ _ _)
      | (with_reducible exact oakumlaw10_alive.mono _)
      | (with_reducible exact split_Split.mono _ _)
      | (with_reducible exact LeO.refl _)
      | (with_reducible exact LeO.none _)
      | (with_reducible refine LeO.ite ?_ ?_)
      | (with_reducible refine LeO.bind ?_ (fun _ => ?_))
      | exact ih0 _ _ _ _
      | exact oakumlaw10_alive.mono _
      | exact split_Split.mono _ _
      | exact LeO.none _
      | refine LeO.ite ?_ ?_
      | refine LeO.bind ?_ (fun _ => ?_)
set_option maxHeartbeats 8000000 in
set_option maxRecDepth 100000 in
theorem oakumlaw10_SplitWhole.calls (k : Nat) (a0 : ByteArray) (r : Bool) (w : World) (h : oakumlaw10_SplitWhole.f k a0 = some r) :
    Calls Try.prog 3 #[.string a0] w fun e w' => e = .returned (.bool r) ∧ Below w.heap.size w w' := by
  have HB := Aside0.mk (Below.refl w.heap.size w)
  have H : ((oakumlaw10_alive.f k).bind fun t111 => (if t111 = true then (if (a0.size : Int) > 5000 then (some true) else ((split_Split.f k a0).bind fun bt112 => (if bt112.2.2 = true then (if bt112.1.toList = ([] : List UInt8) then (if bt112.2.1.toList = a0.toList then (if (bt112.1.size : Int) ≤ 155 then (if bt112.2.1.toList = ([] : List UInt8) then (some false) else (if (bt112.2.1.size : Int) ≤ 100 then ((split_Most.f).bind fun t115 => (some (decide ((a0.size : Int) ≤ t115)))) else (some false))) else (some false)) else (some false)) else (if bt112.1.size + 1 ≤ 9223372036854775807 then (if (bt112.1 ++ (⟨#[47]⟩ : ByteArray)).size + bt112.2.1.size ≤ 9223372036854775807 then (if ((bt112.1 ++ (⟨#[47]⟩ : ByteArray)) ++ bt112.2.1).toList = a0.toList then (if (bt112.1.size : Int) ≤ 155 then (if bt112.2.1.toList = ([] : List UInt8) then (some false) else (if (bt112.2.1.size : Int) ≤ 100 then ((split_Most.f).bind fun t116 => (some (decide ((a0.size : Int) ≤ t116)))) else (some false))) else (some false)) else (some false)) else (none)) else (none))) else (oakumlaw10_SplitWhole.l0 k a0 bt112.1 bt112.2.1 1)))) else (some false))) = some r := h
  clear h
  replace H := Option.bind_eq_some_iff.mp H
  obtain ⟨t111, A20, H⟩ := H
  replace H : (if t111 = true then (if (a0.size : Int) > 5000 then (some true) else ((split_Split.f k a0).bind fun bt112 => (if bt112.2.2 = true then (if bt112.1.toList = ([] : List UInt8) then (if bt112.2.1.toList = a0.toList then (if (bt112.1.size : Int) ≤ 155 then (if bt112.2.1.toList = ([] : List UInt8) then (some false) else (if (bt112.2.1.size : Int) ≤ 100 then ((split_Most.f).bind fun t115 => (some (decide ((a0.size : Int) ≤ t115)))) else (some false))) else (some false)) else (some false)) else (if bt112.1.size + 1 ≤ 9223372036854775807 then (if (bt112.1 ++ (⟨#[47]⟩ : ByteArray)).size + bt112.2.1.size ≤ 9223372036854775807 then (if ((bt112.1 ++ (⟨#[47]⟩ : ByteArray)) ++ bt112.2.1).toList = a0.toList then (if (bt112.1.size : Int) ≤ 155 then (if bt112.2.1.toList = ([] : List UInt8) then (some false) else (if (bt112.2.1.size : Int) ≤ 100 then ((split_Most.f).bind fun t116 => (some (decide ((a0.size : Int) ≤ t116)))) else (some false))) else (some false)) else (some false)) else (none)) else (none))) else (oakumlaw10_SplitWhole.l0 k a0 bt112.1 bt112.2.1 1)))) else (some false)) = some r := H
  have A2 := Aside0.mk A20
  clear A20
  by_cases c3 : t111 = true
  · subst c3
    have H1 : (if (a0.size : Int) > 5000 then (some true) else ((split_Split.f k a0).bind fun bt112 => (if bt112.2.2 = true then (if bt112.1.toList = ([] : List UInt8) then (if bt112.2.1.toList = a0.toList then (if (bt112.1.size : Int) ≤ 155 then (if bt112.2.1.toList = ([] : List UInt8) then (some false) else (if (bt112.2.1.size : Int) ≤ 100 then ((split_Most.f).bind fun t115 => (some (decide ((a0.size : Int) ≤ t115)))) else (some false))) else (some false)) else (some false)) else (if bt112.1.size + 1 ≤ 9223372036854775807 then (if (bt112.1 ++ (⟨#[47]⟩ : ByteArray)).size + bt112.2.1.size ≤ 9223372036854775807 then (if ((bt112.1 ++ (⟨#[47]⟩ : ByteArray)) ++ bt112.2.1).toList = a0.toList then (if (bt112.1.size : Int) ≤ 155 then (if bt112.2.1.toList = ([] : List UInt8) then (some false) else (if (bt112.2.1.size : Int) ≤ 100 then ((split_Most.f).bind fun t116 => (some (decide ((a0.size : Int) ≤ t116)))) else (some false))) else (some false)) else (some false)) else (none)) else (none))) else (oakumlaw10_SplitWhole.l0 k a0 bt112.1 bt112.2.1 1)))) = some r := by rw [if_pos rfl] at H; exact H
    clear H
    have H := H1
    clear H1
    by_cases c4 : (a0.size : Int) > 5000
    · rw [if_pos c4] at H
      have c4b0 : decide (5000 < (a0.size : Int)) = true := decide_eq_true c4
      have c4b1 : decide (5000 < a0.size) = true := decide_eq_true (by omega)
      clear c4
      obtain rfl := Option.some.inj H
      go_enter Try.func3, Try.ntmps3
      go_wp2_with (first | ((with_reducible refine gate_callee (f := 6) rfl ?_); refine goesL_ (some 8) rfl rfl Try.func6 (by kernel_rfl) rfl #[] rfl (by (try simp only [List.map_toArray, List.map_cons, List.map_nil]); first | done | rfl | (simp only [List.length_drop, List.length_take]; rfl)) ?_; (with_reducible refine (oakumlaw10_alive.calls k  true _ A2.out).mono ?_); rintro e w5 ⟨rfl, hb⟩; refine ⟨_, rfl, ?_⟩; have n0_ := Aside0.mk (below_step (by repeat (first | (with_reducible first | exact HB.out | apply below_alloc | apply pw_below_drewN | apply below_drew1) | exact HB.out)) hb); clear HB; have HB := n0_; clear n0_; (try clear hb); (try clear hb2); (try clear hk); (try clear hi)))
      go_ret
      exact ⟨by first | rfl | (simp [errW_none, errW_some] <;> rfl) | (simp [*, errW_none, errW_some] <;> rfl), by repeat (first | (with_reducible first | exact HB.out | apply below_alloc | apply pw_below_drewN | apply below_drew1) | exact HB.out)⟩
    · rw [if_neg c4] at H
      have c4b0 : decide (5000 < (a0.size : Int)) = false := decide_eq_false c4
      have c4b1 : decide (5000 < a0.size) = false := decide_eq_false (by omega)
      clear c4
      replace H := Option.bind_eq_some_iff.mp H
      obtain ⟨⟨t112, t113, t114⟩, A60, H⟩ := H
      replace H : (if t114 = true then (if t112.toList = ([] : List UInt8) then (if t113.toList = a0.toList then (if (t112.size : Int) ≤ 155 then (if t113.toList = ([] : List UInt8) then (some false) else (if (t113.size : Int) ≤ 100 then ((split_Most.f).bind fun t115 => (some (decide ((a0.size : Int) ≤ t115)))) else (some false))) else (some false)) else (some false)) else (if t112.size + 1 ≤ 9223372036854775807 then (if (t112 ++ (⟨#[47]⟩ : ByteArray)).size + t113.size ≤ 9223372036854775807 then (if ((t112 ++ (⟨#[47]⟩ : ByteArray)) ++ t113).toList = a0.toList then (if (t112.size : Int) ≤ 155 then (if t113.toList = ([] : List UInt8) then (some false) else (if (t113.size : Int) ≤ 100 then ((split_Most.f).bind fun t116 => (some (decide ((a0.size : Int) ≤ t116)))) else (some false))) else (some false)) else (some false)) else (none)) else (none))) else (oakumlaw10_SplitWhole.l0 k a0 t112 t113 1)) = some r := H
      have A6 := Aside0.mk A60
      clear A60
      by_cases c7 : t114 = true
      · subst c7
        have H1 : (if t112.toList = ([] : List UInt8) then (if t113.toList = a0.toList then (if (t112.size : Int) ≤ 155 then (if t113.toList = ([] : List UInt8) then (some false) else (if (t113.size : Int) ≤ 100 then ((split_Most.f).bind fun t115 => (some (decide ((a0.size : Int) ≤ t115)))) else (some false))) else (some false)) else (some false)) else (if t112.size + 1 ≤ 9223372036854775807 then (if (t112 ++ (⟨#[47]⟩ : ByteArray)).size + t113.size ≤ 9223372036854775807 then (if ((t112 ++ (⟨#[47]⟩ : ByteArray)) ++ t113).toList = a0.toList then (if (t112.size : Int) ≤ 155 then (if t113.toList = ([] : List UInt8) then (some false) else (if (t113.size : Int) ≤ 100 then ((split_Most.f).bind fun t116 => (some (decide ((a0.size : Int) ≤ t116)))) else (some false))) else (some false)) else (some false)) else (none)) else (none))) = some r := by rw [if_pos rfl] at H; exact H
        clear H
        have H := H1
        clear H1
        by_cases c8 : t112.toList = ([] : List UInt8)
        · rw [if_pos c8] at H
          have c8b0 : (t112.toList == ([] : List UInt8)) = true := beq_iff_eq.mpr c8
          have c8b1 : (t112.toList != ([] : List UInt8)) = false := bne_eq_false_iff_eq.mpr c8
          clear c8
          by_cases c9 : t113.toList = a0.toList
          · rw [if_pos c9] at H
            have c9b0 : (t113.toList == a0.toList) = true := beq_iff_eq.mpr c9
            have c9b1 : (t113.toList != a0.toList) = false := bne_eq_false_iff_eq.mpr c9
            clear c9
            by_cases c10 : (t112.size : Int) ≤ 155
            · rw [if_pos c10] at H
              have c10b0 : decide ((t112.size : Int) ≤ 155) = true := decide_eq_true c10
              have c10b1 : decide (t112.size ≤ 155) = true := decide_eq_true (by omega)
              clear c10
              by_cases c11 : t113.toList = ([] : List UInt8)
              · rw [if_pos c11] at H
                have c11b0 : (t113.toList == ([] : List UInt8)) = true := beq_iff_eq.mpr c11
                have c11b1 : (t113.toList != ([] : List UInt8)) = false := bne_eq_false_iff_eq.mpr c11
                clear c11
                obtain rfl := Option.some.inj H
                go_enter Try.func3, Try.ntmps3
                go_wp2_with (first | ((with_reducible refine gate_callee (f := 6) rfl ?_); refine goesL_ (some 8) rfl rfl Try.func6 (by kernel_rfl) rfl #[] rfl (by (try simp only [List.map_toArray, List.map_cons, List.map_nil]); first | done | rfl | (simp only [List.length_drop, List.length_take]; rfl)) ?_; (with_reducible refine (oakumlaw10_alive.calls k  true _ A2.out).mono ?_); rintro e w12 ⟨rfl, hb⟩; refine ⟨_, rfl, ?_⟩; have n0_ := Aside0.mk (below_step (by repeat (first | (with_reducible first | exact HB.out | apply below_alloc | apply pw_below_drewN | apply below_drew1) | exact HB.out)) hb); clear HB; have HB := n0_; clear n0_; (try clear hb); (try clear hb2); (try clear hk); (try clear hi)) | ((with_reducible refine gate_callee (f := 7) rfl ?_); refine goesL_ (some 15) rfl rfl Try.func7 (by kernel_rfl) rfl #[.string a0] rfl (by (try simp only [List.map_toArray, List.map_cons, List.map_nil]); first | done | rfl | (simp only [List.length_drop, List.length_take]; rfl)) ?_; (with_reducible refine (split_Split.calls k a0 t112 t113 true _ A6.out).mono ?_); rintro e w13 ⟨rfl, hb⟩; refine ⟨_, rfl, ?_⟩; have n0_ := Aside0.mk (below_step (by repeat (first | (with_reducible first | exact HB.out | apply below_alloc | apply pw_below_drewN | apply below_drew1) | exact HB.out)) hb); clear HB; have HB := n0_; clear n0_; (try clear hb); (try clear hb2); (try clear hk); (try clear hi)))
                go_ret
                exact ⟨by first | rfl | (simp [errW_none, errW_some] <;> rfl) | (simp [*, errW_none, errW_some] <;> rfl), by repeat (first | (with_reducible first | exact HB.out | apply below_alloc | apply pw_below_drewN | apply below_drew1) | exact HB.out)⟩
              · rw [if_neg c11] at H
                have c11b0 : (t113.toList == ([] : List UInt8)) = false := beq_eq_false_iff_ne.mpr c11
                have c11b1 : (t113.toList != ([] : List UInt8)) = true := bne_iff_ne.mpr c11
                by_cases c14 : (t113.size : Int) ≤ 100
                · rw [if_pos c14] at H
                  have c14b0 : decide ((t113.size : Int) ≤ 100) = true := decide_eq_true c14
                  have c14b1 : decide (t113.size ≤ 100) = true := decide_eq_true (by omega)
                  clear c14
                  replace H := Option.bind_eq_some_iff.mp H
                  obtain ⟨t115, A150, H⟩ := H
                  replace H : (some (decide ((a0.size : Int) ≤ t115))) = some r := H
                  have A15 := Aside0.mk A150
                  clear A150
                  obtain rfl := Option.some.inj H
                  go_enter Try.func3, Try.ntmps3
                  go_wp2_with (first | ((with_reducible refine gate_callee (f := 6) rfl ?_); refine goesL_ (some 8) rfl rfl Try.func6 (by kernel_rfl) rfl #[] rfl (by (try simp only [List.map_toArray, List.map_cons, List.map_nil]); first | done | rfl | (simp only [List.length_drop, List.length_take]; rfl)) ?_; (with_reducible refine (oakumlaw10_alive.calls k  true _ A2.out).mono ?_); rintro e w16 ⟨rfl, hb⟩; refine ⟨_, rfl, ?_⟩; have n0_ := Aside0.mk (below_step (by repeat (first | (with_reducible first | exact HB.out | apply below_alloc | apply pw_below_drewN | apply below_drew1) | exact HB.out)) hb); clear HB; have HB := n0_; clear n0_; (try clear hb); (try clear hb2); (try clear hk); (try clear hi)) | ((with_reducible refine gate_callee (f := 7) rfl ?_); refine goesL_ (some 15) rfl rfl Try.func7 (by kernel_rfl) rfl #[.string a0] rfl (by (try simp only [List.map_toArray, List.map_cons, List.map_nil]); first | done | rfl | (simp only [List.length_drop, List.length_take]; rfl)) ?_; (with_reducible refine (split_Split.calls k a0 t112 t113 true _ A6.out).mono ?_); rintro e w17 ⟨rfl, hb⟩; refine ⟨_, rfl, ?_⟩; have n0_ := Aside0.mk (below_step (by repeat (first | (with_reducible first | exact HB.out | apply below_alloc | apply pw_below_drewN | apply below_drew1) | exact HB.out)) hb); clear HB; have HB := n0_; clear n0_; (try clear hb); (try clear hb2); (try clear hk); (try clear hi)) | (go_at_call 8; (with_reducible refine (split_Most.calls  t115 _ A15.out).mono ?_); rintro e w' ⟨rfl, ⟨nd, rfl⟩⟩))
                  go_ret
                  exact ⟨by first | rfl | (simp [errW_none, errW_some] <;> rfl) | (simp [*, errW_none, errW_some] <;> rfl), by repeat (first | (with_reducible first | exact HB.out | apply below_alloc | apply pw_below_drewN | apply below_drew1) | exact HB.out)⟩
                · rw [if_neg c14] at H
                  have c14b0 : decide ((t113.size : Int) ≤ 100) = false := decide_eq_false c14
                  have c14b1 : decide (t113.size ≤ 100) = false := decide_eq_false (by omega)
                  clear c14
                  obtain rfl := Option.some.inj H
                  go_enter Try.func3, Try.ntmps3
                  go_wp2_with (first | ((with_reducible refine gate_callee (f := 6) rfl ?_); refine goesL_ (some 8) rfl rfl Try.func6 (by kernel_rfl) rfl #[] rfl (by (try simp only [List.map_toArray, List.map_cons, List.map_nil]); first | done | rfl | (simp only [List.length_drop, List.length_take]; rfl)) ?_; (with_reducible refine (oakumlaw10_alive.calls k  true _ A2.out).mono ?_); rintro e w18 ⟨rfl, hb⟩; refine ⟨_, rfl, ?_⟩; have n0_ := Aside0.mk (below_step (by repeat (first | (with_reducible first | exact HB.out | apply below_alloc | apply pw_below_drewN | apply below_drew1) | exact HB.out)) hb); clear HB; have HB := n0_; clear n0_; (try clear hb); (try clear hb2); (try clear hk); (try clear hi)) | ((with_reducible refine gate_callee (f := 7) rfl ?_); refine goesL_ (some 15) rfl rfl Try.func7 (by kernel_rfl) rfl #[.string a0] rfl (by (try simp only [List.map_toArray, List.map_cons, List.map_nil]); first | done | rfl | (simp only [List.length_drop, List.length_take]; rfl)) ?_; (with_reducible refine (split_Split.calls k a0 t112 t113 true _ A6.out).mono ?_); rintro e w19 ⟨rfl, hb⟩; refine ⟨_, rfl, ?_⟩; have n0_ := Aside0.mk (below_step (by repeat (first | (with_reducible first | exact HB.out | apply below_alloc | apply pw_below_drewN | apply below_drew1) | exact HB.out)) hb); clear HB; have HB := n0_; clear n0_; (try clear hb); (try clear hb2); (try clear hk); (try clear hi)))
                  go_ret
                  exact ⟨by first | rfl | (simp [errW_none, errW_some] <;> rfl) | (simp [*, errW_none, errW_some] <;> rfl), by repeat (first | (with_reducible first | exact HB.out | apply below_alloc | apply pw_below_drewN | apply below_drew1) | exact HB.out)⟩
            · rw [if_neg c10] at H
              have c10b0 : decide ((t112.size : Int) ≤ 155) = false := decide_eq_false c10
              have c10b1 : decide (t112.size ≤ 155) = false := decide_eq_false (by omega)
              clear c10
              obtain rfl := Option.some.inj H
              go_enter Try.func3, Try.ntmps3
              go_wp2_with (first | ((with_reducible refine gate_callee (f := 6) rfl ?_); refine goesL_ (some 8) rfl rfl Try.func6 (by kernel_rfl) rfl #[] rfl (by (try simp only [List.map_toArray, List.map_cons, List.map_nil]); first | done | rfl | (simp only [List.length_drop, List.length_take]; rfl)) ?_; (with_reducible refine (oakumlaw10_alive.calls k  true _ A2.out).mono ?_); rintro e w20 ⟨rfl, hb⟩; refine ⟨_, rfl, ?_⟩; have n0_ := Aside0.mk (below_step (by repeat (first | (with_reducible first | exact HB.out | apply below_alloc | apply pw_below_drewN | apply below_drew1) | exact HB.out)) hb); clear HB; have HB := n0_; clear n0_; (try clear hb); (try clear hb2); (try clear hk); (try clear hi)) | ((with_reducible refine gate_callee (f := 7) rfl ?_); refine goesL_ (some 15) rfl rfl Try.func7 (by kernel_rfl) rfl #[.string a0] rfl (by (try simp only [List.map_toArray, List.map_cons, List.map_nil]); first | done | rfl | (simp only [List.length_drop, List.length_take]; rfl)) ?_; (with_reducible refine (split_Split.calls k a0 t112 t113 true _ A6.out).mono ?_); rintro e w21 ⟨rfl, hb⟩; refine ⟨_, rfl, ?_⟩; have n0_ := Aside0.mk (below_step (by repeat (first | (with_reducible first | exact HB.out | apply below_alloc | apply pw_below_drewN | apply below_drew1) | exact HB.out)) hb); clear HB; have HB := n0_; clear n0_; (try clear hb); (try clear hb2); (try clear hk); (try clear hi)))
              go_ret
              exact ⟨by first | rfl | (simp [errW_none, errW_some] <;> rfl) | (simp [*, errW_none, errW_some] <;> rfl), by repeat (first | (with_reducible first | exact HB.out | apply below_alloc | apply pw_below_drewN | apply below_drew1) | exact HB.out)⟩
          · rw [if_neg c9] at H
            have c9b0 : (t113.toList == a0.toList) = false := beq_eq_false_iff_ne.mpr c9
            have c9b1 : (t113.toList != a0.toList) = true := bne_iff_ne.mpr c9
            obtain rfl := Option.some.inj H
            go_enter Try.func3, Try.ntmps3
            go_wp2_with (first | ((with_reducible refine gate_callee (f := 6) rfl ?_); refine goesL_ (some 8) rfl rfl Try.func6 (by kernel_rfl) rfl #[] rfl (by (try simp only [List.map_toArray, List.map_cons, List.map_nil]); first | done | rfl | (simp only [List.length_drop, List.length_take]; rfl)) ?_; (with_reducible refine (oakumlaw10_alive.calls k  true _ A2.out).mono ?_); rintro e w22 ⟨rfl, hb⟩; refine ⟨_, rfl, ?_⟩; have n0_ := Aside0.mk (below_step (by repeat (first | (with_reducible first | exact HB.out | apply below_alloc | apply pw_below_drewN | apply below_drew1) | exact HB.out)) hb); clear HB; have HB := n0_; clear n0_; (try clear hb); (try clear hb2); (try clear hk); (try clear hi)) | ((with_reducible refine gate_callee (f := 7) rfl ?_); refine goesL_ (some 15) rfl rfl Try.func7 (by kernel_rfl) rfl #[.string a0] rfl (by (try simp only [List.map_toArray, List.map_cons, List.map_nil]); first | done | rfl | (simp only [List.length_drop, List.length_take]; rfl)) ?_; (with_reducible refine (split_Split.calls k a0 t112 t113 true _ A6.out).mono ?_); rintro e w23 ⟨rfl, hb⟩; refine ⟨_, rfl, ?_⟩; have n0_ := Aside0.mk (below_step (by repeat (first | (with_reducible first | exact HB.out | apply below_alloc | apply pw_below_drewN | apply below_drew1) | exact HB.out)) hb); clear HB; have HB := n0_; clear n0_; (try clear hb); (try clear hb2); (try clear hk); (try clear hi)))
            go_ret
            exact ⟨by first | rfl | (simp [errW_none, errW_some] <;> rfl) | (simp [*, errW_none, errW_some] <;> rfl), by repeat (first | (with_reducible first | exact HB.out | apply below_alloc | apply pw_below_drewN | apply below_drew1) | exact HB.out)⟩
        · rw [if_neg c8] at H
          have c8b0 : (t112.toList == ([] : List UInt8)) = false := beq_eq_false_iff_ne.mpr c8
          have c8b1 : (t112.toList != ([] : List UInt8)) = true := bne_iff_ne.mpr c8
          by_cases c24 : t112.size + 1 ≤ 9223372036854775807
          · rw [if_pos c24] at H
            have c24b0 := eq_true c24
            have c24b1 : decide (t112.size + 1 ≤ 9223372036854775807) = true := decide_eq_true c24
            try have c24b2 : (9223372036854775807 < t112.size + 1) = False := eq_false (Nat.not_lt.2 c24)
            by_cases c25 : (t112 ++ (⟨#[47]⟩ : ByteArray)).size + t113.size ≤ 9223372036854775807
            · rw [if_pos c25] at H
              have c25b0 := eq_true c25
              have c25b1 : decide ((t112 ++ (⟨#[47]⟩ : ByteArray)).size + t113.size ≤ 9223372036854775807) = true := decide_eq_true c25
              try have c25b2 : (9223372036854775807 < (t112 ++ (⟨#[47]⟩ : ByteArray)).size + t113.size) = False := eq_false (Nat.not_lt.2 c25)
              by_cases c26 : ((t112 ++ (⟨#[47]⟩ : ByteArray)) ++ t113).toList = a0.toList
              · rw [if_pos c26] at H
                have c26b0 : (((t112 ++ (⟨#[47]⟩ : ByteArray)) ++ t113).toList == a0.toList) = true := beq_iff_eq.mpr c26
                have c26b1 : (((t112 ++ (⟨#[47]⟩ : ByteArray)) ++ t113).toList != a0.toList) = false := bne_eq_false_iff_eq.mpr c26
                clear c26
                by_cases c27 : (t112.size : Int) ≤ 155
                · rw [if_pos c27] at H
                  have c27b0 : decide ((t112.size : Int) ≤ 155) = true := decide_eq_true c27
                  have c27b1 : decide (t112.size ≤ 155) = true := decide_eq_true (by omega)
                  clear c27
                  by_cases c28 : t113.toList = ([] : List UInt8)
                  · rw [if_pos c28] at H
                    have c28b0 : (t113.toList == ([] : List UInt8)) = true := beq_iff_eq.mpr c28
                    have c28b1 : (t113.toList != ([] : List UInt8)) = false := bne_eq_false_iff_eq.mpr c28
                    clear c28
                    obtain rfl := Option.some.inj H
                    go_enter Try.func3, Try.ntmps3
                    go_wp2_with (first | ((with_reducible refine gate_callee (f := 6) rfl ?_); refine goesL_ (some 8) rfl rfl Try.func6 (by kernel_rfl) rfl #[] rfl (by (try simp only [List.map_toArray, List.map_cons, List.map_nil]); first | done | rfl | (simp only [List.length_drop, List.length_take]; rfl)) ?_; (with_reducible refine (oakumlaw10_alive.calls k  true _ A2.out).mono ?_); rintro e w29 ⟨rfl, hb⟩; refine ⟨_, rfl, ?_⟩; have n0_ := Aside0.mk (below_step (by repeat (first | (with_reducible first | exact HB.out | apply below_alloc | apply pw_below_drewN | apply below_drew1) | exact HB.out)) hb); clear HB; have HB := n0_; clear n0_; (try clear hb); (try clear hb2); (try clear hk); (try clear hi)) | ((with_reducible refine gate_callee (f := 7) rfl ?_); refine goesL_ (some 15) rfl rfl Try.func7 (by kernel_rfl) rfl #[.string a0] rfl (by (try simp only [List.map_toArray, List.map_cons, List.map_nil]); first | done | rfl | (simp only [List.length_drop, List.length_take]; rfl)) ?_; (with_reducible refine (split_Split.calls k a0 t112 t113 true _ A6.out).mono ?_); rintro e w30 ⟨rfl, hb⟩; refine ⟨_, rfl, ?_⟩; have n0_ := Aside0.mk (below_step (by repeat (first | (with_reducible first | exact HB.out | apply below_alloc | apply pw_below_drewN | apply below_drew1) | exact HB.out)) hb); clear HB; have HB := n0_; clear n0_; (try clear hb); (try clear hb2); (try clear hk); (try clear hi)))
                    go_ret
                    exact ⟨by first | rfl | (simp [errW_none, errW_some] <;> rfl) | (simp [*, errW_none, errW_some] <;> rfl), by repeat (first | (with_reducible first | exact HB.out | apply below_alloc | apply pw_below_drewN | apply below_drew1) | exact HB.out)⟩
                  · rw [if_neg c28] at H
                    have c28b0 : (t113.toList == ([] : List UInt8)) = false := beq_eq_false_iff_ne.mpr c28
                    have c28b1 : (t113.toList != ([] : List UInt8)) = true := bne_iff_ne.mpr c28
                    by_cases c31 : (t113.size : Int) ≤ 100
                    · rw [if_pos c31] at H
                      have c31b0 : decide ((t113.size : Int) ≤ 100) = true := decide_eq_true c31
                      have c31b1 : decide (t113.size ≤ 100) = true := decide_eq_true (by omega)
                      clear c31
                      replace H := Option.bind_eq_some_iff.mp H
                      obtain ⟨t116, A320, H⟩ := H
                      replace H : (some (decide ((a0.size : Int) ≤ t116))) = some r := H
                      have A32 := Aside0.mk A320
                      clear A320
                      obtain rfl := Option.some.inj H
                      go_enter Try.func3, Try.ntmps3
                      go_wp2_with (first | ((with_reducible refine gate_callee (f := 6) rfl ?_); refine goesL_ (some 8) rfl rfl Try.func6 (by kernel_rfl) rfl #[] rfl (by (try simp only [List.map_toArray, List.map_cons, List.map_nil]); first | done | rfl | (simp only [List.length_drop, List.length_take]; rfl)) ?_; (with_reducible refine (oakumlaw10_alive.calls k  true _ A2.out).mono ?_); rintro e w33 ⟨rfl, hb⟩; refine ⟨_, rfl, ?_⟩; have n0_ := Aside0.mk (below_step (by repeat (first | (with_reducible first | exact HB.out | apply below_alloc | apply pw_below_drewN | apply below_drew1) | exact HB.out)) hb); clear HB; have HB := n0_; clear n0_; (try clear hb); (try clear hb2); (try clear hk); (try clear hi)) | ((with_reducible refine gate_callee (f := 7) rfl ?_); refine goesL_ (some 15) rfl rfl Try.func7 (by kernel_rfl) rfl #[.string a0] rfl (by (try simp only [List.map_toArray, List.map_cons, List.map_nil]); first | done | rfl | (simp only [List.length_drop, List.length_take]; rfl)) ?_; (with_reducible refine (split_Split.calls k a0 t112 t113 true _ A6.out).mono ?_); rintro e w34 ⟨rfl, hb⟩; refine ⟨_, rfl, ?_⟩; have n0_ := Aside0.mk (below_step (by repeat (first | (with_reducible first | exact HB.out | apply below_alloc | apply pw_below_drewN | apply below_drew1) | exact HB.out)) hb); clear HB; have HB := n0_; clear n0_; (try clear hb); (try clear hb2); (try clear hk); (try clear hi)) | (go_at_call 8; (with_reducible refine (split_Most.calls  t116 _ A32.out).mono ?_); rintro e w' ⟨rfl, ⟨nd, rfl⟩⟩))
                      go_ret
                      exact ⟨by first | rfl | (simp [errW_none, errW_some] <;> rfl) | (simp [*, errW_none, errW_some] <;> rfl), by repeat (first | (with_reducible first | exact HB.out | apply below_alloc | apply pw_below_drewN | apply below_drew1) | exact HB.out)⟩
                    · rw [if_neg c31] at H
                      have c31b0 : decide ((t113.size : Int) ≤ 100) = false := decide_eq_false c31
                      have c31b1 : decide (t113.size ≤ 100) = false := decide_eq_false (by omega)
                      clear c31
                      obtain rfl := Option.some.inj H
                      go_enter Try.func3, Try.ntmps3
                      go_wp2_with (first | ((with_reducible refine gate_callee (f := 6) rfl ?_); refine goesL_ (some 8) rfl rfl Try.func6 (by kernel_rfl) rfl #[] rfl (by (try simp only [List.map_toArray, List.map_cons, List.map_nil]); first | done | rfl | (simp only [List.length_drop, List.length_take]; rfl)) ?_; (with_reducible refine (oakumlaw10_alive.calls k  true _ A2.out).mono ?_); rintro e w35 ⟨rfl, hb⟩; refine ⟨_, rfl, ?_⟩; have n0_ := Aside0.mk (below_step (by repeat (first | (with_reducible first | exact HB.out | apply below_alloc | apply pw_below_drewN | apply below_drew1) | exact HB.out)) hb); clear HB; have HB := n0_; clear n0_; (try clear hb); (try clear hb2); (try clear hk); (try clear hi)) | ((with_reducible refine gate_callee (f := 7) rfl ?_); refine goesL_ (some 15) rfl rfl Try.func7 (by kernel_rfl) rfl #[.string a0] rfl (by (try simp only [List.map_toArray, List.map_cons, List.map_nil]); first | done | rfl | (simp only [List.length_drop, List.length_take]; rfl)) ?_; (with_reducible refine (split_Split.calls k a0 t112 t113 true _ A6.out).mono ?_); rintro e w36 ⟨rfl, hb⟩; refine ⟨_, rfl, ?_⟩; have n0_ := Aside0.mk (below_step (by repeat (first | (with_reducible first | exact HB.out | apply below_alloc | apply pw_below_drewN | apply below_drew1) | exact HB.out)) hb); clear HB; have HB := n0_; clear n0_; (try clear hb); (try clear hb2); (try clear hk); (try clear hi)))
                      go_ret
                      exact ⟨by first | rfl | (simp [errW_none, errW_some] <;> rfl) | (simp [*, errW_none, errW_some] <;> rfl), by repeat (first | (with_reducible first | exact HB.out | apply below_alloc | apply pw_below_drewN | apply below_drew1) | exact HB.out)⟩
                · rw [if_neg c27] at H
                  have c27b0 : decide ((t112.size : Int) ≤ 155) = false := decide_eq_false c27
                  have c27b1 : decide (t112.size ≤ 155) = false := decide_eq_false (by omega)
                  clear c27
                  obtain rfl := Option.some.inj H
                  go_enter Try.func3, Try.ntmps3
                  go_wp2_with (first | ((with_reducible refine gate_callee (f := 6) rfl ?_); refine goesL_ (some 8) rfl rfl Try.func6 (by kernel_rfl) rfl #[] rfl (by (try simp only [List.map_toArray, List.map_cons, List.map_nil]); first | done | rfl | (simp only [List.length_drop, List.length_take]; rfl)) ?_; (with_reducible refine (oakumlaw10_alive.calls k  true _ A2.out).mono ?_); rintro e w37 ⟨rfl, hb⟩; refine ⟨_, rfl, ?_⟩; have n0_ := Aside0.mk (below_step (by repeat (first | (with_reducible first | exact HB.out | apply below_alloc | apply pw_below_drewN | apply below_drew1) | exact HB.out)) hb); clear HB; have HB := n0_; clear n0_; (try clear hb); (try clear hb2); (try clear hk); (try clear hi)) | ((with_reducible refine gate_callee (f := 7) rfl ?_); refine goesL_ (some 15) rfl rfl Try.func7 (by kernel_rfl) rfl #[.string a0] rfl (by (try simp only [List.map_toArray, List.map_cons, List.map_nil]); first | done | rfl | (simp only [List.length_drop, List.length_take]; rfl)) ?_; (with_reducible refine (split_Split.calls k a0 t112 t113 true _ A6.out).mono ?_); rintro e w38 ⟨rfl, hb⟩; refine ⟨_, rfl, ?_⟩; have n0_ := Aside0.mk (below_step (by repeat (first | (with_reducible first | exact HB.out | apply below_alloc | apply pw_below_drewN | apply below_drew1) | exact HB.out)) hb); clear HB; have HB := n0_; clear n0_; (try clear hb); (try clear hb2); (try clear hk); (try clear hi)))
                  go_ret
                  exact ⟨by first | rfl | (simp [errW_none, errW_some] <;> rfl) | (simp [*, errW_none, errW_some] <;> rfl), by repeat (first | (with_reducible first | exact HB.out | apply below_alloc | apply pw_below_drewN | apply below_drew1) | exact HB.out)⟩
              · rw [if_neg c26] at H
                have c26b0 : (((t112 ++ (⟨#[47]⟩ : ByteArray)) ++ t113).toList == a0.toList) = false := beq_eq_false_iff_ne.mpr c26
                have c26b1 : (((t112 ++ (⟨#[47]⟩ : ByteArray)) ++ t113).toList != a0.toList) = true := bne_iff_ne.mpr c26
                obtain rfl := Option.some.inj H
                go_enter Try.func3, Try.ntmps3
                go_wp2_with (first | ((with_reducible refine gate_callee (f := 6) rfl ?_); refine goesL_ (some 8) rfl rfl Try.func6 (by kernel_rfl) rfl #[] rfl (by (try simp only [List.map_toArray, List.map_cons, List.map_nil]); first | done | rfl | (simp only [List.length_drop, List.length_take]; rfl)) ?_; (with_reducible refine (oakumlaw10_alive.calls k  true _ A2.out).mono ?_); rintro e w39 ⟨rfl, hb⟩; refine ⟨_, rfl, ?_⟩; have n0_ := Aside0.mk (below_step (by repeat (first | (with_reducible first | exact HB.out | apply below_alloc | apply pw_below_drewN | apply below_drew1) | exact HB.out)) hb); clear HB; have HB := n0_; clear n0_; (try clear hb); (try clear hb2); (try clear hk); (try clear hi)) | ((with_reducible refine gate_callee (f := 7) rfl ?_); refine goesL_ (some 15) rfl rfl Try.func7 (by kernel_rfl) rfl #[.string a0] rfl (by (try simp only [List.map_toArray, List.map_cons, List.map_nil]); first | done | rfl | (simp only [List.length_drop, List.length_take]; rfl)) ?_; (with_reducible refine (split_Split.calls k a0 t112 t113 true _ A6.out).mono ?_); rintro e w40 ⟨rfl, hb⟩; refine ⟨_, rfl, ?_⟩; have n0_ := Aside0.mk (below_step (by repeat (first | (with_reducible first | exact HB.out | apply below_alloc | apply pw_below_drewN | apply below_drew1) | exact HB.out)) hb); clear HB; have HB := n0_; clear n0_; (try clear hb); (try clear hb2); (try clear hk); (try clear hi)))
                go_ret
                exact ⟨by first | rfl | (simp [errW_none, errW_some] <;> rfl) | (simp [*, errW_none, errW_some] <;> rfl), by repeat (first | (with_reducible first | exact HB.out | apply below_alloc | apply pw_below_drewN | apply below_drew1) | exact HB.out)⟩
            · rw [if_neg c25] at H
              exact absurd H (by simp)
          · rw [if_neg c24] at H
            exact absurd H (by simp)
      · replace c7 := Bool.eq_false_iff.mpr c7
        subst c7
        have H1 : (oakumlaw10_SplitWhole.l0 k a0 t112 t113 1) = some r := by rw [if_neg (show ¬ (false = true) by decide)] at H; exact H
        clear H
        have H := H1
        clear H1
        have H' := Aside0.mk H
        clear H
        go_enter Try.func3, Try.ntmps3
        go_wp2_with (first | ((with_reducible refine gate_callee (f := 6) rfl ?_); refine goesL_ (some 8) rfl rfl Try.func6 (by kernel_rfl) rfl #[] rfl (by (try simp only [List.map_toArray, List.map_cons, List.map_nil]); first | done | rfl | (simp only [List.length_drop, List.length_take]; rfl)) ?_; (with_reducible refine (oakumlaw10_alive.calls k  true _ A2.out).mono ?_); rintro e w41 ⟨rfl, hb⟩; refine ⟨_, rfl, ?_⟩; have n0_ := Aside0.mk (below_step (by repeat (first | (with_reducible first | exact HB.out | apply below_alloc | apply pw_below_drewN | apply below_drew1) | exact HB.out)) hb); clear HB; have HB := n0_; clear n0_; (try clear hb); (try clear hb2); (try clear hk); (try clear hi)) | ((with_reducible refine gate_callee (f := 7) rfl ?_); refine goesL_ (some 15) rfl rfl Try.func7 (by kernel_rfl) rfl #[.string a0] rfl (by (try simp only [List.map_toArray, List.map_cons, List.map_nil]); first | done | rfl | (simp only [List.length_drop, List.length_take]; rfl)) ?_; (with_reducible refine (split_Split.calls k a0 t112 t113 false _ A6.out).mono ?_); rintro e w42 ⟨rfl, hb⟩; refine ⟨_, rfl, ?_⟩; have n0_ := Aside0.mk (below_step (by repeat (first | (with_reducible first | exact HB.out | apply below_alloc | apply pw_below_drewN | apply below_drew1) | exact HB.out)) hb); clear HB; have HB := n0_; clear n0_; (try clear hb); (try clear hb2); (try clear hk); (try clear hi)))
        go_loopg [7] k (fun kq v7 w' => ∃ (x7_1 : Int), v7 = .int .i64 x7_1 ∧ Aside0 (oakumlaw10_SplitWhole.l0 kq a0 t112 t113 x7_1 = some r) ∧ Aside0 (kq ≤ k) ∧ Aside0 (Below w.heap.size w w'))
        case atStart => exact ⟨(1), (by first | rfl | (simp; done) | (simp [*]; done)), H', ⟨Nat.le_refl _⟩, ⟨by repeat (first | (with_reducible first | exact HB.out | apply below_alloc | apply pw_below_drewN | apply below_drew1) | exact HB.out)⟩⟩
        case round =>
          clear H'
          try clear c1
          try clear c2
          try clear p2
          try clear c3
          try clear c4
          try clear c4b0
          try clear c4b1
          try clear c6
          try clear c7
          try clear c8
          try clear c8b0
          try clear c8b1
          try clear c9
          try clear c9b0
          try clear c9b1
          try clear c10
          try clear c10b0
          try clear c10b1
          try clear c11
          try clear c11b0
          try clear c11b1
          try clear c14
          try clear c14b0
          try clear c14b1
          try clear c24
          try clear c24b0
          try clear c24b1
          try clear c24b2
          try clear c25
          try clear c25b0
          try clear c25b1
          try clear c25b2
          try clear c26
          try clear c26b0
          try clear c26b1
          try clear c27
          try clear c27b0
          try clear c27b1
          try clear c28
          try clear c28b0
          try clear c28b1
          try clear c31
          try clear c31b0
          try clear c31b1
          obtain ⟨x7_1, rfl, HA, HK1, HB⟩ := hrel
          cases gk with
          | zero => exact absurd HA.out (by simp [oakumlaw10_SplitWhole.l0])
          | succ k1 =>
            have H := HA.out
            clear HA
            simp only [oakumlaw10_SplitWhole.l0] at H
            by_cases c43 : (wrap64 (x7_1 + 1)) < (a0.size : Int)
            · rw [if_pos c43] at H
              have c43b0 : decide ((wrap64 (x7_1 + 1)) < (a0.size : Int)) = true := decide_eq_true c43
              clear c43
              by_cases c44 : 0 ≤ x7_1
              · rw [if_pos c44] at H
                have c44b0 : decide (0 ≤ x7_1) = true := decide_eq_true c44
                clear c44
                by_cases c45 : x7_1 < (a0.size : Int)
                · rw [if_pos c45] at H
                  have c45b0 : decide (x7_1 < (a0.size : Int)) = true := decide_eq_true c45
                  clear c45
                  by_cases c47 : (bt a0 x7_1) = 47
                  · rw [if_pos c47] at H
                    have c47b0 : ((bt a0 x7_1) == 47) = true := beq_iff_eq.mpr c47
                    have c47b1 : ((bt a0 x7_1) != 47) = false := bne_eq_false_iff_eq.mpr c47
                    clear c47
                    by_cases c48 : x7_1 ≤ 155
                    · rw [if_pos c48] at H
                      have c48b0 : decide (x7_1 ≤ 155) = true := decide_eq_true c48
                      clear c48
                      by_cases c49 : (wrap64 ((wrap64 ((a0.size : Int) - 1)) - x7_1)) ≤ 100
                      · rw [if_pos c49] at H
                        have c49b0 : decide ((wrap64 ((wrap64 ((a0.size : Int) - 1)) - x7_1)) ≤ 100) = true := decide_eq_true c49
                        clear c49
                        obtain rfl := Option.some.inj H
                        have p46 : 0 ≤ (x7_1 : Int) := of_decide_eq_true (by first | (with_reducible assumption) | assumption)
                        have q46 : x7_1 < (a0.size : Int) := of_decide_eq_true (by first | (with_reducible assumption) | assumption)
                        have hx46 := bt_at a0 x7_1
                        replace p46 := eq_true p46
                        replace q46 := eq_true q46
                        go_wp2
                        go_ret
                        exact ⟨by first | rfl | (simp [errW_none, errW_some] <;> rfl) | (simp [*, errW_none, errW_some] <;> rfl), by repeat (first | (with_reducible first | exact HB.out | apply below_alloc | apply pw_below_drewN | apply below_drew1) | exact HB.out)⟩
                      · rw [if_neg c49] at H
                        have c49b0 : decide ((wrap64 ((wrap64 ((a0.size : Int) - 1)) - x7_1)) ≤ 100) = false := decide_eq_false c49
                        clear c49
                        have H' := Aside0.mk H
                        clear H
                        have p46 : 0 ≤ (x7_1 : Int) := of_decide_eq_true (by first | (with_reducible assumption) | assumption)
                        have q46 : x7_1 < (a0.size : Int) := of_decide_eq_true (by first | (with_reducible assumption) | assumption)
                        have hx46 := bt_at a0 x7_1
                        replace p46 := eq_true p46
                        replace q46 := eq_true q46
                        go_wp2
                        go_roundg k1
                        case measure => have := HK1.out; omega
                        case rel => exact ⟨(wrap64 (x7_1 + 1)), (by first | rfl | (simp; done) | (simp [*]; done)), H', ⟨by have := HK1.out; omega⟩, ⟨by repeat (first | (with_reducible first | exact HB.out | apply below_alloc | apply pw_below_drewN | apply below_drew1) | exact HB.out)⟩⟩
                    · rw [if_neg c48] at H
                      have c48b0 : decide (x7_1 ≤ 155) = false := decide_eq_false c48
                      clear c48
                      have H' := Aside0.mk H
                      clear H
                      have p46 : 0 ≤ (x7_1 : Int) := of_decide_eq_true (by first | (with_reducible assumption) | assumption)
                      have q46 : x7_1 < (a0.size : Int) := of_decide_eq_true (by first | (with_reducible assumption) | assumption)
                      have hx46 := bt_at a0 x7_1
                      replace p46 := eq_true p46
                      replace q46 := eq_true q46
                      go_wp2
                      go_roundg k1
                      case measure => have := HK1.out; omega
                      case rel => exact ⟨(wrap64 (x7_1 + 1)), (by first | rfl | (simp; done) | (simp [*]; done)), H', ⟨by have := HK1.out; omega⟩, ⟨by repeat (first | (with_reducible first | exact HB.out | apply below_alloc | apply pw_below_drewN | apply below_drew1) | exact HB.out)⟩⟩
                  · rw [if_neg c47] at H
                    have c47b0 : ((bt a0 x7_1) == 47) = false := beq_eq_false_iff_ne.mpr c47
                    have c47b1 : ((bt a0 x7_1) != 47) = true := bne_iff_ne.mpr c47
                    have H' := Aside0.mk H
                    clear H
                    have p46 : 0 ≤ (x7_1 : Int) := of_decide_eq_true (by first | (with_reducible assumption) | assumption)
                    have q46 : x7_1 < (a0.size : Int) := of_decide_eq_true (by first | (with_reducible assumption) | assumption)
                    have hx46 := bt_at a0 x7_1
                    replace p46 := eq_true p46
                    replace q46 := eq_true q46
                    go_wp2
                    go_roundg k1
                    case measure => have := HK1.out; omega
                    case rel => exact ⟨(wrap64 (x7_1 + 1)), (by first | rfl | (simp; done) | (simp [*]; done)), H', ⟨by have := HK1.out; omega⟩, ⟨by repeat (first | (with_reducible first | exact HB.out | apply below_alloc | apply pw_below_drewN | apply below_drew1) | exact HB.out)⟩⟩
                · rw [if_neg c45] at H
                  exact absurd H (by simp)
              · rw [if_neg c44] at H
                exact absurd H (by simp)
            · rw [if_neg c43] at H
              have c43b0 : decide ((wrap64 (x7_1 + 1)) < (a0.size : Int)) = false := decide_eq_false c43
              clear c43
              by_cases c50 : t112.toList = ([] : List UInt8)
              · rw [if_pos c50] at H
                have c50b0 : (t112.toList == ([] : List UInt8)) = true := beq_iff_eq.mpr c50
                have c50b1 : (t112.toList != ([] : List UInt8)) = false := bne_eq_false_iff_eq.mpr c50
                clear c50
                by_cases c51 : t113.toList = ([] : List UInt8)
                · rw [if_pos c51] at H
                  have c51b0 : (t113.toList == ([] : List UInt8)) = true := beq_iff_eq.mpr c51
                  have c51b1 : (t113.toList != ([] : List UInt8)) = false := bne_eq_false_iff_eq.mpr c51
                  clear c51
                  by_cases c52 : a0.toList = ([] : List UInt8)
                  · rw [if_pos c52] at H
                    have c52b0 : (a0.toList == ([] : List UInt8)) = true := beq_iff_eq.mpr c52
                    have c52b1 : (a0.toList != ([] : List UInt8)) = false := bne_eq_false_iff_eq.mpr c52
                    clear c52
                    obtain rfl := Option.some.inj H
                    go_wp2
                    go_ret
                    exact ⟨by first | rfl | (simp [errW_none, errW_some] <;> rfl) | (simp [*, errW_none, errW_some] <;> rfl), by repeat (first | (with_reducible first | exact HB.out | apply below_alloc | apply pw_below_drewN | apply below_drew1) | exact HB.out)⟩
                  · rw [if_neg c52] at H
                    have c52b0 : (a0.toList == ([] : List UInt8)) = false := beq_eq_false_iff_ne.mpr c52
                    have c52b1 : (a0.toList != ([] : List UInt8)) = true := bne_iff_ne.mpr c52
                    obtain rfl := Option.some.inj H
                    go_wp2
                    go_ret
                    exact ⟨by first | rfl | (simp [errW_none, errW_some] <;> rfl) | (simp [*, errW_none, errW_some] <;> rfl), by repeat (first | (with_reducible first | exact HB.out | apply below_alloc | apply pw_below_drewN | apply below_drew1) | exact HB.out)⟩
                · rw [if_neg c51] at H
                  have c51b0 : (t113.toList == ([] : List UInt8)) = false := beq_eq_false_iff_ne.mpr c51
                  have c51b1 : (t113.toList != ([] : List UInt8)) = true := bne_iff_ne.mpr c51
                  obtain rfl := Option.some.inj H
                  go_wp2
                  go_ret
                  exact ⟨by first | rfl | (simp [errW_none, errW_some] <;> rfl) | (simp [*, errW_none, errW_some] <;> rfl), by repeat (first | (with_reducible first | exact HB.out | apply below_alloc | apply pw_below_drewN | apply below_drew1) | exact HB.out)⟩
              · rw [if_neg c50] at H
                have c50b0 : (t112.toList == ([] : List UInt8)) = false := beq_eq_false_iff_ne.mpr c50
                have c50b1 : (t112.toList != ([] : List UInt8)) = true := bne_iff_ne.mpr c50
                obtain rfl := Option.some.inj H
                go_wp2
                go_ret
                exact ⟨by first | rfl | (simp [errW_none, errW_some] <;> rfl) | (simp [*, errW_none, errW_some] <;> rfl), by repeat (first | (with_reducible first | exact HB.out | apply below_alloc | apply pw_below_drewN | apply below_drew1) | exact HB.out)⟩
  · replace c3 := Bool.eq_false_iff.mpr c3
    subst c3
    have H1 : (some false) = some r := by rw [if_neg (show ¬ (false = true) by decide)] at H; exact H
    clear H
    have H := H1
    clear H1
    obtain rfl := Option.some.inj H
    go_enter Try.func3, Try.ntmps3
    go_wp2_with (first | ((with_reducible refine gate_callee (f := 6) rfl ?_); refine goesL_ (some 8) rfl rfl Try.func6 (by kernel_rfl) rfl #[] rfl (by (try simp only [List.map_toArray, List.map_cons, List.map_nil]); first | done | rfl | (simp only [List.length_drop, List.length_take]; rfl)) ?_; (with_reducible refine (oakumlaw10_alive.calls k  false _ A2.out).mono ?_); rintro e w53 ⟨rfl, hb⟩; refine ⟨_, rfl, ?_⟩; have n0_ := Aside0.mk (below_step (by repeat (first | (with_reducible first | exact HB.out | apply below_alloc | apply pw_below_drewN | apply below_drew1) | exact HB.out)) hb); clear HB; have HB := n0_; clear n0_; (try clear hb); (try clear hb2); (try clear hk); (try clear hi)))
    go_ret
    exact ⟨by first | rfl | (simp [errW_none, errW_some] <;> rfl) | (simp [*, errW_none, errW_some] <;> rfl), by repeat (first | (with_reducible first | exact HB.out | apply below_alloc | apply pw_below_drewN | apply below_drew1) | exact HB.out)⟩

/-- THE ONE PURE STATEMENT of oakumlaw10_SplitWhole: yours. -/
def oakumlaw10_SplitWhole.Pure : Prop := ∀ (a0 : ByteArray), a0.size ≤ 140737488351232 → ∃ k, oakumlaw10_SplitWhole.f k a0 = some true
theorem oakumlaw10_SplitWhole.walk (P : oakumlaw10_SplitWhole.Pure) (a0 : ByteArray) (w : World) (w0 : a0.size ≤ 140737488351232) :
    Calls Try.prog 3 #[.string a0] w fun e w' => e = .returned (.bool true) ∧ Below w.heap.size w w' := by
  obtain ⟨k, h⟩ := P a0 w0
  refine (oakumlaw10_SplitWhole.calls k a0 true w h).mono ?_
  rintro e w' ⟨rfl, hd⟩
  exact ⟨rfl, hd⟩

end Go.Proofs.Ytkmlhfmffnbccaa.PSplitWhole
