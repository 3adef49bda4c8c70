/- CivilSeconds: its walk. Written by wip/c22/mkt.py. -/
import Derived.Test.YtkjglhehlkjfgaaDoorAlive
import Derived.Test.YtkjglhehlkjfgaaDoorRefC
import Derived.Test.YtkjglhehlkjfgaaDoorRefE
import Derived.Test.YtkjglhehlkjfgaaDoorRefG
import Derived.Test.YtkjglhehlkjfgaaDoorAgg
set_option linter.unusedVariables false
set_option linter.unusedSimpArgs false
namespace Go.Proofs.YtkjglhehlkjfgaaDoor.Hand
open Go.RowKit Go.Proofs.YtkjglhehlkjfgaaDoor.Civ
/-- A call in a state in which a block of six cells is known leaves it so, and the laid variables. -/
theorem vone {f : FuncId} {args : Array Value} {v : Value} {w : World} (b : Nat) {a0 a1 a2 a3 a4 a5 : Value} (h : ∀ W : World, VW W → Calls Tryd.prog f args W (RetB v W)) (W : World) (hS : Hid (VW W ∧ Below w.heap.size w W) ∧ W.cell? ⟨b, 0, none⟩ = some a0 ∧ W.cell? ⟨b, 1, none⟩ = some a1 ∧ W.cell? ⟨b, 2, none⟩ = some a2 ∧ W.cell? ⟨b, 3, none⟩ = some a3 ∧ W.cell? ⟨b, 4, none⟩ = some a4 ∧ W.cell? ⟨b, 5, none⟩ = some a5) :
    Calls Tryd.prog f args W fun e W' => e = .returned v ∧ Hid (VW W' ∧ Below w.heap.size w W') ∧ W'.cell? ⟨b, 0, none⟩ = some a0 ∧ W'.cell? ⟨b, 1, none⟩ = some a1 ∧ W'.cell? ⟨b, 2, none⟩ = some a2 ∧ W'.cell? ⟨b, 3, none⟩ = some a3 ∧ W'.cell? ⟨b, 4, none⟩ = some a4 ∧ W'.cell? ⟨b, 5, none⟩ = some a5 := by
  obtain ⟨hv, p0, p1, p2, p3, p4, p5⟩ := hS
  refine (h W hv.out.1).mono ?_
  rintro e W' ⟨rfl, hb⟩
  exact ⟨rfl, Lib.hid ⟨hv.out.1.below hb, hv.out.2.trans (hb.mono hv.out.2.size)⟩, cell_keep hb p0, cell_keep hb p1, cell_keep hb p2, cell_keep hb p3, cell_keep hb p4, cell_keep hb p5⟩
theorem still {v : Value} {w w' : World} {e : Ending} (h : e = .returned v ∧ w = w') : RetB v w e w' := ⟨h.1, h.2 ▸ Below.refl _ _⟩
set_option maxRecDepth 100000 in
set_option maxHeartbeats 4000000 in
theorem civilSeconds_calls (w : World) (hV : VW w) (Y M D h m s : Int) (h0 : -9223372036854775808 ≤ Y) (h1 : Y ≤ 9223372036854775807) : Calls Tryd.prog 3 #[.agg #[.int .i64 Y, .int .i64 M, .int .i64 D, .int .i64 h, .int .i64 m, .int .i64 s]] w (RetB (.bool true) w) := by
  have hal := (Below.refl w.heap.size w).alloc (Nat.le_refl _) (.cells #[.int .i64 Y, .int .i64 M, .int .i64 D, .int .i64 h, .int .i64 m, .int .i64 s] 23)
  have HV := Lib.hid hV
  have HA := Lib.hid (alive_calls _ (hV.below hal))
  have HAL := Lib.hid hal
  clear hal hV
  have C9 := Lib.hid (vone (a0 := (.int .i64 Y)) (a1 := (.int .i64 M)) (a2 := (.int .i64 D)) (a3 := (.int .i64 h)) (a4 := (.int .i64 m)) (a5 := (.int .i64 s)) (w := w) w.heap.size fun W _ => (leap_calls Y W).mono fun _ _ h => still h)
  have C10 := Lib.hid (vone (a0 := (.int .i64 Y)) (a1 := (.int .i64 M)) (a2 := (.int .i64 D)) (a3 := (.int .i64 h)) (a4 := (.int .i64 m)) (a5 := (.int .i64 s)) (w := w) w.heap.size fun W _ => (rleap_calls Y W).mono fun _ _ h => still h)
  have C11 := Lib.hid (vone (a0 := (.int .i64 Y)) (a1 := (.int .i64 M)) (a2 := (.int .i64 D)) (a3 := (.int .i64 h)) (a4 := (.int .i64 m)) (a5 := (.int .i64 s)) (w := w) w.heap.size fun W _ => (days_calls Y M W).mono fun _ _ h => still h)
  have C12 := Lib.hid (vone (a0 := (.int .i64 Y)) (a1 := (.int .i64 M)) (a2 := (.int .i64 D)) (a3 := (.int .i64 h)) (a4 := (.int .i64 m)) (a5 := (.int .i64 s)) (w := w) w.heap.size fun W _ => rdays_calls Y M W)
  have C14 := Lib.hid (vone (a0 := (.int .i64 Y)) (a1 := (.int .i64 M)) (a2 := (.int .i64 D)) (a3 := (.int .i64 h)) (a4 := (.int .i64 m)) (a5 := (.int .i64 s)) (w := w) w.heap.size fun W _ => of22_calls Y M D h m s W)
  obtain ⟨L, hL⟩ : ∃ L, leap Y = L := ⟨_, rfl⟩
  obtain ⟨K, hK⟩ : ∃ K, dpm Y M = K := ⟨_, rfl⟩
  rw [hL] at C9 C10
  rw [hK] at C11 C12
  clear hL hK
  have wz0 : IntKind.i64.wrap 0 = 0 := by decide
  have wz12 : IntKind.i64.wrap 12 = 12 := by decide
  have dL : (L != L) = false := by simp
  have dK : (K != K) = false := by simp
  go_enter Tryd.func3, Tryd.ntmps3
  go_wp2_with fail
  (with_reducible refine HA.out.mono ?_)
  rintro e w1 ⟨rfl, hb1⟩
  have HB1 := Lib.hid (HAL.out.trans (hb1.mono HAL.out.size))
  obtain ⟨c0, c1, c2, c3, c4, c5⟩ := box_cells hb1
  clear hb1 HA HAL
  cases hr : rightB Y M D h m s
  · have HSV := Lib.hid (show secV Y M D h m s = .tuple #[.int .i64 0, .int .u8 15] by unfold secV; rw [if_pos hr])
    have HRR := Lib.hid hr
    clear hr
    have HS := Lib.hid (seconds_calls Y M D h m s w1 h0 h1)
    rw [show secV Y M D h m s = .tuple #[.int .i64 0, .int .u8 15] from HSV.out] at HS
    go_wp2_with fail
    (with_reducible refine HS.out.mono ?_)
    rintro e w2 ⟨rfl, hb2⟩
    have HB2 := Lib.hid (HB1.out.trans (hb2.mono HB1.out.size))
    replace c0 := cell_keep hb2 c0
    replace c1 := cell_keep hb2 c1
    replace c2 := cell_keep hb2 c2
    replace c3 := cell_keep hb2 c3
    replace c4 := cell_keep hb2 c4
    replace c5 := cell_keep hb2 c5
    clear hb2 HB1 HS HSV
    go_upto_region 4 with (fail)
    have hbd : Below w2.heap.size w2 w2.drew := ⟨rfl, rfl, rfl, Nat.le_refl _, fun _ _ => rfl⟩
    have hSd := And.intro (Lib.hid (And.intro (HV.out.below (HB2.out.trans (hbd.mono HB2.out.size))) (HB2.out.trans (hbd.mono HB2.out.size)))) (And.intro (cell_keep hbd c0) (And.intro (cell_keep hbd c1) (And.intro (cell_keep hbd c2) (And.intro (cell_keep hbd c3) (And.intro (cell_keep hbd c4) (cell_keep hbd c5))))))
    clear hbd c0 c1 c2 c3 c4 c5 HB2
    go_region_held3 (fun W : World => Hid (VW W ∧ Below w.heap.size w W) ∧ W.cell? ⟨w.heap.size, 0, none⟩ = some (.int .i64 Y) ∧ W.cell? ⟨w.heap.size, 1, none⟩ = some (.int .i64 M) ∧ W.cell? ⟨w.heap.size, 2, none⟩ = some (.int .i64 D) ∧ W.cell? ⟨w.heap.size, 3, none⟩ = some (.int .i64 h) ∧ W.cell? ⟨w.heap.size, 4, none⟩ = some (.int .i64 m) ∧ W.cell? ⟨w.heap.size, 5, none⟩ = some (.int .i64 s)) (first | exact hSd | assumption) (first | (go_at_call 9; (with_reducible refine (C9.out _ (by assumption)).mono ?_); rintro e w6 ⟨rfl, hS6⟩) | (go_at_call 10; (with_reducible refine (C10.out _ (by assumption)).mono ?_); rintro e w6 ⟨rfl, hS6⟩) | (go_at_call 11; (with_reducible refine (C11.out _ (by assumption)).mono ?_); rintro e w6 ⟨rfl, hS6⟩) | (go_at_call 12; (with_reducible refine (C12.out _ (by assumption)).mono ?_); rintro e w6 ⟨rfl, hS6⟩))
    obtain ⟨hv6, c0, c1, c2, c3, c4, c5⟩ := hS6
    have HB6 := Lib.hid hv6.out
    clear hv6 hSd C9 C10 C11 C12 dL dK
    have HV7 := Lib.hid (HV.out.below HB6.out.2)
    have HB7 := Lib.hid HB6.out.2
    clear HB6
    go_wp2_with fail
    (with_reducible refine (of22_calls Y M D h m s w6).mono ?_)
    rintro e w7 ⟨rfl, hb7⟩
    have HB8 := Lib.hid (HB7.out.trans (hb7.mono HB7.out.size))
    replace c0 := cell_keep hb7 c0
    replace c1 := cell_keep hb7 c1
    replace c2 := cell_keep hb7 c2
    replace c3 := cell_keep hb7 c3
    replace c4 := cell_keep hb7 c4
    replace c5 := cell_keep hb7 c5
    clear hb7 HB7 HV7
    have HR := Lib.hid (rright_calls Y M D h m s w7)
    rw [HRR.out] at HR
    go_wp2_with fail
    (with_reducible refine HR.out.mono ?_)
    rintro e w8 ⟨rfl, hb8⟩
    have HB9 := Lib.hid (HB8.out.trans (hb8.mono HB8.out.size))
    replace c0 := cell_keep hb8 c0
    replace c1 := cell_keep hb8 c1
    replace c2 := cell_keep hb8 c2
    replace c3 := cell_keep hb8 c3
    replace c4 := cell_keep hb8 c4
    replace c5 := cell_keep hb8 c5
    clear hb8 HB8 HR
    have HT := Lib.hid (text_calls Y M D h m s w8 (HV.out.below HB9.out) h0 h1)
    rw [show textV Y M D h m s = ⟨#[]⟩ by unfold textV; rw [HRR.out]; rfl] at HT
    go_wp2_with fail
    (with_reducible refine HT.out.mono ?_)
    rintro e w9 ⟨rfl, hb9⟩
    have HB10 := Lib.hid (HB9.out.trans (hb9.mono HB9.out.size))
    clear hb9 HB9 HT
    go_wp2_with fail
    go_ret
    exact ⟨rfl, HB10.out⟩

  · have HRR := Lib.hid hr
    have C15 := Lib.hid (vone (a0 := (.int .i64 Y)) (a1 := (.int .i64 M)) (a2 := (.int .i64 D)) (a3 := (.int .i64 h)) (a4 := (.int .i64 m)) (a5 := (.int .i64 s)) (w := w) w.heap.size fun W hv => text_calls Y M D h m s W hv h0 h1)
    have C17 := Lib.hid (vone (a0 := (.int .i64 Y)) (a1 := (.int .i64 M)) (a2 := (.int .i64 D)) (a3 := (.int .i64 h)) (a4 := (.int .i64 m)) (a5 := (.int .i64 s)) (w := w) w.heap.size fun W _ => text22_calls Y M D h m s W h0 h1 hr)
    obtain ⟨X, hX⟩ : ∃ X, textV Y M D h m s = X := ⟨_, rfl⟩
    rw [hX] at C15 C17
    clear hX
    have dX : (X.toList == X.toList) = true := beq_self_eq_true _
    by_cases hT : -9223372036854775808 ≤ totalS Y M D h m s ∧ totalS Y M D h m s ≤ 9223372036854775807
    · have HSV := Lib.hid (show secV Y M D h m s = .tuple #[.int .i64 (totalS Y M D h m s), .int .u8 0] by unfold secV; rw [if_neg (by simp [hr]), if_pos hT])
      have HRV := Lib.hid (show rsecV (totalS Y M D h m s) = .tuple #[.int .i64 (totalS Y M D h m s), .bool true] by unfold rsecV; rw [if_pos hT])
      clear hr hT
      obtain ⟨T, hT⟩ : ∃ T, totalS Y M D h m s = T := ⟨_, rfl⟩
      rw [hT] at HRV HSV
      have HTT := Lib.hid hT
      clear hT
      have HS := Lib.hid (seconds_calls Y M D h m s w1 h0 h1)
      rw [show secV Y M D h m s = .tuple #[.int .i64 T, .int .u8 0] from HSV.out] at HS
      go_wp2_with fail
      (with_reducible refine HS.out.mono ?_)
      rintro e w2 ⟨rfl, hb2⟩
      have HB2 := Lib.hid (HB1.out.trans (hb2.mono HB1.out.size))
      replace c0 := cell_keep hb2 c0
      replace c1 := cell_keep hb2 c1
      replace c2 := cell_keep hb2 c2
      replace c3 := cell_keep hb2 c3
      replace c4 := cell_keep hb2 c4
      replace c5 := cell_keep hb2 c5
      clear hb2 HB1 HS HSV
      go_upto_region 4 with (fail)
      have hbd : Below w2.heap.size w2 w2.drew := ⟨rfl, rfl, rfl, Nat.le_refl _, fun _ _ => rfl⟩
      have hSd := And.intro (Lib.hid (And.intro (HV.out.below (HB2.out.trans (hbd.mono HB2.out.size))) (HB2.out.trans (hbd.mono HB2.out.size)))) (And.intro (cell_keep hbd c0) (And.intro (cell_keep hbd c1) (And.intro (cell_keep hbd c2) (And.intro (cell_keep hbd c3) (And.intro (cell_keep hbd c4) (cell_keep hbd c5))))))
      clear hbd c0 c1 c2 c3 c4 c5 HB2
      go_region_held3 (fun W : World => Hid (VW W ∧ Below w.heap.size w W) ∧ W.cell? ⟨w.heap.size, 0, none⟩ = some (.int .i64 Y) ∧ W.cell? ⟨w.heap.size, 1, none⟩ = some (.int .i64 M) ∧ W.cell? ⟨w.heap.size, 2, none⟩ = some (.int .i64 D) ∧ W.cell? ⟨w.heap.size, 3, none⟩ = some (.int .i64 h) ∧ W.cell? ⟨w.heap.size, 4, none⟩ = some (.int .i64 m) ∧ W.cell? ⟨w.heap.size, 5, none⟩ = some (.int .i64 s)) (first | exact hSd | assumption) (first | (go_at_call 9; (with_reducible refine (C9.out _ (by assumption)).mono ?_); rintro e w6 ⟨rfl, hS6⟩) | (go_at_call 10; (with_reducible refine (C10.out _ (by assumption)).mono ?_); rintro e w6 ⟨rfl, hS6⟩) | (go_at_call 11; (with_reducible refine (C11.out _ (by assumption)).mono ?_); rintro e w6 ⟨rfl, hS6⟩) | (go_at_call 12; (with_reducible refine (C12.out _ (by assumption)).mono ?_); rintro e w6 ⟨rfl, hS6⟩))
      obtain ⟨hv6, c0, c1, c2, c3, c4, c5⟩ := hS6
      have HB6 := Lib.hid hv6.out
      clear hv6 hSd C9 C10 C11 C12 dL dK
      have HV7 := Lib.hid (HV.out.below HB6.out.2)
      have HB7 := Lib.hid HB6.out.2
      clear HB6
      go_wp2_with fail
      (with_reducible refine (of22_calls Y M D h m s w6).mono ?_)
      rintro e w7 ⟨rfl, hb7⟩
      have HB8 := Lib.hid (HB7.out.trans (hb7.mono HB7.out.size))
      replace c0 := cell_keep hb7 c0
      replace c1 := cell_keep hb7 c1
      replace c2 := cell_keep hb7 c2
      replace c3 := cell_keep hb7 c3
      replace c4 := cell_keep hb7 c4
      replace c5 := cell_keep hb7 c5
      clear hb7 HB7 HV7
      have HR := Lib.hid (rright_calls Y M D h m s w7)
      rw [HRR.out] at HR
      go_wp2_with fail
      (with_reducible refine HR.out.mono ?_)
      rintro e w8 ⟨rfl, hb8⟩
      have HB9 := Lib.hid (HB8.out.trans (hb8.mono HB8.out.size))
      replace c0 := cell_keep hb8 c0
      replace c1 := cell_keep hb8 c1
      replace c2 := cell_keep hb8 c2
      replace c3 := cell_keep hb8 c3
      replace c4 := cell_keep hb8 c4
      replace c5 := cell_keep hb8 c5
      clear hb8 HB8 HR
      have HZ := Lib.hid (of22_calls Y M D h m s w8)
      go_wp2_with fail
      (with_reducible refine HZ.out.mono ?_)
      rintro e w9 ⟨rfl, hb9⟩
      have HB10 := Lib.hid (HB9.out.trans (hb9.mono HB9.out.size))
      replace c0 := cell_keep hb9 c0
      replace c1 := cell_keep hb9 c1
      replace c2 := cell_keep hb9 c2
      replace c3 := cell_keep hb9 c3
      replace c4 := cell_keep hb9 c4
      replace c5 := cell_keep hb9 c5
      clear hb9 HB9 HZ
      have HX := Lib.hid (rsec_calls Y M D h m s w9 HRR.out)
      rw [HTT.out, HRV.out] at HX
      go_wp2_with fail
      (with_reducible refine HX.out.mono ?_)
      rintro e w10 ⟨rfl, hb10⟩
      have HB11 := Lib.hid (HB10.out.trans (hb10.mono HB10.out.size))
      replace c0 := cell_keep hb10 c0
      replace c1 := cell_keep hb10 c1
      replace c2 := cell_keep hb10 c2
      replace c3 := cell_keep hb10 c3
      replace c4 := cell_keep hb10 c4
      replace c5 := cell_keep hb10 c5
      clear hb10 HB10 HX
      go_upto_region 11 with (fail)
      have hbd : Below w10.heap.size w10 w10.drew := ⟨rfl, rfl, rfl, Nat.le_refl _, fun _ _ => rfl⟩
      have hSd := And.intro (Lib.hid (And.intro (HV.out.below (HB11.out.trans (hbd.mono HB11.out.size))) (HB11.out.trans (hbd.mono HB11.out.size)))) (And.intro (cell_keep hbd c0) (And.intro (cell_keep hbd c1) (And.intro (cell_keep hbd c2) (And.intro (cell_keep hbd c3) (And.intro (cell_keep hbd c4) (cell_keep hbd c5))))))
      clear hbd c0 c1 c2 c3 c4 c5 HB11
      refine wp_region_held_drew (S := fun W : World => Hid (VW W ∧ Below w.heap.size w W) ∧ W.cell? ⟨w.heap.size, 0, none⟩ = some (.int .i64 Y) ∧ W.cell? ⟨w.heap.size, 1, none⟩ = some (.int .i64 M) ∧ W.cell? ⟨w.heap.size, 2, none⟩ = some (.int .i64 D) ∧ W.cell? ⟨w.heap.size, 3, none⟩ = some (.int .i64 h) ∧ W.cell? ⟨w.heap.size, 4, none⟩ = some (.int .i64 m) ∧ W.cell? ⟨w.heap.size, 5, none⟩ = some (.int .i64 s)) (by kernel_rfl) hSd (fun hHeld => ?_)
      refine wpAnyH_take (i := 0) (v := ?_) rfl (by kernel_rfl) (by kernel_rfl) (by kernel_rfl) (fun _ _ _ h => h) (Or.inl ⟨by rfl, ?_⟩) (by assumption) ?_; rotate_left; focus (intro w hSw; (try dsimp only at hSw); simp only [List.getElem_toArray, List.getElem_cons_succ, List.getElem_cons_zero]; go_simp; (try (with_reducible rfl)))
      simp only [List.getElem_toArray, List.getElem_cons_succ, List.getElem_cons_zero, Act.put, List.setIfInBounds_toArray, List.set_cons_zero, List.set_cons_succ]
      refine wpAnyH_take (i := 1) (v := ?_) rfl (by kernel_rfl) (by kernel_rfl) (by kernel_rfl) (fun _ _ _ h => h) (Or.inl ⟨by rfl, ?_⟩) (by assumption) ?_; rotate_left; focus (intro w hSw; (try dsimp only at hSw); simp only [List.getElem_toArray, List.getElem_cons_succ, List.getElem_cons_zero]; go_simp; (try (with_reducible rfl)))
      simp only [List.getElem_toArray, List.getElem_cons_succ, List.getElem_cons_zero, Act.put, List.setIfInBounds_toArray, List.set_cons_zero, List.set_cons_succ]
      refine wpAnyH_take (i := 2) (v := ?_) rfl (by kernel_rfl) (by kernel_rfl) (by kernel_rfl) (fun _ _ _ h => h) (Or.inl ⟨by rfl, ?_⟩) (by assumption) ?_; rotate_left; focus (intro w hSw; (try dsimp only at hSw); simp only [List.getElem_toArray, List.getElem_cons_succ, List.getElem_cons_zero]; go_simp; (try (with_reducible rfl)))
      simp only [List.getElem_toArray, List.getElem_cons_succ, List.getElem_cons_zero, Act.put, List.setIfInBounds_toArray, List.set_cons_zero, List.set_cons_succ]
      refine wpAnyH_take (i := 3) (v := ?_) rfl (by kernel_rfl) (by kernel_rfl) (by kernel_rfl) (fun _ _ _ h => h) (Or.inl ⟨by rfl, ?_⟩) (by assumption) ?_; rotate_left; focus (intro w hSw; (try dsimp only at hSw); simp only [List.getElem_toArray, List.getElem_cons_succ, List.getElem_cons_zero]; go_simp; (try (with_reducible rfl)))
      simp only [List.getElem_toArray, List.getElem_cons_succ, List.getElem_cons_zero, Act.put, List.setIfInBounds_toArray, List.set_cons_zero, List.set_cons_succ]
      refine wpAnyH_take (i := 4) (v := ?_) rfl (by kernel_rfl) (by kernel_rfl) (by kernel_rfl) (fun _ _ _ h => h) (Or.inl ⟨by rfl, ?_⟩) (by assumption) ?_; rotate_left; focus (intro w hSw; (try dsimp only at hSw); simp only [List.getElem_toArray, List.getElem_cons_succ, List.getElem_cons_zero]; go_simp; (try (with_reducible rfl)))
      simp only [List.getElem_toArray, List.getElem_cons_succ, List.getElem_cons_zero, Act.put, List.setIfInBounds_toArray, List.set_cons_zero, List.set_cons_succ]
      refine wpAnyH_take (i := 5) (v := ?_) rfl (by kernel_rfl) (by kernel_rfl) (by kernel_rfl) (fun _ _ _ h => h) (Or.inl ⟨by rfl, ?_⟩) (by assumption) ?_; rotate_left; focus (intro w hSw; (try dsimp only at hSw); simp only [List.getElem_toArray, List.getElem_cons_succ, List.getElem_cons_zero]; go_simp; (try (with_reducible rfl)))
      simp only [List.getElem_toArray, List.getElem_cons_succ, List.getElem_cons_zero, Act.put, List.setIfInBounds_toArray, List.set_cons_zero, List.set_cons_succ]
      refine wpAnyH_take (i := 6) (v := ?_) rfl (by kernel_rfl) (by kernel_rfl) (by kernel_rfl) (fun _ _ _ h => h) (Or.inl ⟨by rfl, ?_⟩) (by assumption) ?_; rotate_left; focus (intro w hSw; (try dsimp only at hSw); simp only [List.getElem_toArray, List.getElem_cons_succ, List.getElem_cons_zero]; go_simp; (try (with_reducible rfl)))
      simp only [List.getElem_toArray, List.getElem_cons_succ, List.getElem_cons_zero, Act.put, List.setIfInBounds_toArray, List.set_cons_zero, List.set_cons_succ]
      refine wpAnyH_take (i := 7) (v := undef) rfl (by kernel_rfl) (by kernel_rfl) (by kernel_rfl) (fun _ _ _ h => h) (Or.inr ⟨by rfl, rfl⟩) (by assumption) ?_
      simp only [List.getElem_toArray, List.getElem_cons_succ, List.getElem_cons_zero, Act.put, List.setIfInBounds_toArray, List.set_cons_zero, List.set_cons_succ]
      refine wpAnyH_take (i := 8) (v := undef) rfl (by kernel_rfl) (by kernel_rfl) (by kernel_rfl) (fun _ _ _ h => h) (Or.inr ⟨by rfl, rfl⟩) (by assumption) ?_
      simp only [List.getElem_toArray, List.getElem_cons_succ, List.getElem_cons_zero, Act.put, List.setIfInBounds_toArray, List.set_cons_zero, List.set_cons_succ]
      refine wpAnyH_take (i := 9) (v := undef) rfl (by kernel_rfl) (by kernel_rfl) (by kernel_rfl) (fun _ _ _ h => h) (Or.inr ⟨by rfl, rfl⟩) (by assumption) ?_
      simp only [List.getElem_toArray, List.getElem_cons_succ, List.getElem_cons_zero, Act.put, List.setIfInBounds_toArray, List.set_cons_zero, List.set_cons_succ]
      refine wpAnyH_take (i := 10) (v := undef) rfl (by kernel_rfl) (by kernel_rfl) (by kernel_rfl) (fun _ _ _ h => h) (Or.inr ⟨by rfl, rfl⟩) (by assumption) ?_
      simp only [List.getElem_toArray, List.getElem_cons_succ, List.getElem_cons_zero, Act.put, List.setIfInBounds_toArray, List.set_cons_zero, List.set_cons_succ]
      refine wpAnyH_take (i := 11) (v := undef) rfl (by kernel_rfl) (by kernel_rfl) (by kernel_rfl) (fun _ _ _ h => h) (Or.inr ⟨by rfl, rfl⟩) (by assumption) ?_
      simp only [List.getElem_toArray, List.getElem_cons_succ, List.getElem_cons_zero, Act.put, List.setIfInBounds_toArray, List.set_cons_zero, List.set_cons_succ]
      refine wpAnyH_take (i := 12) (v := undef) rfl (by kernel_rfl) (by kernel_rfl) (by kernel_rfl) (fun _ _ _ h => h) (Or.inr ⟨by rfl, rfl⟩) (by assumption) ?_
      simp only [List.getElem_toArray, List.getElem_cons_succ, List.getElem_cons_zero, Act.put, List.setIfInBounds_toArray, List.set_cons_zero, List.set_cons_succ]
      refine wpAnyH_take (i := 13) (v := undef) rfl (by kernel_rfl) (by kernel_rfl) (by kernel_rfl) (fun _ _ _ h => h) (Or.inr ⟨by rfl, rfl⟩) (by assumption) ?_
      simp only [List.getElem_toArray, List.getElem_cons_succ, List.getElem_cons_zero, Act.put, List.setIfInBounds_toArray, List.set_cons_zero, List.set_cons_succ]
      refine wpAnyH_take (i := 14) (v := ?_) rfl (by kernel_rfl) (by kernel_rfl) (by kernel_rfl) (fun _ _ _ h => h) (Or.inl ⟨by rfl, ?_⟩) (by assumption) ?_; rotate_left; focus (intro w hSw; (try dsimp only at hSw); simp only [List.getElem_toArray, List.getElem_cons_succ, List.getElem_cons_zero]; go_simp; (try (with_reducible rfl)))
      simp only [List.getElem_toArray, List.getElem_cons_succ, List.getElem_cons_zero, Act.put, List.setIfInBounds_toArray, List.set_cons_zero, List.set_cons_succ]
      refine wpAnyH_take (i := 15) (v := ?_) rfl (by kernel_rfl) (by kernel_rfl) (by kernel_rfl) (fun _ _ _ h => h) (Or.inl ⟨by rfl, ?_⟩) (by assumption) ?_; rotate_left; focus (intro w hSw; (try dsimp only at hSw); simp only [List.getElem_toArray, List.getElem_cons_succ, List.getElem_cons_zero]; go_simp; (try (with_reducible rfl)))
      simp only [List.getElem_toArray, List.getElem_cons_succ, List.getElem_cons_zero, Act.put, List.setIfInBounds_toArray, List.set_cons_zero, List.set_cons_succ]
      refine wpAnyH_take (i := 16) (v := ?_) rfl (by kernel_rfl) (by kernel_rfl) (by kernel_rfl) (fun _ _ _ h => h) (Or.inl ⟨by rfl, ?_⟩) (by assumption) ?_; rotate_left; focus (intro w hSw; (try dsimp only at hSw); simp only [List.getElem_toArray, List.getElem_cons_succ, List.getElem_cons_zero]; go_simp; (try (with_reducible rfl)))
      simp only [List.getElem_toArray, List.getElem_cons_succ, List.getElem_cons_zero, Act.put, List.setIfInBounds_toArray, List.set_cons_zero, List.set_cons_succ]
      refine wpAnyH_take (i := 17) (v := ?_) rfl (by kernel_rfl) (by kernel_rfl) (by kernel_rfl) (fun _ _ _ h => h) (Or.inl ⟨by rfl, ?_⟩) (by assumption) ?_; rotate_left; focus (intro w hSw; (try dsimp only at hSw); simp only [List.getElem_toArray, List.getElem_cons_succ, List.getElem_cons_zero]; go_simp; (try (with_reducible rfl)))
      simp only [List.getElem_toArray, List.getElem_cons_succ, List.getElem_cons_zero, Act.put, List.setIfInBounds_toArray, List.set_cons_zero, List.set_cons_succ]
      refine wpAnyH_take (i := 18) (v := ?_) rfl (by kernel_rfl) (by kernel_rfl) (by kernel_rfl) (fun _ _ _ h => h) (Or.inl ⟨by rfl, ?_⟩) (by assumption) ?_; rotate_left; focus (intro w hSw; (try dsimp only at hSw); simp only [List.getElem_toArray, List.getElem_cons_succ, List.getElem_cons_zero]; go_simp; (try (with_reducible rfl)))
      simp only [List.getElem_toArray, List.getElem_cons_succ, List.getElem_cons_zero, Act.put, List.setIfInBounds_toArray, List.set_cons_zero, List.set_cons_succ]
      refine wpAnyH_take (i := 19) (v := ?_) rfl (by kernel_rfl) (by kernel_rfl) (by kernel_rfl) (fun _ _ _ h => h) (Or.inl ⟨by rfl, ?_⟩) (by assumption) ?_; rotate_left; focus (intro w hSw; (try dsimp only at hSw); simp only [List.getElem_toArray, List.getElem_cons_succ, List.getElem_cons_zero]; go_simp; (try (with_reducible rfl)))
      simp only [List.getElem_toArray, List.getElem_cons_succ, List.getElem_cons_zero, Act.put, List.setIfInBounds_toArray, List.set_cons_zero, List.set_cons_succ]
      refine wpAnyH_take (i := 20) (v := ?_) rfl (by kernel_rfl) (by kernel_rfl) (by kernel_rfl) (fun _ _ _ h => h) (Or.inl ⟨by rfl, ?_⟩) (by assumption) ?_; rotate_left; focus (intro w hSw; (try dsimp only at hSw); simp only [List.getElem_toArray, List.getElem_cons_succ, List.getElem_cons_zero]; go_simp; (try (with_reducible rfl)))
      simp only [List.getElem_toArray, List.getElem_cons_succ, List.getElem_cons_zero, Act.put, List.setIfInBounds_toArray, List.set_cons_zero, List.set_cons_succ]
      refine wpAnyH_take (i := 21) (v := ?_) rfl (by kernel_rfl) (by kernel_rfl) (by kernel_rfl) (fun _ _ _ h => h) (Or.inl ⟨by rfl, ?_⟩) (by assumption) ?_; rotate_left; focus (intro w hSw; (try dsimp only at hSw); simp only [List.getElem_toArray, List.getElem_cons_succ, List.getElem_cons_zero]; go_simp; (try (with_reducible rfl)))
      simp only [List.getElem_toArray, List.getElem_cons_succ, List.getElem_cons_zero, Act.put, List.setIfInBounds_toArray, List.set_cons_zero, List.set_cons_succ]
      refine wpAnyH_take (i := 23) (v := ?_) rfl (by kernel_rfl) (by kernel_rfl) (by kernel_rfl) (fun _ _ _ h => h) (Or.inl ⟨by rfl, ?_⟩) (by assumption) ?_; rotate_left; focus (intro w hSw; (try dsimp only at hSw); simp only [List.getElem_toArray, List.getElem_cons_succ, List.getElem_cons_zero]; go_simp; (try (with_reducible rfl)))
      simp only [List.getElem_toArray, List.getElem_cons_succ, List.getElem_cons_zero, Act.put, List.setIfInBounds_toArray, List.set_cons_zero, List.set_cons_succ]
      refine wpAnyH_ready (rs := [22]) (by kernel_rfl) (by simp) ?_
      refine AllReadyH.cons rfl (fun K hK => ?_) AllReadyH.nil
      go_simp
      (with_reducible refine (C15.out _ (by assumption)).mono ?_)
      rintro e w11 ⟨rfl, hS6⟩
      refine hK.out _ _ hS6 (fun hHeld => ?_)
      clear hK K
      try simp only [Act.put, List.setIfInBounds_toArray, List.set_cons_zero, List.set_cons_succ]
      refine wpAnyH_ready (rs := [24]) (by kernel_rfl) (by simp) ?_
      refine AllReadyH.cons rfl (fun K hK => ?_) AllReadyH.nil
      go_simp
      (with_reducible refine (C14.out _ (by assumption)).mono ?_)
      rintro e w12 ⟨rfl, hS6⟩
      refine hK.out _ _ hS6 (fun hHeld => ?_)
      clear hK K
      try simp only [Act.put, List.setIfInBounds_toArray, List.set_cons_zero, List.set_cons_succ]
      refine wpAnyH_ready (rs := [25]) (by kernel_rfl) (by simp) ?_
      refine AllReadyH.cons rfl (fun K hK => ?_) AllReadyH.nil
      go_simp
      (with_reducible refine (C17.out _ (by assumption)).mono ?_)
      rintro e w13 ⟨rfl, hS6⟩
      refine hK.out _ _ hS6 (fun hHeld => ?_)
      clear hK K
      try simp only [Act.put, List.setIfInBounds_toArray, List.set_cons_zero, List.set_cons_succ]
      refine wpAnyH_take (i := 26) (v := ?_) rfl (by kernel_rfl) (by kernel_rfl) (by kernel_rfl) (fun _ _ _ h => h) (Or.inl ⟨by rfl, ?_⟩) (by assumption) ?_; rotate_left; focus (intro w hSw; (try dsimp only at hSw); simp only [List.getElem_toArray, List.getElem_cons_succ, List.getElem_cons_zero]; go_simp; (try (with_reducible rfl)))
      simp only [List.getElem_toArray, List.getElem_cons_succ, List.getElem_cons_zero, Act.put, List.setIfInBounds_toArray, List.set_cons_zero, List.set_cons_succ]
      refine wpAnyH_take (i := 27) (v := ?_) rfl (by kernel_rfl) (by kernel_rfl) (by kernel_rfl) (fun _ _ _ h => h) (Or.inl ⟨by rfl, ?_⟩) (by assumption) ?_; rotate_left; focus (intro w hSw; (try dsimp only at hSw); simp only [List.getElem_toArray, List.getElem_cons_succ, List.getElem_cons_zero]; go_simp; (try (with_reducible rfl)))
      simp only [List.getElem_toArray, List.getElem_cons_succ, List.getElem_cons_zero, Act.put, List.setIfInBounds_toArray, List.set_cons_zero, List.set_cons_succ]
      refine wpAnyH_take (i := 28) (v := ?_) rfl (by kernel_rfl) (by kernel_rfl) (by kernel_rfl) (fun _ _ _ h => h) (Or.inl ⟨by rfl, ?_⟩) (by assumption) ?_; rotate_left; focus (intro w hSw; (try dsimp only at hSw); simp only [List.getElem_toArray, List.getElem_cons_succ, List.getElem_cons_zero]; go_simp; (try (with_reducible rfl)))
      simp only [List.getElem_toArray, List.getElem_cons_succ, List.getElem_cons_zero, Act.put, List.setIfInBounds_toArray, List.set_cons_zero, List.set_cons_succ]
      refine wpAnyH_done (by kernel_rfl) ?_ _
      go_wp2_with fail
      go_ret
      exact ⟨rfl, hS6.1.out.2⟩
    · have HSV := Lib.hid (show secV Y M D h m s = .tuple #[.int .i64 0, .int .u8 12] by unfold secV; rw [if_neg (by simp [hr]), if_neg hT])
      have HRV := Lib.hid (show rsecV (totalS Y M D h m s) = .tuple #[.int .i64 0, .bool false] by unfold rsecV; rw [if_neg hT])
      clear hr hT
      obtain ⟨T, hT⟩ : ∃ T, totalS Y M D h m s = T := ⟨_, rfl⟩
      rw [hT] at HRV
      have HTT := Lib.hid hT
      clear hT
      have HS := Lib.hid (seconds_calls Y M D h m s w1 h0 h1)
      rw [show secV Y M D h m s = .tuple #[.int .i64 0, .int .u8 12] from HSV.out] at HS
      go_wp2_with fail
      (with_reducible refine HS.out.mono ?_)
      rintro e w2 ⟨rfl, hb2⟩
      have HB2 := Lib.hid (HB1.out.trans (hb2.mono HB1.out.size))
      replace c0 := cell_keep hb2 c0
      replace c1 := cell_keep hb2 c1
      replace c2 := cell_keep hb2 c2
      replace c3 := cell_keep hb2 c3
      replace c4 := cell_keep hb2 c4
      replace c5 := cell_keep hb2 c5
      clear hb2 HB1 HS HSV
      go_upto_region 4 with (fail)
      have hbd : Below w2.heap.size w2 w2.drew := ⟨rfl, rfl, rfl, Nat.le_refl _, fun _ _ => rfl⟩
      have hSd := And.intro (Lib.hid (And.intro (HV.out.below (HB2.out.trans (hbd.mono HB2.out.size))) (HB2.out.trans (hbd.mono HB2.out.size)))) (And.intro (cell_keep hbd c0) (And.intro (cell_keep hbd c1) (And.intro (cell_keep hbd c2) (And.intro (cell_keep hbd c3) (And.intro (cell_keep hbd c4) (cell_keep hbd c5))))))
      clear hbd c0 c1 c2 c3 c4 c5 HB2
      go_region_held3 (fun W : World => Hid (VW W ∧ Below w.heap.size w W) ∧ W.cell? ⟨w.heap.size, 0, none⟩ = some (.int .i64 Y) ∧ W.cell? ⟨w.heap.size, 1, none⟩ = some (.int .i64 M) ∧ W.cell? ⟨w.heap.size, 2, none⟩ = some (.int .i64 D) ∧ W.cell? ⟨w.heap.size, 3, none⟩ = some (.int .i64 h) ∧ W.cell? ⟨w.heap.size, 4, none⟩ = some (.int .i64 m) ∧ W.cell? ⟨w.heap.size, 5, none⟩ = some (.int .i64 s)) (first | exact hSd | assumption) (first | (go_at_call 9; (with_reducible refine (C9.out _ (by assumption)).mono ?_); rintro e w6 ⟨rfl, hS6⟩) | (go_at_call 10; (with_reducible refine (C10.out _ (by assumption)).mono ?_); rintro e w6 ⟨rfl, hS6⟩) | (go_at_call 11; (with_reducible refine (C11.out _ (by assumption)).mono ?_); rintro e w6 ⟨rfl, hS6⟩) | (go_at_call 12; (with_reducible refine (C12.out _ (by assumption)).mono ?_); rintro e w6 ⟨rfl, hS6⟩))
      obtain ⟨hv6, c0, c1, c2, c3, c4, c5⟩ := hS6
      have HB6 := Lib.hid hv6.out
      clear hv6 hSd C9 C10 C11 C12 dL dK
      have HV7 := Lib.hid (HV.out.below HB6.out.2)
      have HB7 := Lib.hid HB6.out.2
      clear HB6
      go_wp2_with fail
      (with_reducible refine (of22_calls Y M D h m s w6).mono ?_)
      rintro e w7 ⟨rfl, hb7⟩
      have HB8 := Lib.hid (HB7.out.trans (hb7.mono HB7.out.size))
      replace c0 := cell_keep hb7 c0
      replace c1 := cell_keep hb7 c1
      replace c2 := cell_keep hb7 c2
      replace c3 := cell_keep hb7 c3
      replace c4 := cell_keep hb7 c4
      replace c5 := cell_keep hb7 c5
      clear hb7 HB7 HV7
      have HR := Lib.hid (rright_calls Y M D h m s w7)
      rw [HRR.out] at HR
      go_wp2_with fail
      (with_reducible refine HR.out.mono ?_)
      rintro e w8 ⟨rfl, hb8⟩
      have HB9 := Lib.hid (HB8.out.trans (hb8.mono HB8.out.size))
      replace c0 := cell_keep hb8 c0
      replace c1 := cell_keep hb8 c1
      replace c2 := cell_keep hb8 c2
      replace c3 := cell_keep hb8 c3
      replace c4 := cell_keep hb8 c4
      replace c5 := cell_keep hb8 c5
      clear hb8 HB8 HR
      have HZ := Lib.hid (of22_calls Y M D h m s w8)
      go_wp2_with fail
      (with_reducible refine HZ.out.mono ?_)
      rintro e w9 ⟨rfl, hb9⟩
      have HB10 := Lib.hid (HB9.out.trans (hb9.mono HB9.out.size))
      replace c0 := cell_keep hb9 c0
      replace c1 := cell_keep hb9 c1
      replace c2 := cell_keep hb9 c2
      replace c3 := cell_keep hb9 c3
      replace c4 := cell_keep hb9 c4
      replace c5 := cell_keep hb9 c5
      clear hb9 HB9 HZ
      have HX := Lib.hid (rsec_calls Y M D h m s w9 HRR.out)
      rw [HTT.out, HRV.out] at HX
      go_wp2_with fail
      (with_reducible refine HX.out.mono ?_)
      rintro e w10 ⟨rfl, hb10⟩
      have HB11 := Lib.hid (HB10.out.trans (hb10.mono HB10.out.size))
      replace c0 := cell_keep hb10 c0
      replace c1 := cell_keep hb10 c1
      replace c2 := cell_keep hb10 c2
      replace c3 := cell_keep hb10 c3
      replace c4 := cell_keep hb10 c4
      replace c5 := cell_keep hb10 c5
      clear hb10 HB10 HX
      go_upto_region 11 with (fail)
      have hbd : Below w10.heap.size w10 w10.drew := ⟨rfl, rfl, rfl, Nat.le_refl _, fun _ _ => rfl⟩
      have hSd := And.intro (Lib.hid (And.intro (HV.out.below (HB11.out.trans (hbd.mono HB11.out.size))) (HB11.out.trans (hbd.mono HB11.out.size)))) (And.intro (cell_keep hbd c0) (And.intro (cell_keep hbd c1) (And.intro (cell_keep hbd c2) (And.intro (cell_keep hbd c3) (And.intro (cell_keep hbd c4) (cell_keep hbd c5))))))
      clear hbd c0 c1 c2 c3 c4 c5 HB11
      refine wp_region_held_drew (S := fun W : World => Hid (VW W ∧ Below w.heap.size w W) ∧ W.cell? ⟨w.heap.size, 0, none⟩ = some (.int .i64 Y) ∧ W.cell? ⟨w.heap.size, 1, none⟩ = some (.int .i64 M) ∧ W.cell? ⟨w.heap.size, 2, none⟩ = some (.int .i64 D) ∧ W.cell? ⟨w.heap.size, 3, none⟩ = some (.int .i64 h) ∧ W.cell? ⟨w.heap.size, 4, none⟩ = some (.int .i64 m) ∧ W.cell? ⟨w.heap.size, 5, none⟩ = some (.int .i64 s)) (by kernel_rfl) hSd (fun hHeld => ?_)
      refine wpAnyH_take (i := 0) (v := ?_) rfl (by kernel_rfl) (by kernel_rfl) (by kernel_rfl) (fun _ _ _ h => h) (Or.inl ⟨by rfl, ?_⟩) (by assumption) ?_; rotate_left; focus (intro w hSw; (try dsimp only at hSw); simp only [List.getElem_toArray, List.getElem_cons_succ, List.getElem_cons_zero]; go_simp; (try (with_reducible rfl)))
      simp only [List.getElem_toArray, List.getElem_cons_succ, List.getElem_cons_zero, Act.put, List.setIfInBounds_toArray, List.set_cons_zero, List.set_cons_succ]
      refine wpAnyH_take (i := 1) (v := ?_) rfl (by kernel_rfl) (by kernel_rfl) (by kernel_rfl) (fun _ _ _ h => h) (Or.inl ⟨by rfl, ?_⟩) (by assumption) ?_; rotate_left; focus (intro w hSw; (try dsimp only at hSw); simp only [List.getElem_toArray, List.getElem_cons_succ, List.getElem_cons_zero]; go_simp; (try (with_reducible rfl)))
      simp only [List.getElem_toArray, List.getElem_cons_succ, List.getElem_cons_zero, Act.put, List.setIfInBounds_toArray, List.set_cons_zero, List.set_cons_succ]
      refine wpAnyH_take (i := 2) (v := undef) rfl (by kernel_rfl) (by kernel_rfl) (by kernel_rfl) (fun _ _ _ h => h) (Or.inr ⟨by rfl, rfl⟩) (by assumption) ?_
      simp only [List.getElem_toArray, List.getElem_cons_succ, List.getElem_cons_zero, Act.put, List.setIfInBounds_toArray, List.set_cons_zero, List.set_cons_succ]
      refine wpAnyH_take (i := 3) (v := undef) rfl (by kernel_rfl) (by kernel_rfl) (by kernel_rfl) (fun _ _ _ h => h) (Or.inr ⟨by rfl, rfl⟩) (by assumption) ?_
      simp only [List.getElem_toArray, List.getElem_cons_succ, List.getElem_cons_zero, Act.put, List.setIfInBounds_toArray, List.set_cons_zero, List.set_cons_succ]
      refine wpAnyH_take (i := 4) (v := undef) rfl (by kernel_rfl) (by kernel_rfl) (by kernel_rfl) (fun _ _ _ h => h) (Or.inr ⟨by rfl, rfl⟩) (by assumption) ?_
      simp only [List.getElem_toArray, List.getElem_cons_succ, List.getElem_cons_zero, Act.put, List.setIfInBounds_toArray, List.set_cons_zero, List.set_cons_succ]
      refine wpAnyH_take (i := 5) (v := ?_) rfl (by kernel_rfl) (by kernel_rfl) (by kernel_rfl) (fun _ _ _ h => h) (Or.inl ⟨by rfl, ?_⟩) (by assumption) ?_; rotate_left; focus (intro w hSw; (try dsimp only at hSw); simp only [List.getElem_toArray, List.getElem_cons_succ, List.getElem_cons_zero]; go_simp; (try (with_reducible rfl)))
      simp only [List.getElem_toArray, List.getElem_cons_succ, List.getElem_cons_zero, Act.put, List.setIfInBounds_toArray, List.set_cons_zero, List.set_cons_succ]
      refine wpAnyH_take (i := 6) (v := ?_) rfl (by kernel_rfl) (by kernel_rfl) (by kernel_rfl) (fun _ _ _ h => h) (Or.inl ⟨by rfl, ?_⟩) (by assumption) ?_; rotate_left; focus (intro w hSw; (try dsimp only at hSw); simp only [List.getElem_toArray, List.getElem_cons_succ, List.getElem_cons_zero]; go_simp; (try (with_reducible rfl)))
      simp only [List.getElem_toArray, List.getElem_cons_succ, List.getElem_cons_zero, Act.put, List.setIfInBounds_toArray, List.set_cons_zero, List.set_cons_succ]
      refine wpAnyH_take (i := 7) (v := ?_) rfl (by kernel_rfl) (by kernel_rfl) (by kernel_rfl) (fun _ _ _ h => h) (Or.inl ⟨by rfl, ?_⟩) (by assumption) ?_; rotate_left; focus (intro w hSw; (try dsimp only at hSw); simp only [List.getElem_toArray, List.getElem_cons_succ, List.getElem_cons_zero]; go_simp; (try (with_reducible rfl)))
      simp only [List.getElem_toArray, List.getElem_cons_succ, List.getElem_cons_zero, Act.put, List.setIfInBounds_toArray, List.set_cons_zero, List.set_cons_succ]
      refine wpAnyH_take (i := 8) (v := ?_) rfl (by kernel_rfl) (by kernel_rfl) (by kernel_rfl) (fun _ _ _ h => h) (Or.inl ⟨by rfl, ?_⟩) (by assumption) ?_; rotate_left; focus (intro w hSw; (try dsimp only at hSw); simp only [List.getElem_toArray, List.getElem_cons_succ, List.getElem_cons_zero]; go_simp; (try (with_reducible rfl)))
      simp only [List.getElem_toArray, List.getElem_cons_succ, List.getElem_cons_zero, Act.put, List.setIfInBounds_toArray, List.set_cons_zero, List.set_cons_succ]
      refine wpAnyH_take (i := 9) (v := ?_) rfl (by kernel_rfl) (by kernel_rfl) (by kernel_rfl) (fun _ _ _ h => h) (Or.inl ⟨by rfl, ?_⟩) (by assumption) ?_; rotate_left; focus (intro w hSw; (try dsimp only at hSw); simp only [List.getElem_toArray, List.getElem_cons_succ, List.getElem_cons_zero]; go_simp; (try (with_reducible rfl)))
      simp only [List.getElem_toArray, List.getElem_cons_succ, List.getElem_cons_zero, Act.put, List.setIfInBounds_toArray, List.set_cons_zero, List.set_cons_succ]
      refine wpAnyH_take (i := 10) (v := ?_) rfl (by kernel_rfl) (by kernel_rfl) (by kernel_rfl) (fun _ _ _ h => h) (Or.inl ⟨by rfl, ?_⟩) (by assumption) ?_; rotate_left; focus (intro w hSw; (try dsimp only at hSw); simp only [List.getElem_toArray, List.getElem_cons_succ, List.getElem_cons_zero]; go_simp; (try (with_reducible rfl)))
      simp only [List.getElem_toArray, List.getElem_cons_succ, List.getElem_cons_zero, Act.put, List.setIfInBounds_toArray, List.set_cons_zero, List.set_cons_succ]
      refine wpAnyH_take (i := 11) (v := ?_) rfl (by kernel_rfl) (by kernel_rfl) (by kernel_rfl) (fun _ _ _ h => h) (Or.inl ⟨by rfl, ?_⟩) (by assumption) ?_; rotate_left; focus (intro w hSw; (try dsimp only at hSw); simp only [List.getElem_toArray, List.getElem_cons_succ, List.getElem_cons_zero]; go_simp; (try (with_reducible rfl)))
      simp only [List.getElem_toArray, List.getElem_cons_succ, List.getElem_cons_zero, Act.put, List.setIfInBounds_toArray, List.set_cons_zero, List.set_cons_succ]
      refine wpAnyH_take (i := 12) (v := ?_) rfl (by kernel_rfl) (by kernel_rfl) (by kernel_rfl) (fun _ _ _ h => h) (Or.inl ⟨by rfl, ?_⟩) (by assumption) ?_; rotate_left; focus (intro w hSw; (try dsimp only at hSw); simp only [List.getElem_toArray, List.getElem_cons_succ, List.getElem_cons_zero]; go_simp; (try (with_reducible rfl)))
      simp only [List.getElem_toArray, List.getElem_cons_succ, List.getElem_cons_zero, Act.put, List.setIfInBounds_toArray, List.set_cons_zero, List.set_cons_succ]
      refine wpAnyH_take (i := 13) (v := ?_) rfl (by kernel_rfl) (by kernel_rfl) (by kernel_rfl) (fun _ _ _ h => h) (Or.inl ⟨by rfl, ?_⟩) (by assumption) ?_; rotate_left; focus (intro w hSw; (try dsimp only at hSw); simp only [List.getElem_toArray, List.getElem_cons_succ, List.getElem_cons_zero]; go_simp; (try (with_reducible rfl)))
      simp only [List.getElem_toArray, List.getElem_cons_succ, List.getElem_cons_zero, Act.put, List.setIfInBounds_toArray, List.set_cons_zero, List.set_cons_succ]
      refine wpAnyH_take (i := 14) (v := ?_) rfl (by kernel_rfl) (by kernel_rfl) (by kernel_rfl) (fun _ _ _ h => h) (Or.inl ⟨by rfl, ?_⟩) (by assumption) ?_; rotate_left; focus (intro w hSw; (try dsimp only at hSw); simp only [List.getElem_toArray, List.getElem_cons_succ, List.getElem_cons_zero]; go_simp; (try (with_reducible rfl)))
      simp only [List.getElem_toArray, List.getElem_cons_succ, List.getElem_cons_zero, Act.put, List.setIfInBounds_toArray, List.set_cons_zero, List.set_cons_succ]
      refine wpAnyH_take (i := 15) (v := ?_) rfl (by kernel_rfl) (by kernel_rfl) (by kernel_rfl) (fun _ _ _ h => h) (Or.inl ⟨by rfl, ?_⟩) (by assumption) ?_; rotate_left; focus (intro w hSw; (try dsimp only at hSw); simp only [List.getElem_toArray, List.getElem_cons_succ, List.getElem_cons_zero]; go_simp; (try (with_reducible rfl)))
      simp only [List.getElem_toArray, List.getElem_cons_succ, List.getElem_cons_zero, Act.put, List.setIfInBounds_toArray, List.set_cons_zero, List.set_cons_succ]
      refine wpAnyH_take (i := 16) (v := ?_) rfl (by kernel_rfl) (by kernel_rfl) (by kernel_rfl) (fun _ _ _ h => h) (Or.inl ⟨by rfl, ?_⟩) (by assumption) ?_; rotate_left; focus (intro w hSw; (try dsimp only at hSw); simp only [List.getElem_toArray, List.getElem_cons_succ, List.getElem_cons_zero]; go_simp; (try (with_reducible rfl)))
      simp only [List.getElem_toArray, List.getElem_cons_succ, List.getElem_cons_zero, Act.put, List.setIfInBounds_toArray, List.set_cons_zero, List.set_cons_succ]
      refine wpAnyH_take (i := 17) (v := ?_) rfl (by kernel_rfl) (by kernel_rfl) (by kernel_rfl) (fun _ _ _ h => h) (Or.inl ⟨by rfl, ?_⟩) (by assumption) ?_; rotate_left; focus (intro w hSw; (try dsimp only at hSw); simp only [List.getElem_toArray, List.getElem_cons_succ, List.getElem_cons_zero]; go_simp; (try (with_reducible rfl)))
      simp only [List.getElem_toArray, List.getElem_cons_succ, List.getElem_cons_zero, Act.put, List.setIfInBounds_toArray, List.set_cons_zero, List.set_cons_succ]
      refine wpAnyH_take (i := 18) (v := ?_) rfl (by kernel_rfl) (by kernel_rfl) (by kernel_rfl) (fun _ _ _ h => h) (Or.inl ⟨by rfl, ?_⟩) (by assumption) ?_; rotate_left; focus (intro w hSw; (try dsimp only at hSw); simp only [List.getElem_toArray, List.getElem_cons_succ, List.getElem_cons_zero]; go_simp; (try (with_reducible rfl)))
      simp only [List.getElem_toArray, List.getElem_cons_succ, List.getElem_cons_zero, Act.put, List.setIfInBounds_toArray, List.set_cons_zero, List.set_cons_succ]
      refine wpAnyH_take (i := 19) (v := ?_) rfl (by kernel_rfl) (by kernel_rfl) (by kernel_rfl) (fun _ _ _ h => h) (Or.inl ⟨by rfl, ?_⟩) (by assumption) ?_; rotate_left; focus (intro w hSw; (try dsimp only at hSw); simp only [List.getElem_toArray, List.getElem_cons_succ, List.getElem_cons_zero]; go_simp; (try (with_reducible rfl)))
      simp only [List.getElem_toArray, List.getElem_cons_succ, List.getElem_cons_zero, Act.put, List.setIfInBounds_toArray, List.set_cons_zero, List.set_cons_succ]
      refine wpAnyH_take (i := 20) (v := ?_) rfl (by kernel_rfl) (by kernel_rfl) (by kernel_rfl) (fun _ _ _ h => h) (Or.inl ⟨by rfl, ?_⟩) (by assumption) ?_; rotate_left; focus (intro w hSw; (try dsimp only at hSw); simp only [List.getElem_toArray, List.getElem_cons_succ, List.getElem_cons_zero]; go_simp; (try (with_reducible rfl)))
      simp only [List.getElem_toArray, List.getElem_cons_succ, List.getElem_cons_zero, Act.put, List.setIfInBounds_toArray, List.set_cons_zero, List.set_cons_succ]
      refine wpAnyH_take (i := 21) (v := ?_) rfl (by kernel_rfl) (by kernel_rfl) (by kernel_rfl) (fun _ _ _ h => h) (Or.inl ⟨by rfl, ?_⟩) (by assumption) ?_; rotate_left; focus (intro w hSw; (try dsimp only at hSw); simp only [List.getElem_toArray, List.getElem_cons_succ, List.getElem_cons_zero]; go_simp; (try (with_reducible rfl)))
      simp only [List.getElem_toArray, List.getElem_cons_succ, List.getElem_cons_zero, Act.put, List.setIfInBounds_toArray, List.set_cons_zero, List.set_cons_succ]
      refine wpAnyH_take (i := 23) (v := ?_) rfl (by kernel_rfl) (by kernel_rfl) (by kernel_rfl) (fun _ _ _ h => h) (Or.inl ⟨by rfl, ?_⟩) (by assumption) ?_; rotate_left; focus (intro w hSw; (try dsimp only at hSw); simp only [List.getElem_toArray, List.getElem_cons_succ, List.getElem_cons_zero]; go_simp; (try (with_reducible rfl)))
      simp only [List.getElem_toArray, List.getElem_cons_succ, List.getElem_cons_zero, Act.put, List.setIfInBounds_toArray, List.set_cons_zero, List.set_cons_succ]
      refine wpAnyH_ready (rs := [22]) (by kernel_rfl) (by simp) ?_
      refine AllReadyH.cons rfl (fun K hK => ?_) AllReadyH.nil
      go_simp
      (with_reducible refine (C15.out _ (by assumption)).mono ?_)
      rintro e w11 ⟨rfl, hS6⟩
      refine hK.out _ _ hS6 (fun hHeld => ?_)
      clear hK K
      try simp only [Act.put, List.setIfInBounds_toArray, List.set_cons_zero, List.set_cons_succ]
      refine wpAnyH_ready (rs := [24]) (by kernel_rfl) (by simp) ?_
      refine AllReadyH.cons rfl (fun K hK => ?_) AllReadyH.nil
      go_simp
      (with_reducible refine (C14.out _ (by assumption)).mono ?_)
      rintro e w12 ⟨rfl, hS6⟩
      refine hK.out _ _ hS6 (fun hHeld => ?_)
      clear hK K
      try simp only [Act.put, List.setIfInBounds_toArray, List.set_cons_zero, List.set_cons_succ]
      refine wpAnyH_ready (rs := [25]) (by kernel_rfl) (by simp) ?_
      refine AllReadyH.cons rfl (fun K hK => ?_) AllReadyH.nil
      go_simp
      (with_reducible refine (C17.out _ (by assumption)).mono ?_)
      rintro e w13 ⟨rfl, hS6⟩
      refine hK.out _ _ hS6 (fun hHeld => ?_)
      clear hK K
      try simp only [Act.put, List.setIfInBounds_toArray, List.set_cons_zero, List.set_cons_succ]
      refine wpAnyH_take (i := 26) (v := ?_) rfl (by kernel_rfl) (by kernel_rfl) (by kernel_rfl) (fun _ _ _ h => h) (Or.inl ⟨by rfl, ?_⟩) (by assumption) ?_; rotate_left; focus (intro w hSw; (try dsimp only at hSw); simp only [List.getElem_toArray, List.getElem_cons_succ, List.getElem_cons_zero]; go_simp; (try (with_reducible rfl)))
      simp only [List.getElem_toArray, List.getElem_cons_succ, List.getElem_cons_zero, Act.put, List.setIfInBounds_toArray, List.set_cons_zero, List.set_cons_succ]
      refine wpAnyH_take (i := 27) (v := ?_) rfl (by kernel_rfl) (by kernel_rfl) (by kernel_rfl) (fun _ _ _ h => h) (Or.inl ⟨by rfl, ?_⟩) (by assumption) ?_; rotate_left; focus (intro w hSw; (try dsimp only at hSw); simp only [List.getElem_toArray, List.getElem_cons_succ, List.getElem_cons_zero]; go_simp; (try (with_reducible rfl)))
      simp only [List.getElem_toArray, List.getElem_cons_succ, List.getElem_cons_zero, Act.put, List.setIfInBounds_toArray, List.set_cons_zero, List.set_cons_succ]
      refine wpAnyH_take (i := 28) (v := ?_) rfl (by kernel_rfl) (by kernel_rfl) (by kernel_rfl) (fun _ _ _ h => h) (Or.inl ⟨by rfl, ?_⟩) (by assumption) ?_; rotate_left; focus (intro w hSw; (try dsimp only at hSw); simp only [List.getElem_toArray, List.getElem_cons_succ, List.getElem_cons_zero]; go_simp; (try (with_reducible rfl)))
      simp only [List.getElem_toArray, List.getElem_cons_succ, List.getElem_cons_zero, Act.put, List.setIfInBounds_toArray, List.set_cons_zero, List.set_cons_succ]
      refine wpAnyH_done (by kernel_rfl) ?_ _
      go_wp2_with fail
      go_ret
      exact ⟨rfl, hS6.1.out.2⟩
end Go.Proofs.YtkjglhehlkjfgaaDoor.Hand
