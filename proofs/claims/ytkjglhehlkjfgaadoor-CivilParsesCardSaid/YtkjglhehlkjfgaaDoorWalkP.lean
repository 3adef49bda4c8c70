/- CivilParses: its walk. Written by wip/c22/mkp.py. -/
import Derived.Test.YtkjglhehlkjfgaaDoorAlive
import Derived.Test.YtkjglhehlkjfgaaDoorRefC
import Derived.Test.YtkjglhehlkjfgaaDoorRefE
import Derived.Test.YtkjglhehlkjfgaaDoorBack
import Derived.Test.YtkjglhehlkjfgaaDoorAgg
set_option linter.unusedVariables false
set_option linter.unusedSimpArgs false
namespace Go.Proofs.YtkjglhehlkjfgaaDoor.Hand
open Go.RowKit Go.Proofs.YtkjglhehlkjfgaaDoor.Civ
theorem neq_date (W : World) (Y M D h m s : Int) : (binOp .neq 23 (.agg #[.int .i64 Y, .int .i64 M, .int .i64 D, .int .i64 h, .int .i64 m, .int .i64 s]) (.agg #[.int .i64 Y, .int .i64 M, .int .i64 D, .int .i64 h, .int .i64 m, .int .i64 s])).run Tryd.prog W = .ok (.bool false) W := by
  simp [go_sem, Tryd.underlying23, Tryd.underlying2]
theorem eql_date0 (W : World) (Y M D h m s : Int) : (binOp .eql 23 (.agg #[.int .i64 Y, .int .i64 M, .int .i64 D, .int .i64 h, .int .i64 m, .int .i64 s]) (.agg #[.int .i64 Y, .int .i64 M, .int .i64 D, .int .i64 h, .int .i64 m, .int .i64 s])).run Tryd.prog W = .ok (.bool true) W := by
  simp [go_sem, Tryd.underlying23, Tryd.underlying2]
theorem parse_text (Y M D h m s : Int) (w : World) (hV : VW w) (h0 : -9223372036854775808 ≤ Y) (h1 : Y ≤ 9223372036854775807) (hr : rightB Y M D h m s = true) : Calls Tryd.prog 18 #[.string (textV Y M D h m s)] w (RetB (.tuple #[.agg #[.int .i64 Y, .int .i64 M, .int .i64 D, .int .i64 h, .int .i64 m, .int .i64 s], .int .u8 0]) w) := by
  have hp := parsed_text Y M D h m s h0 h1 hr
  obtain ⟨⟨a1, a2, a3, a4⟩, b1, b2, b3, b4, b5, b6⟩ := (rightB_iff ..).1 hr
  have hz := textV_size Y M D h m s h0 h1 hr
  refine (parse_calls _ (by omega) w hV).mono ?_
  rintro e w' ⟨hb, ⟨Y', a, b, c, d, f, hp', rfl⟩ | ⟨hno, _⟩⟩
  · obtain ⟨rfl, rfl, rfl, rfl, rfl, rfl⟩ := hp'.inj hp
    refine ⟨?_, hb⟩
    unfold dateV
    rw [Int.toNat_of_nonneg (by omega), Int.toNat_of_nonneg (by omega), Int.toNat_of_nonneg (by omega), Int.toNat_of_nonneg (by omega), Int.toNat_of_nonneg (by omega)]
  · exact absurd hp (hno _ _ _ _ _ _)
set_option maxRecDepth 100000 in
set_option maxHeartbeats 4000000 in
theorem civilParses_calls (w : World) (hV : VW w) (S : ByteArray) (hS : S.size ≤ 140737488351232) (Y M D h m s : Int) (h0 : -9223372036854775808 ≤ Y) (h1 : Y ≤ 9223372036854775807) : Calls Tryd.prog 4 #[.string S, .agg #[.int .i64 Y, .int .i64 M, .int .i64 D, .int .i64 h, .int .i64 m, .int .i64 s]] w (RetB (.bool true) w) := by
  have hal := (Below.refl w.heap.size w).alloc (Nat.le_refl _) (.cells #[.int .i64 Y, .int .i64 M, .int .i64 D, .int .i64 h, .int .i64 m, .int .i64 s] 23)
  have hcl := heap_alloc_new w (.cells #[.int .i64 Y, .int .i64 M, .int .i64 D, .int .i64 h, .int .i64 m, .int .i64 s] 23)
  have HV := Lib.hid hV
  have HA := Lib.hid (alive_calls _ (hV.below hal))
  have HAL := Lib.hid hal
  clear hal hV hcl
  by_cases h200 : 200 < S.size
  · have d2 : decide ((200 : Int) < (S.size : Int)) = true := decide_eq_true (by omega)
    have d2' : decide (200 < S.size) = true := decide_eq_true h200
    go_enter Tryd.func4, Tryd.ntmps4
    go_wp2_with fail
    (with_reducible refine HA.out.mono ?_)
    rintro e w1 ⟨rfl, hb1⟩
    have HB1 := Lib.hid (HAL.out.trans (hb1.mono HAL.out.size))
    clear hb1 HA
    go_wp2_with fail
    go_ret
    exact ⟨rfl, HB1.out⟩
  · have d2 : decide ((200 : Int) < (S.size : Int)) = false := decide_eq_false (by omega)
    have d2' : decide (200 < S.size) = false := decide_eq_false h200
    go_enter Tryd.func4, Tryd.ntmps4
    go_wp2_with fail
    (with_reducible refine HA.out.mono ?_)
    rintro e w1 ⟨rfl, hb1⟩
    have HB1 := Lib.hid (HAL.out.trans (hb1.mono HAL.out.size))
    obtain ⟨c0, c1, c2, c3, c4, c5⟩ := box_cells hb1
    clear hb1 HA
    go_wp2_with fail
    (with_reducible refine (of22_calls Y M D h m s w1).mono ?_)
    rintro e w2 ⟨rfl, hb2⟩
    have HB2 := Lib.hid (HB1.out.trans (hb2.mono HB1.out.size))
    replace c0 := cell_keep hb2 c0
    replace c1 := cell_keep hb2 c1
    replace c2 := cell_keep hb2 c2
    replace c3 := cell_keep hb2 c3
    replace c4 := cell_keep hb2 c4
    replace c5 := cell_keep hb2 c5
    clear hb2 HB1
    have HR := Lib.hid (rright_calls Y M D h m s w2)
    cases hr : rightB Y M D h m s
    · rw [hr] at HR
      clear hr
      go_wp2_with fail
      (with_reducible refine HR.out.mono ?_)
      rintro e w3 ⟨rfl, hb3⟩
      have HB7 := Lib.hid (HB2.out.trans (hb3.mono HB2.out.size))
      clear hb3 HB2 HR c0 c1 c2 c3 c4 c5
      have HP := Lib.hid (parse_calls S (by omega) w3 (HV.out.below HB7.out))
      go_wp2_with fail
      (with_reducible refine HP.out.mono ?_)
      generalize w3 = w7 at HB7
      rintro e w8 ⟨hb8, ⟨Y', a, b, c, d, f, hp', rfl⟩ | ⟨hno, rfl⟩⟩
      · have HB8 := Lib.hid (HB7.out.trans (hb8.mono HB7.out.size))
        have hr' := parsed_right hp'
        have hyb := intAt_bd hp'.2.1
        have htx : ((textV Y' a b c d f).toList == S.toList) = true := by rw [hp'.2.2.2.2.2.2.2]; exact beq_self_eq_true _
        obtain ⟨hyb0, hyb1⟩ := hyb
        have HRR' := Lib.hid hr'
        clear hb8 HB7 HP hp' hr'
        unfold dateV
        generalize (a : Int) = a at *
        generalize (b : Int) = b at *
        generalize (c : Int) = c at *
        generalize (d : Int) = d at *
        generalize (f : Int) = f at *
        have hal := (Below.refl w8.heap.size w8).alloc (Nat.le_refl _) (.cells #[.int .i64 Y', .int .i64 a, .int .i64 b, .int .i64 c, .int .i64 d, .int .i64 f] 23)
        have HB9 := Lib.hid (HB8.out.trans (hal.mono HB8.out.size))
        obtain ⟨x0, x1, x2, x3, x4, x5⟩ := six_cells (heap_alloc_new w8 (.cells #[.int .i64 Y', .int .i64 a, .int .i64 b, .int .i64 c, .int .i64 d, .int .i64 f] 23))
        clear hal HB8
        have HR := rright_calls Y' a b c d f
        have HR := Lib.hid HR
        have C14 := Lib.hid (of22_calls Y' a b c d f)
        have CT := Lib.hid (fun W => text22_calls Y' a b c d f W hyb0 hyb1 HRR'.out)
        go_upto_region 10 with (fail)
        generalize w8.alloc (.cells #[.int .i64 Y', .int .i64 a, .int .i64 b, .int .i64 c, .int .i64 d, .int .i64 f] 23) = w9 at HB9 x0 x1 x2 x3 x4 x5 ⊢
        go_wp2_with fail
        (with_reducible refine (C14.out w9).mono ?_)
        rintro e w10 ⟨rfl, hb10⟩
        have HB10 := Lib.hid (HB9.out.trans (hb10.mono HB9.out.size))
        replace x0 := cell_keep hb10 x0
        replace x1 := cell_keep hb10 x1
        replace x2 := cell_keep hb10 x2
        replace x3 := cell_keep hb10 x3
        replace x4 := cell_keep hb10 x4
        replace x5 := cell_keep hb10 x5
        clear hb10 HB9
        have HR10 := HR.out w10
        rw [HRR'.out] at HR10
        have HR10 := Lib.hid HR10
        go_wp2_with fail
        (with_reducible refine HR10.out.mono ?_)
        rintro e w11 ⟨rfl, hb11⟩
        have HB11 := Lib.hid (HB10.out.trans (hb11.mono HB10.out.size))
        replace x0 := cell_keep hb11 x0
        replace x1 := cell_keep hb11 x1
        replace x2 := cell_keep hb11 x2
        replace x3 := cell_keep hb11 x3
        replace x4 := cell_keep hb11 x4
        replace x5 := cell_keep hb11 x5
        clear hb11 HB10 HR10
        go_wp2_with fail
        (with_reducible refine (C14.out w11).mono ?_)
        rintro e w12 ⟨rfl, hb12⟩
        have HB12 := Lib.hid (HB11.out.trans (hb12.mono HB11.out.size))
        clear hb12 HB11
        go_wp2_with fail
        (with_reducible refine (CT.out w12).mono ?_)
        rintro e w13 ⟨rfl, hb13⟩
        have HB13 := Lib.hid (HB12.out.trans (hb13.mono HB12.out.size))
        clear hb13 HB12
        go_wp2_with fail
        go_ret
        exact ⟨rfl, HB13.out⟩
      · have HB8 := Lib.hid (HB7.out.trans (hb8.mono HB7.out.size))
        clear hb8 HB7 HP hno
        unfold dateV
        have hal := (Below.refl w8.heap.size w8).alloc (Nat.le_refl _) (.cells #[.int .i64 0, .int .i64 0, .int .i64 0, .int .i64 0, .int .i64 0, .int .i64 0] 23)
        have HB9 := Lib.hid (HB8.out.trans (hal.mono HB8.out.size))
        clear hal HB8
        have HEQ0 : ∀ W : World, (binOp .eql 23 (.agg #[.int .i64 0, .int .i64 0, .int .i64 0, .int .i64 0, .int .i64 0, .int .i64 0]) (.agg #[.int .i64 0, .int .i64 0, .int .i64 0, .int .i64 0, .int .i64 0, .int .i64 0])).run Tryd.prog W = .ok (.bool true) W := fun W => eql_date0 W _ _ _ _ _ _
        go_wp2_with fail
        go_ret
        exact ⟨rfl, HB9.out⟩
    · rw [hr] at HR
      have HRR := Lib.hid hr
      clear hr
      go_wp2_with fail
      (with_reducible refine HR.out.mono ?_)
      rintro e w3 ⟨rfl, hb3⟩
      have HB3 := Lib.hid (HB2.out.trans (hb3.mono HB2.out.size))
      replace c0 := cell_keep hb3 c0
      replace c1 := cell_keep hb3 c1
      replace c2 := cell_keep hb3 c2
      replace c3 := cell_keep hb3 c3
      replace c4 := cell_keep hb3 c4
      replace c5 := cell_keep hb3 c5
      clear hb3 HB2 HR
      go_wp2_with fail
      (with_reducible refine (of22_calls Y M D h m s w3).mono ?_)
      rintro e w4 ⟨rfl, hb4⟩
      have HB4 := Lib.hid (HB3.out.trans (hb4.mono HB3.out.size))
      replace c0 := cell_keep hb4 c0
      replace c1 := cell_keep hb4 c1
      replace c2 := cell_keep hb4 c2
      replace c3 := cell_keep hb4 c3
      replace c4 := cell_keep hb4 c4
      replace c5 := cell_keep hb4 c5
      clear hb4 HB3
      have HT := Lib.hid (text22_calls Y M D h m s w4 h0 h1 HRR.out)
      go_wp2_with fail
      (with_reducible refine HT.out.mono ?_)
      rintro e w5 ⟨rfl, hb5⟩
      have HB5 := Lib.hid (HB4.out.trans (hb5.mono HB4.out.size))
      replace c0 := cell_keep hb5 c0
      replace c1 := cell_keep hb5 c1
      replace c2 := cell_keep hb5 c2
      replace c3 := cell_keep hb5 c3
      replace c4 := cell_keep hb5 c4
      replace c5 := cell_keep hb5 c5
      clear hb5 HB4 HT
      have HX := Lib.hid (parse_text Y M D h m s w5 (HV.out.below HB5.out) h0 h1 HRR.out)
      go_wp2_with fail
      (with_reducible refine HX.out.mono ?_)
      rintro e w6 ⟨rfl, hb6⟩
      have HB6 := Lib.hid (HB5.out.trans (hb6.mono HB5.out.size))
      replace c0 := cell_keep hb6 c0
      replace c1 := cell_keep hb6 c1
      replace c2 := cell_keep hb6 c2
      replace c3 := cell_keep hb6 c3
      replace c4 := cell_keep hb6 c4
      replace c5 := cell_keep hb6 c5
      clear hb6 HB5 HX
      have hal := (Below.refl w6.heap.size w6).alloc (Nat.le_refl _) (.cells #[.int .i64 Y, .int .i64 M, .int .i64 D, .int .i64 h, .int .i64 m, .int .i64 s] 23)
      have HB7 := Lib.hid (HB6.out.trans (hal.mono HB6.out.size))
      replace c0 := cell_keep hal c0
      replace c1 := cell_keep hal c1
      replace c2 := cell_keep hal c2
      replace c3 := cell_keep hal c3
      replace c4 := cell_keep hal c4
      replace c5 := cell_keep hal c5
      obtain ⟨x0, x1, x2, x3, x4, x5⟩ := six_cells (heap_alloc_new w6 (.cells #[.int .i64 Y, .int .i64 M, .int .i64 D, .int .i64 h, .int .i64 m, .int .i64 s] 23))
      clear hal HB6
      have HP := Lib.hid (parse_calls S (by omega) (w6.alloc (.cells #[.int .i64 Y, .int .i64 M, .int .i64 D, .int .i64 h, .int .i64 m, .int .i64 s] 23)) (HV.out.below HB7.out))
      go_upto_region 7 with (fail)
      generalize w6.alloc (.cells #[.int .i64 Y, .int .i64 M, .int .i64 D, .int .i64 h, .int .i64 m, .int .i64 s] 23) = w7 at HB7 HP c0 c1 c2 c3 c4 c5 x0 x1 x2 x3 x4 x5 ⊢
      have HEQ : ∀ W : World, (binOp .neq 23 (.agg #[.int .i64 Y, .int .i64 M, .int .i64 D, .int .i64 h, .int .i64 m, .int .i64 s]) (.agg #[.int .i64 Y, .int .i64 M, .int .i64 D, .int .i64 h, .int .i64 m, .int .i64 s])).run Tryd.prog W = .ok (.bool false) W := fun W => neq_date W _ _ _ _ _ _
      go_wp2_with fail
      clear x0 x1 x2 x3 x4 x5 c0 c1 c2 c3 c4 c5 HEQ
      (with_reducible refine HP.out.mono ?_)
      rintro e w8 ⟨hb8, ⟨Y', a, b, c, d, f, hp', rfl⟩ | ⟨hno, rfl⟩⟩
      · have HB8 := Lib.hid (HB7.out.trans (hb8.mono HB7.out.size))
        have hr' := parsed_right hp'
        have hyb := intAt_bd hp'.2.1
        have htx : ((textV Y' a b c d f).toList == S.toList) = true := by rw [hp'.2.2.2.2.2.2.2]; exact beq_self_eq_true _
        obtain ⟨hyb0, hyb1⟩ := hyb
        have HRR' := Lib.hid hr'
        clear hb8 HB7 HP hp' hr'
        unfold dateV
        generalize (a : Int) = a at *
        generalize (b : Int) = b at *
        generalize (c : Int) = c at *
        generalize (d : Int) = d at *
        generalize (f : Int) = f at *
        have hal := (Below.refl w8.heap.size w8).alloc (Nat.le_refl _) (.cells #[.int .i64 Y', .int .i64 a, .int .i64 b, .int .i64 c, .int .i64 d, .int .i64 f] 23)
        have HB9 := Lib.hid (HB8.out.trans (hal.mono HB8.out.size))
        obtain ⟨x0, x1, x2, x3, x4, x5⟩ := six_cells (heap_alloc_new w8 (.cells #[.int .i64 Y', .int .i64 a, .int .i64 b, .int .i64 c, .int .i64 d, .int .i64 f] 23))
        clear hal HB8
        have HR := rright_calls Y' a b c d f
        have HR := Lib.hid HR
        have C14 := Lib.hid (of22_calls Y' a b c d f)
        have CT := Lib.hid (fun W => text22_calls Y' a b c d f W hyb0 hyb1 HRR'.out)
        go_upto_region 10 with (fail)
        generalize w8.alloc (.cells #[.int .i64 Y', .int .i64 a, .int .i64 b, .int .i64 c, .int .i64 d, .int .i64 f] 23) = w9 at HB9 x0 x1 x2 x3 x4 x5 ⊢
        go_wp2_with fail
        (with_reducible refine (C14.out w9).mono ?_)
        rintro e w10 ⟨rfl, hb10⟩
        have HB10 := Lib.hid (HB9.out.trans (hb10.mono HB9.out.size))
        replace x0 := cell_keep hb10 x0
        replace x1 := cell_keep hb10 x1
        replace x2 := cell_keep hb10 x2
        replace x3 := cell_keep hb10 x3
        replace x4 := cell_keep hb10 x4
        replace x5 := cell_keep hb10 x5
        clear hb10 HB9
        have HR10 := HR.out w10
        rw [HRR'.out] at HR10
        have HR10 := Lib.hid HR10
        go_wp2_with fail
        (with_reducible refine HR10.out.mono ?_)
        rintro e w11 ⟨rfl, hb11⟩
        have HB11 := Lib.hid (HB10.out.trans (hb11.mono HB10.out.size))
        replace x0 := cell_keep hb11 x0
        replace x1 := cell_keep hb11 x1
        replace x2 := cell_keep hb11 x2
        replace x3 := cell_keep hb11 x3
        replace x4 := cell_keep hb11 x4
        replace x5 := cell_keep hb11 x5
        clear hb11 HB10 HR10
        go_wp2_with fail
        (with_reducible refine (C14.out w11).mono ?_)
        rintro e w12 ⟨rfl, hb12⟩
        have HB12 := Lib.hid (HB11.out.trans (hb12.mono HB11.out.size))
        clear hb12 HB11
        go_wp2_with fail
        (with_reducible refine (CT.out w12).mono ?_)
        rintro e w13 ⟨rfl, hb13⟩
        have HB13 := Lib.hid (HB12.out.trans (hb13.mono HB12.out.size))
        clear hb13 HB12
        go_wp2_with fail
        go_ret
        exact ⟨rfl, HB13.out⟩
      · have HB8 := Lib.hid (HB7.out.trans (hb8.mono HB7.out.size))
        clear hb8 HB7 HP hno
        unfold dateV
        have hal := (Below.refl w8.heap.size w8).alloc (Nat.le_refl _) (.cells #[.int .i64 0, .int .i64 0, .int .i64 0, .int .i64 0, .int .i64 0, .int .i64 0] 23)
        have HB9 := Lib.hid (HB8.out.trans (hal.mono HB8.out.size))
        clear hal HB8
        have HEQ0 : ∀ W : World, (binOp .eql 23 (.agg #[.int .i64 0, .int .i64 0, .int .i64 0, .int .i64 0, .int .i64 0, .int .i64 0]) (.agg #[.int .i64 0, .int .i64 0, .int .i64 0, .int .i64 0, .int .i64 0, .int .i64 0])).run Tryd.prog W = .ok (.bool true) W := fun W => eql_date0 W _ _ _ _ _ _
        go_wp2_with fail
        go_ret
        exact ⟨rfl, HB9.out⟩
end Go.Proofs.YtkjglhehlkjfgaaDoor.Hand
