/- The reference's date of a second. -/
import Derived.Test.YtkjglhehlkjfgaaDoorDates
import Derived.Test.YtkjglhehlkjfgaaDoorRefA
import Derived.Test.YtkjglhehlkjfgaaDoorHandF
import Derived.Deep.LoopGhost
set_option linter.unusedVariables false
set_option linter.unusedSimpArgs false
namespace Go.Proofs.YtkjglhehlkjfgaaDoor.Hand
open Go.RowKit Go.Proofs.YtkjglhehlkjfgaaDoor.Civ
theorem first_2000 (R : Int) : first (2000 + 400 * R) 1 = 10957 + 146097 * R := by
  unfold first
  simp only [show (1 : Int) < 3 from by decide, if_true]
  omega
theorem first_400 (y : Int) : first (y + 400) 1 = first y 1 + 146097 := by
  unfold first
  simp only [show (1 : Int) < 3 from by decide, if_true]
  omega
theorem first_years (y : Int) (k : Nat) : first y 1 + 365 * k ≤ first (y + k) 1 := by
  induction k with
  | zero => simp
  | succ k ih =>
    have := first_yearlen (y + k)
    rw [show y + ((k + 1 : Nat) : Int) = y + k + 1 by omega, this]
    split <;> omega
/-- While years are counted. -/
def YearRel (n y0 : Int) (w : World) (m : Nat) (v6 v7 : Value) (wr : World) : Prop :=
  ∃ (left y : Int) (j : Nat), v6 = .int .i64 left ∧ v7 = .int .i64 y ∧ y = y0 + j ∧ j + m = 400 ∧ 0 ≤ left ∧ first y 1 + left = n ∧ w = wr
/-- While months are counted. -/
def MonthRel (n y : Int) (w : World) (b : Nat) (k : Nat) (v6 v9 : Value) (wr : World) : Prop :=
  ∃ (left m : Int), v6 = .int .i64 left ∧ v9 = .int .i64 m ∧ 1 ≤ m ∧ m + k = 12 ∧ 0 ≤ left ∧ left ≤ 366 ∧ first y m + left = n ∧ Below w.heap.size w wr ∧ wr.heap[b]? = some (.cells #[.int .i64 0, .int .i64 0, .int .i64 0, .int .i64 0, .int .i64 0, .int .i64 0] 32 (0, 0))
set_option maxRecDepth 100000 in
set_option maxHeartbeats 4000000 in
theorem rof_calls (sec : Int) (w : World) (h0 : -9223372036854775808 ≤ sec) (h1 : sec ≤ 9223372036854775807) : Calls Tryd.prog 20 #[.int .i64 sec] w (RetB (dateOf sec) w) := by
  obtain ⟨n, hn⟩ : ∃ n, n = sec / 86400 := ⟨_, rfl⟩
  obtain ⟨r, hr⟩ : ∃ r, r = sec % 86400 := ⟨_, rfl⟩
  have hnb : -106751991167301 ≤ n ∧ n ≤ 106751991167300 := by omega
  have hrb : 0 ≤ r ∧ r < 86400 := by omega
  have hcl := heap_alloc_new w (.cells #[.int .i64 0, .int .i64 0, .int .i64 0, .int .i64 0, .int .i64 0, .int .i64 0] 32)
  have hb0 := (Below.refl w.heap.size w).alloc (Nat.le_refl _) (.cells #[.int .i64 0, .int .i64 0, .int .i64 0, .int .i64 0, .int .i64 0, .int .i64 0] 32)
  have HCL := Lib.hid hcl
  have HB0 := Lib.hid hb0
  clear hcl hb0
  have HS := Lib.hid (And.intro hn hr)
  obtain ⟨hn0, hn1⟩ := hnb
  obtain ⟨hr0, hr1⟩ := hrb
  by_cases hneg : sec.tmod 86400 < 0
  · obtain ⟨e1, e2⟩ := floor_down (a := sec) (b := 86400) (by decide) hneg
    have f1 : sec.tdiv 86400 = n + 1 := by omega
    have f2 : sec.tmod 86400 = r - 86400 := by omega
    have d1 : decide (r - 86400 < 0) = true := decide_eq_true (by omega)
    clear e1 e2 hneg hn hr
    go_enter Tryd.func20, Tryd.ntmps20
    go_upto_region 5 with (fail)
    generalize w.alloc (.cells #[.int .i64 0, .int .i64 0, .int .i64 0, .int .i64 0, .int .i64 0, .int .i64 0] 32) = w1 at HCL HB0 ⊢
    clear f1 f2 d1
    go_wp2_with fail
    (with_reducible refine (down_calls (n - 10957) 146097 w1 (by omega) (by omega) (by decide) (by decide)).mono ?_)
    rintro e w2 ⟨rfl, rfl⟩
    obtain ⟨R, hR⟩ : ∃ R, R = (n - 10957) / 146097 := ⟨_, rfl⟩
    obtain ⟨L, hL⟩ : ∃ L, L = (n - 10957) % 146097 := ⟨_, rfl⟩
    have hRb : -730692564 ≤ R ∧ R ≤ 730702404 := by omega
    have hLb : 0 ≤ L ∧ L < 146097 := by omega
    have hfy : first (2000 + 400 * R) 1 + L = n := by rw [first_2000]; omega
    simp only [← hR, ← hL]
    obtain ⟨hL0, hL1⟩ := hLb
    obtain ⟨hR0, hR1⟩ := hRb
    have HFY := Lib.hid hfy
    clear hR hL hfy
    go_upto_region 7 with (fail)
    obtain ⟨y0, hy0⟩ : ∃ y0, y0 = 2000 + 400 * R := ⟨_, rfl⟩
    simp only [← hy0] at HFY ⊢
    have hyb : -293000000000 ≤ y0 ∧ y0 ≤ 293000000000 := by omega
    obtain ⟨hyb0, hyb1⟩ := hyb
    clear hy0
    go_wp2_with fail
    go_loopg [6, 7] 400 (fun m v6 v7 wr => YearRel n y0 w1 m v6 v7 wr)
    case atStart => exact ⟨L, y0, 0, rfl, rfl, by simp, rfl, hL0, HFY.out, rfl⟩
    case round =>
      obtain ⟨left, y, j, rfl, rfl, hyj, hjm, hl0, hfl, rfl⟩ := hrel
      have hj400 : j < 400 := by
        rcases Nat.lt_or_ge j 400 with h | h
        · exact h
        · exfalso
          obtain rfl : j = 400 := by omega
          have h1 := first_400 y0
          have h2 := HFY.out
          rw [show y = y0 + 400 by omega] at hfl
          omega
      have hl2 : left < 146097 := by
        have h1 := first_years y0 j
        have h2 := HFY.out
        rw [← hyj] at h1
        omega
      have HFL := Lib.hid hfl
      have HYJ := Lib.hid hyj
      have hyy : -293000000000 ≤ y ∧ y ≤ 293000000400 := by omega
      obtain ⟨hyy0, hyy1⟩ := hyy
      have HC := Lib.hid (rleap_calls y w1)
      have hlen := first_yearlen y
      clear hfl hyj
      obtain ⟨ln, hln⟩ : ∃ ln : Int, ln = if leap y then 366 else 365 := ⟨_, rfl⟩
      rw [← hln] at hlen
      have hlnb : 365 ≤ ln ∧ ln ≤ 366 := by rw [hln]; split <;> omega
      obtain ⟨hlnb0, hlnb1⟩ := hlnb
      have HLEN := Lib.hid hlen
      clear hlen
      have hstep : ∀ lv : Bool, leap y = lv → True := fun _ _ => trivial
      clear hstep
      cases hlv : leap y
      all_goals
        rw [hlv] at HC hln
        simp only [if_true, if_false, Bool.false_eq_true] at hln
        have HLV := Lib.hid hlv
        subst hln
        clear hlv
      case' false =>
        by_cases hlt : left < 365
        case' neg =>
          have dl : decide (left < 365) = false := decide_eq_false hlt
          go_wp2_with fail
          (with_reducible refine HC.out.mono ?_)
          rintro e w3 ⟨rfl, rfl⟩
          go_wp2_with fail
          go_roundg (gk - 1)
          case rel => exact ⟨_, _, j + 1, rfl, rfl, by have := HYJ.out; omega, by omega, by omega, by have h1 := HFL.out; have h2 := HLEN.out; rw [h2]; omega, rfl⟩
          case measure => omega
        case' pos =>
          have dl : decide (left < 365) = true := decide_eq_true hlt
          have HNX := Lib.hid (show n < first (y + 1) 1 by have h1 := HFL.out; have h2 := HLEN.out; omega)
      case' true =>
        by_cases hlt : left < 366
        case' neg =>
          have dl : decide (left < 366) = false := decide_eq_false hlt
          go_wp2_with fail
          (with_reducible refine HC.out.mono ?_)
          rintro e w3 ⟨rfl, rfl⟩
          go_wp2_with fail
          go_roundg (gk - 1)
          case rel => exact ⟨_, _, j + 1, rfl, rfl, by have := HYJ.out; omega, by omega, by omega, by have h1 := HFL.out; have h2 := HLEN.out; rw [h2]; omega, rfl⟩
          case measure => omega
        case' pos =>
          have dl : decide (left < 366) = true := decide_eq_true hlt
          have HNX := Lib.hid (show n < first (y + 1) 1 by have h1 := HFL.out; have h2 := HLEN.out; omega)
      all_goals
        have hlb : left ≤ 366 := by omega
        clear hlt HLEN HLV HYJ
        go_wp2_with fail
        (with_reducible refine HC.out.mono ?_)
        rintro e w3 ⟨rfl, rfl⟩
        clear HC
        go_wp2_with fail
        clear dl
        obtain ⟨go, hgo⟩ : ∃ go, go = gk := ⟨_, rfl⟩
        subst hgo
        go_loopg [6, 9] 11 (fun k v6 v9 wr => MonthRel n y w w.heap.size k v6 v9 wr)
        case atStart => exact ⟨left, 1, rfl, rfl, by decide, by decide, hl0, hlb, HFL.out, HB0.out, HCL.out⟩
        case round =>
          obtain ⟨lf, mm, rfl, rfl, hm1, hmk, hf0, hf1, hff, hB, hC⟩ := hrel
          have hm12 : mm ≤ 12 := by omega
          have hdp := dpm_pos y mm hm1 hm12
          have HC := Lib.hid (rdays_calls y mm wr)
          have HBW := Lib.hid hB
          have HCW := Lib.hid hC
          have HFF := Lib.hid hff
          obtain ⟨dm, hdm⟩ : ∃ dm, dm = dpm y mm := ⟨_, rfl⟩
          rw [← hdm] at hdp HC
          have HDM := Lib.hid hdm
          clear hB hC hff hdm
          obtain ⟨hdp0, hdp1⟩ := hdp
          by_cases hge : dm ≤ lf
          · have dg : decide (dm ≤ lf) = true := decide_eq_true hge
            have hm11 : mm ≤ 11 := by
              rcases Int.lt_or_le 11 mm with h | h
              · exfalso
                obtain rfl : mm = 12 := by omega
                have h1 := first_year y
                have h2 := HNX.out
                have h3 := HFF.out
                have h4 := HDM.out
                rw [show dpm y 12 = 31 by simp [dpm]] at h4
                omega
              · exact h
            have HNM := Lib.hid (show first y (mm + 1) = first y mm + dm by rw [HDM.out]; exact first_next y mm hm1 hm11)
            go_wp2_with fail
            (with_reducible refine HC.out.mono ?_)
            rintro e w4 ⟨rfl, hb4⟩
            have HB4 := Lib.hid (HBW.out.trans (hb4.mono HBW.out.size))
            have HC4 := Lib.hid ((hb4.block _ (chan_lt HCW.out)).trans HCW.out)
            have hc5 := rdays_calls y mm w4
            rw [← HDM.out] at hc5
            have HC5 := Lib.hid hc5
            clear hb4 hc5 HC HBW HCW
            go_wp2_with fail
            (with_reducible refine HC5.out.mono ?_)
            rintro e w5 ⟨rfl, hb5⟩
            have HB5 := Lib.hid (HB4.out.trans (hb5.mono HB4.out.size))
            have HC6 := Lib.hid ((hb5.block _ (chan_lt HC4.out)).trans HC4.out)
            clear hb5 HC5 HB4 HC4
            go_wp2_with fail
            go_roundg (gk - 1)
            case rel => exact ⟨_, _, rfl, rfl, by omega, by omega, by omega, by omega, by have h1 := HNM.out; have h2 := HFF.out; omega, HB5.out, HC6.out⟩
            case measure => omega
          · have dg : decide (dm ≤ lf) = false := decide_eq_false hge
            have HD := Lib.hid (show IsDate sec y mm (lf + 1) (r / 3600) (r % 3600 / 60) (r % 60) from
              isDate_of ⟨hm1, hm12, by omega, by rw [← HDM.out]; omega⟩ (by unfold dayNo; rw [← HS.out.1]; have := HFF.out; omega) (by rw [← HS.out.2]; omega) (by omega) (by omega) (by omega) (by omega) (by omega) (by omega))
            go_wp2_with fail
            (with_reducible refine HC.out.mono ?_)
            rintro e w4 ⟨rfl, hb4⟩
            have HB4 := Lib.hid (HBW.out.trans (hb4.mono HBW.out.size))
            have HC4 := Lib.hid ((hb4.block _ (chan_lt HCW.out)).trans HCW.out)
            obtain ⟨c0, c1, c2, c3, c4, c5⟩ := six_cells HC4.out
            have cf := blk_frozen HC4.out
            clear hb4 HC HBW HCW
            go_wp2_with fail
            refine bodyPost_ret (results_cell_row rfl _ _ w.heap.size 32 _ (0, 0) _ rfl (six_set HC4.out _ _ _ _ _ _) Tryd.underlying32 rfl (by kernel_rfl)) rfl ?_
            rw [HD.out.date]
            exact ⟨rfl, six_below HB4.out (Nat.le_refl _) _ _ _ _ _ _⟩
  · obtain ⟨e1, e2⟩ := floor_up (a := sec) (b := 86400) (by decide) (by omega)
    have f1 : sec.tdiv 86400 = n := by omega
    have f2 : sec.tmod 86400 = r := by omega
    have d1 : decide (r < 0) = false := decide_eq_false (by omega)
    clear e1 e2 hneg hn hr
    go_enter Tryd.func20, Tryd.ntmps20
    go_upto_region 5 with (fail)
    generalize w.alloc (.cells #[.int .i64 0, .int .i64 0, .int .i64 0, .int .i64 0, .int .i64 0, .int .i64 0] 32) = w1 at HCL HB0 ⊢
    clear f1 f2 d1
    go_wp2_with fail
    (with_reducible refine (down_calls (n - 10957) 146097 w1 (by omega) (by omega) (by decide) (by decide)).mono ?_)
    rintro e w2 ⟨rfl, rfl⟩
    obtain ⟨R, hR⟩ : ∃ R, R = (n - 10957) / 146097 := ⟨_, rfl⟩
    obtain ⟨L, hL⟩ : ∃ L, L = (n - 10957) % 146097 := ⟨_, rfl⟩
    have hRb : -730692564 ≤ R ∧ R ≤ 730702404 := by omega
    have hLb : 0 ≤ L ∧ L < 146097 := by omega
    have hfy : first (2000 + 400 * R) 1 + L = n := by rw [first_2000]; omega
    simp only [← hR, ← hL]
    obtain ⟨hL0, hL1⟩ := hLb
    obtain ⟨hR0, hR1⟩ := hRb
    have HFY := Lib.hid hfy
    clear hR hL hfy
    go_upto_region 7 with (fail)
    obtain ⟨y0, hy0⟩ : ∃ y0, y0 = 2000 + 400 * R := ⟨_, rfl⟩
    simp only [← hy0] at HFY ⊢
    have hyb : -293000000000 ≤ y0 ∧ y0 ≤ 293000000000 := by omega
    obtain ⟨hyb0, hyb1⟩ := hyb
    clear hy0
    go_wp2_with fail
    go_loopg [6, 7] 400 (fun m v6 v7 wr => YearRel n y0 w1 m v6 v7 wr)
    case atStart => exact ⟨L, y0, 0, rfl, rfl, by simp, rfl, hL0, HFY.out, rfl⟩
    case round =>
      obtain ⟨left, y, j, rfl, rfl, hyj, hjm, hl0, hfl, rfl⟩ := hrel
      have hj400 : j < 400 := by
        rcases Nat.lt_or_ge j 400 with h | h
        · exact h
        · exfalso
          obtain rfl : j = 400 := by omega
          have h1 := first_400 y0
          have h2 := HFY.out
          rw [show y = y0 + 400 by omega] at hfl
          omega
      have hl2 : left < 146097 := by
        have h1 := first_years y0 j
        have h2 := HFY.out
        rw [← hyj] at h1
        omega
      have HFL := Lib.hid hfl
      have HYJ := Lib.hid hyj
      have hyy : -293000000000 ≤ y ∧ y ≤ 293000000400 := by omega
      obtain ⟨hyy0, hyy1⟩ := hyy
      have HC := Lib.hid (rleap_calls y w1)
      have hlen := first_yearlen y
      clear hfl hyj
      obtain ⟨ln, hln⟩ : ∃ ln : Int, ln = if leap y then 366 else 365 := ⟨_, rfl⟩
      rw [← hln] at hlen
      have hlnb : 365 ≤ ln ∧ ln ≤ 366 := by rw [hln]; split <;> omega
      obtain ⟨hlnb0, hlnb1⟩ := hlnb
      have HLEN := Lib.hid hlen
      clear hlen
      have hstep : ∀ lv : Bool, leap y = lv → True := fun _ _ => trivial
      clear hstep
      cases hlv : leap y
      all_goals
        rw [hlv] at HC hln
        simp only [if_true, if_false, Bool.false_eq_true] at hln
        have HLV := Lib.hid hlv
        subst hln
        clear hlv
      case' false =>
        by_cases hlt : left < 365
        case' neg =>
          have dl : decide (left < 365) = false := decide_eq_false hlt
          go_wp2_with fail
          (with_reducible refine HC.out.mono ?_)
          rintro e w3 ⟨rfl, rfl⟩
          go_wp2_with fail
          go_roundg (gk - 1)
          case rel => exact ⟨_, _, j + 1, rfl, rfl, by have := HYJ.out; omega, by omega, by omega, by have h1 := HFL.out; have h2 := HLEN.out; rw [h2]; omega, rfl⟩
          case measure => omega
        case' pos =>
          have dl : decide (left < 365) = true := decide_eq_true hlt
          have HNX := Lib.hid (show n < first (y + 1) 1 by have h1 := HFL.out; have h2 := HLEN.out; omega)
      case' true =>
        by_cases hlt : left < 366
        case' neg =>
          have dl : decide (left < 366) = false := decide_eq_false hlt
          go_wp2_with fail
          (with_reducible refine HC.out.mono ?_)
          rintro e w3 ⟨rfl, rfl⟩
          go_wp2_with fail
          go_roundg (gk - 1)
          case rel => exact ⟨_, _, j + 1, rfl, rfl, by have := HYJ.out; omega, by omega, by omega, by have h1 := HFL.out; have h2 := HLEN.out; rw [h2]; omega, rfl⟩
          case measure => omega
        case' pos =>
          have dl : decide (left < 366) = true := decide_eq_true hlt
          have HNX := Lib.hid (show n < first (y + 1) 1 by have h1 := HFL.out; have h2 := HLEN.out; omega)
      all_goals
        have hlb : left ≤ 366 := by omega
        clear hlt HLEN HLV HYJ
        go_wp2_with fail
        (with_reducible refine HC.out.mono ?_)
        rintro e w3 ⟨rfl, rfl⟩
        clear HC
        go_wp2_with fail
        clear dl
        obtain ⟨go, hgo⟩ : ∃ go, go = gk := ⟨_, rfl⟩
        subst hgo
        go_loopg [6, 9] 11 (fun k v6 v9 wr => MonthRel n y w w.heap.size k v6 v9 wr)
        case atStart => exact ⟨left, 1, rfl, rfl, by decide, by decide, hl0, hlb, HFL.out, HB0.out, HCL.out⟩
        case round =>
          obtain ⟨lf, mm, rfl, rfl, hm1, hmk, hf0, hf1, hff, hB, hC⟩ := hrel
          have hm12 : mm ≤ 12 := by omega
          have hdp := dpm_pos y mm hm1 hm12
          have HC := Lib.hid (rdays_calls y mm wr)
          have HBW := Lib.hid hB
          have HCW := Lib.hid hC
          have HFF := Lib.hid hff
          obtain ⟨dm, hdm⟩ : ∃ dm, dm = dpm y mm := ⟨_, rfl⟩
          rw [← hdm] at hdp HC
          have HDM := Lib.hid hdm
          clear hB hC hff hdm
          obtain ⟨hdp0, hdp1⟩ := hdp
          by_cases hge : dm ≤ lf
          · have dg : decide (dm ≤ lf) = true := decide_eq_true hge
            have hm11 : mm ≤ 11 := by
              rcases Int.lt_or_le 11 mm with h | h
              · exfalso
                obtain rfl : mm = 12 := by omega
                have h1 := first_year y
                have h2 := HNX.out
                have h3 := HFF.out
                have h4 := HDM.out
                rw [show dpm y 12 = 31 by simp [dpm]] at h4
                omega
              · exact h
            have HNM := Lib.hid (show first y (mm + 1) = first y mm + dm by rw [HDM.out]; exact first_next y mm hm1 hm11)
            go_wp2_with fail
            (with_reducible refine HC.out.mono ?_)
            rintro e w4 ⟨rfl, hb4⟩
            have HB4 := Lib.hid (HBW.out.trans (hb4.mono HBW.out.size))
            have HC4 := Lib.hid ((hb4.block _ (chan_lt HCW.out)).trans HCW.out)
            have hc5 := rdays_calls y mm w4
            rw [← HDM.out] at hc5
            have HC5 := Lib.hid hc5
            clear hb4 hc5 HC HBW HCW
            go_wp2_with fail
            (with_reducible refine HC5.out.mono ?_)
            rintro e w5 ⟨rfl, hb5⟩
            have HB5 := Lib.hid (HB4.out.trans (hb5.mono HB4.out.size))
            have HC6 := Lib.hid ((hb5.block _ (chan_lt HC4.out)).trans HC4.out)
            clear hb5 HC5 HB4 HC4
            go_wp2_with fail
            go_roundg (gk - 1)
            case rel => exact ⟨_, _, rfl, rfl, by omega, by omega, by omega, by omega, by have h1 := HNM.out; have h2 := HFF.out; omega, HB5.out, HC6.out⟩
            case measure => omega
          · have dg : decide (dm ≤ lf) = false := decide_eq_false hge
            have HD := Lib.hid (show IsDate sec y mm (lf + 1) (r / 3600) (r % 3600 / 60) (r % 60) from
              isDate_of ⟨hm1, hm12, by omega, by rw [← HDM.out]; omega⟩ (by unfold dayNo; rw [← HS.out.1]; have := HFF.out; omega) (by rw [← HS.out.2]; omega) (by omega) (by omega) (by omega) (by omega) (by omega) (by omega))
            go_wp2_with fail
            (with_reducible refine HC.out.mono ?_)
            rintro e w4 ⟨rfl, hb4⟩
            have HB4 := Lib.hid (HBW.out.trans (hb4.mono HBW.out.size))
            have HC4 := Lib.hid ((hb4.block _ (chan_lt HCW.out)).trans HCW.out)
            obtain ⟨c0, c1, c2, c3, c4, c5⟩ := six_cells HC4.out
            have cf := blk_frozen HC4.out
            clear hb4 HC HBW HCW
            go_wp2_with fail
            refine bodyPost_ret (results_cell_row rfl _ _ w.heap.size 32 _ (0, 0) _ rfl (six_set HC4.out _ _ _ _ _ _) Tryd.underlying32 rfl (by kernel_rfl)) rfl ?_
            rw [HD.out.date]
            exact ⟨rfl, six_below HB4.out (Nat.le_refl _) _ _ _ _ _ _⟩
end Go.Proofs.YtkjglhehlkjfgaaDoor.Hand
