/- CivilNext: its walk. -/
import Derived.Test.YtkjglhehlkjfgaaDoorAlive
set_option linter.unusedVariables false
set_option linter.unusedSimpArgs false
namespace Go.Proofs.YtkjglhehlkjfgaaDoor.Hand
open Go.RowKit Go.Proofs.YtkjglhehlkjfgaaDoor.Civ
/-- The date of a second, piece by piece. -/
structure IsDate (sec Y M D h m s : Int) : Prop where
  date : dateOf sec = .agg #[.int .i64 Y, .int .i64 M, .int .i64 D, .int .i64 h, .int .i64 m, .int .i64 s]
  r3 : Right3 Y M D
  day : dayNo Y M D = sec / 86400
  rest : h * 3600 + m * 60 + s = sec % 86400
  h0 : 0 ≤ h
  h1 : h < 24
  m0 : 0 ≤ m
  m1 : m < 60
  s0 : 0 ≤ s
  s1 : s < 60
theorem isDate (sec : Int) : ∃ Y M D h m s, IsDate sec Y M D h m s := by
  have := of_day (sec / 86400)
  refine ⟨ofY (sec / 86400), ofM (sec / 86400), ofD (sec / 86400), sec % 86400 / 3600, sec % 86400 / 60 % 60, sec % 86400 % 60, rfl, this.1, this.2, ?_, ?_, ?_, ?_, ?_, ?_, ?_⟩ <;> omega
/-- What has a second's day and rest is its date. -/
theorem isDate_of {sec Y M D h m s : Int} (r3 : Right3 Y M D) (hd : dayNo Y M D = sec / 86400) (hr : h * 3600 + m * 60 + s = sec % 86400) (h0 : 0 ≤ h) (h1 : h < 24) (m0 : 0 ≤ m) (m1 : m < 60) (s0 : 0 ≤ s) (s1 : s < 60) : IsDate sec Y M D h m s := by
  obtain ⟨k1, k2⟩ := of_day (sec / 86400)
  obtain ⟨e1, e2, e3⟩ := day_inj r3 k1 (hd.trans k2.symm)
  refine ⟨?_, r3, hd, hr, h0, h1, m0, m1, s0, s1⟩
  unfold dateOf dateV
  rw [← e1, ← e2, ← e3, ← hr]
  congr 1
  rw [show (h * 3600 + m * 60 + s) / 3600 = h by omega, show (h * 3600 + m * 60 + s) / 60 % 60 = m by omega, show (h * 3600 + m * 60 + s) % 60 = s by omega]
theorem IsDate.right {sec Y M D h m s : Int} (hd : IsDate sec Y M D h m s) : rightB Y M D h m s = true := (rightB_iff ..).2 ⟨hd.r3, hd.h0, hd.h1, hd.m0, hd.m1, hd.s0, hd.s1⟩
theorem IsDate.total {sec Y M D h m s : Int} (hd : IsDate sec Y M D h m s) : totalS Y M D h m s = sec := by
  unfold totalS
  rw [hd.day, hd.rest]
  omega
theorem IsDate.sec {sec Y M D h m s : Int} (hd : IsDate sec Y M D h m s) (h0 : -9223372036854775808 ≤ sec) (h1 : sec ≤ 9223372036854775807) : secV Y M D h m s = .tuple #[.int .i64 sec, .int .u8 0] := by
  unfold secV
  rw [if_neg (by simp [hd.right]), hd.total, if_pos ⟨h0, h1⟩]
theorem IsDate.year {sec Y M D h m s : Int} (hd : IsDate sec Y M D h m s) (h0 : -9223372036854775808 ≤ sec) (h1 : sec ≤ 9223372036854775807) : -292277026597 ≤ Y ∧ Y ≤ 292277026597 := by
  have h2 := hd.day
  have hf := first_bd (Y := Y) hd.r3.1 hd.r3.2.1
  have h3 := hd.r3.2.2.1
  have h4 := hd.r3.2.2.2
  have h5 := dpm_pos Y M hd.r3.1 hd.r3.2.1
  unfold dayNo at h2
  have : -106751991167301 ≤ sec / 86400 ∧ sec / 86400 ≤ 106751991167300 := by omega
  generalize sec / 86400 = n at h2 this
  constructor <;> omega
theorem next_month {Y M : Int} (h1 : 1 ≤ M) (h2 : M ≤ 11) : dayNo Y (M + 1) 1 = dayNo Y M (dpm Y M) + 1 := by
  unfold dayNo
  rw [first_next Y M h1 h2]
  omega
theorem next_year (Y : Int) : dayNo (Y + 1) 1 1 = dayNo Y 12 (dpm Y 12) + 1 := by
  unfold dayNo
  rw [first_year Y, show dpm Y 12 = 31 by simp [dpm]]
  omega
theorem next_month2 {Y M D : Int} (h1 : 1 ≤ M) (h2 : M ≤ 11) (hD : D = dpm Y M) : dayNo Y (M + 1) 1 = dayNo Y M D + 1 := by subst hD; exact next_month h1 h2
theorem next_year2 {Y M D : Int} (hM : M = 12) (hD : D = dpm Y M) : dayNo (Y + 1) 1 1 = dayNo Y M D + 1 := by subst hM hD; exact next_year Y
theorem next_S (w : World) (b : Nat) (sec : Int) {Y M D h m s : Int} (hd : IsDate sec Y M D h m s) (h0 : -9223372036854775808 ≤ sec) (h1 : sec ≤ 9223372036854775807) {v0 v1 v2 v3 v4 v5 : Value} (W : World)
    (hS : Hid (Below w.heap.size w W) ∧ W.cell? ⟨b, 0, none⟩ = some v0 ∧ W.cell? ⟨b, 1, none⟩ = some v1 ∧ W.cell? ⟨b, 2, none⟩ = some v2 ∧ W.cell? ⟨b, 3, none⟩ = some v3 ∧ W.cell? ⟨b, 4, none⟩ = some v4 ∧ W.cell? ⟨b, 5, none⟩ = some v5) :
    Calls Tryd.prog 19 #[.int .i64 sec] W fun e W' => e = .returned (.agg #[.int .i64 Y, .int .i64 M, .int .i64 D, .int .i64 h, .int .i64 m, .int .i64 s]) ∧ Hid (Below w.heap.size w W') ∧ W'.cell? ⟨b, 0, none⟩ = some v0 ∧ W'.cell? ⟨b, 1, none⟩ = some v1 ∧ W'.cell? ⟨b, 2, none⟩ = some v2 ∧ W'.cell? ⟨b, 3, none⟩ = some v3 ∧ W'.cell? ⟨b, 4, none⟩ = some v4 ∧ W'.cell? ⟨b, 5, none⟩ = some v5 := by
  obtain ⟨hv, c0, c1, c2, c3, c4, c5⟩ := hS
  refine (of_calls sec W h0 h1).mono ?_
  rintro e W' ⟨rfl, hb⟩
  rw [hd.date]
  exact ⟨rfl, Lib.hid (hv.out.trans (hb.mono hv.out.size)), cell_keep hb c0, cell_keep hb c1, cell_keep hb c2, cell_keep hb c3, cell_keep hb c4, cell_keep hb c5⟩
theorem eql_date (W : World) (Y M D h m s : Int) : (binOp .eql 23 (.agg #[.int .i64 Y, .int .i64 M, .int .i64 D, .int .i64 h, .int .i64 m, .int .i64 s]) (.agg #[.int .i64 Y, .int .i64 M, .int .i64 D, .int .i64 h, .int .i64 m, .int .i64 s])).run Tryd.prog W = .ok (.bool true) W := by
  simp [go_sem, Tryd.underlying23, Tryd.underlying2]
set_option maxRecDepth 100000 in
set_option maxHeartbeats 4000000 in
theorem civilNext_calls (w : World) (hV : VW w) (sec : Int) (hw : (Lit.int .i64 sec).wf = true) : Calls Tryd.prog 5 #[.int .i64 sec] w (RetB (.bool true) w) := by
  have hb : -9223372036854775808 ≤ sec ∧ sec ≤ 9223372036854775807 := by
    simp [Lit.wf, IntKind.min, IntKind.max, IntKind.signed, IntKind.bits] at hw
    omega
  obtain ⟨Y, M, D, h, m, s, hd⟩ := isDate sec
  obtain ⟨hY0, hY1⟩ := hd.year hb.1 hb.2
  have hdp := dpm_pos Y M hd.r3.1 hd.r3.2.1
  have hD := hd.r3.2.2.2
  have HD := Lib.hid hd
  have HV := Lib.hid hV
  have HB := Lib.hid hb
  obtain ⟨hb0, hb1⟩ := hb
  have HA := Lib.hid (alive_calls w hV)
  clear hd hV hw
  go_enter Tryd.func5, Tryd.ntmps5
  go_wp2_with fail
  (with_reducible refine HA.out.mono ?_)
  rintro e w1 ⟨rfl, hb1⟩
  have HB1 := Lib.hid hb1
  clear hb1 HA
  have ho := of_calls sec w1 HB.out.1 HB.out.2
  rw [HD.out.date] at ho
  have HO := Lib.hid ho
  clear ho
  go_wp2_with fail
  (with_reducible refine HO.out.mono ?_)
  rintro e w2 ⟨rfl, hb2⟩
  have HB2 := Lib.hid ((HB1.out.trans (hb2.mono HB1.out.size)).trans ((Below.refl w2.heap.size w2).alloc (Nat.le_refl _) (.cells #[.int .i64 Y, .int .i64 M, .int .i64 D, .int .i64 h, .int .i64 m, .int .i64 s] 23) |>.mono (HB1.out.trans (hb2.mono HB1.out.size)).size))
  have hs := seconds_calls Y M D h m s (w2.alloc (.cells #[.int .i64 Y, .int .i64 M, .int .i64 D, .int .i64 h, .int .i64 m, .int .i64 s] 23)) (by omega) (by omega)
  rw [HD.out.sec HB.out.1 HB.out.2] at hs
  have HS := Lib.hid hs
  clear hs HO HB1 hb2
  go_wp2_with fail
  (with_reducible refine HS.out.mono ?_)
  rintro e w3 ⟨rfl, hb3⟩
  have HB3 := Lib.hid (HB2.out.trans (hb3.mono HB2.out.size))
  obtain ⟨c0, c1, c2, c3, c4, c5⟩ := box_cells hb3
  clear HS HB2 hb3
  by_cases hmax : sec = 9223372036854775807
  · subst hmax
    go_wp2_with fail
    go_ret
    exact ⟨rfl, HB3.out⟩
  · have dmax : (sec == 9223372036854775807) = false := by simpa using hmax
    obtain ⟨q1, q2, q3, q4, q5, q6, q7, q8, q9, q10⟩ := HD.out
    have q2' := q2
    obtain ⟨p1, p2, p3, p4⟩ := q2
    have hb0' : -9223372036854775808 ≤ sec + 1 := by omega
    have hb1' : sec + 1 ≤ 9223372036854775807 := by omega
    have hs9 : (sec + 1) / 86400 = sec / 86400 + (if sec % 86400 = 86399 then 1 else 0) ∧ (sec + 1) % 86400 = (if sec % 86400 = 86399 then 0 else sec % 86400 + 1) := by split <;> omega
    obtain ⟨hn, hr⟩ := hs9
    clear q1
    have Q4 := q4
    have Q3 := q3
    have HQ := Lib.hid (And.intro q3 (And.intro q4 (And.intro hn hr)))
    clear q3 q4 Q3 Q4 hn hr
    by_cases t1 : s + 1 = 60
    · by_cases t2 : m + 1 = 60
      · by_cases t3 : h + 1 = 24
        · by_cases t4 : D + 1 ≤ dpm Y M
          · have HX := Lib.hid (show IsDate (sec + 1) Y M (D + 1) 0 0 0 by
              obtain ⟨u1, u2, u3, u4⟩ := HQ.out
              exact isDate_of ⟨p1, p2, by omega, by omega⟩ (by rw [u3, if_pos (by omega), ← u1]; unfold dayNo; omega) (by rw [u4, if_pos (by omega)]; rfl) (by omega) (by omega) (by omega) (by omega) (by omega) (by omega))
            have f1 : (s + 1 == 60) = true := by simp only [beq_iff_eq]; omega
            have f2 : (m + 1 == 60) = true := by simp only [beq_iff_eq]; omega
            have f3 : (h + 1 == 24) = true := by simp only [beq_iff_eq]; omega
            have dm : decide (dpm Y M < D + 1) = false := decide_eq_false (by omega)
            have dm' : ¬ dpm Y M < D + 1 := by omega
            have fM : (M == 13) = false := by simp only [beq_eq_false_iff_ne, ne_eq]; omega
            go_upto_region 20 with (fail)
            have hh := heap_alloc_new w3 (.cells #[.int .i64 Y, .int .i64 M, .int .i64 (D + 1), .int .i64 0, .int .i64 0, .int .i64 0] 23)
            have hbb := HB3.out.trans ((Below.refl w3.heap.size w3).alloc (Nat.le_refl _) (.cells #[.int .i64 Y, .int .i64 M, .int .i64 (D + 1), .int .i64 0, .int .i64 0, .int .i64 0] 23) |>.mono HB3.out.size)
            have hle := HB3.out.size
            generalize w3.alloc (.cells #[.int .i64 Y, .int .i64 M, .int .i64 (D + 1), .int .i64 0, .int .i64 0, .int .i64 0] 23) = w4 at hh hbb ⊢
            generalize w3.heap.size = b at hh hle ⊢
            obtain ⟨e0, e1, e2, e3, e4, e5⟩ := six_cells hh
            have ef := blk_frozen hh
            have HH := Lib.hid hh
            have HBB := Lib.hid hbb
            clear hh hbb HB3 c0 c1 c2 c3 c4 c5
            go_wp2_with fail
            go_quiet ((go_at_call 11; exact quiet_left (days_calls _ _ _)))
            go_upto_region 26 with (fail)
            have hh : (w4.drewN nq).heap[b]? = some (.cells #[.int .i64 Y, .int .i64 M, .int .i64 (D + 1), .int .i64 0, .int .i64 0, .int .i64 0] 23 (0, 0)) := HH.out
            have hbb : Below w.heap.size w (w4.drewN nq) := HBB.out.trans ⟨rfl, rfl, rfl, Nat.le_refl _, fun _ _ => rfl⟩
            generalize w4.drewN nq = w5 at hh hbb ⊢
            clear HBB HH e0 e1 e2 e3 e4 e5 ef
            have hbd : Below w5.heap.size w5 w5.drew := ⟨rfl, rfl, rfl, Nat.le_refl _, fun _ _ => rfl⟩
            have hho := hh
            obtain ⟨e0, e1, e2, e3, e4, e5⟩ := six_cells hh
            have hSd := And.intro (Lib.hid (hbb.trans (hbd.mono hbb.size))) (And.intro (cell_keep hbd e0) (And.intro (cell_keep hbd e1) (And.intro (cell_keep hbd e2) (And.intro (cell_keep hbd e3) (And.intro (cell_keep hbd e4) (cell_keep hbd e5))))))
            have HOF := Lib.hid (next_S (v0 := .int .i64 Y) (v1 := .int .i64 M) (v2 := .int .i64 (D + 1)) (v3 := .int .i64 0) (v4 := .int .i64 0) (v5 := .int .i64 0) w b (sec + 1) HX.out hb0' hb1')
            have HEQ : ∀ W : World, (binOp .eql 23 (.agg #[.int .i64 Y, .int .i64 M, .int .i64 (D + 1), .int .i64 0, .int .i64 0, .int .i64 0]) (.agg #[.int .i64 Y, .int .i64 M, .int .i64 (D + 1), .int .i64 0, .int .i64 0, .int .i64 0])).run Tryd.prog W = .ok (.bool true) W := fun W => eql_date W _ _ _ _ _ _
            clear hbd hho hh hbb e0 e1 e2 e3 e4 e5 HX
            have hwr : IntKind.i64.wrap (sec + 1) = sec + 1 := IntWalk.i64_in _ (by omega)
            go_region_held3 (fun W : World => Hid (Below w.heap.size w W) ∧ W.cell? ⟨b, 0, none⟩ = some (.int .i64 Y) ∧ W.cell? ⟨b, 1, none⟩ = some (.int .i64 M) ∧ W.cell? ⟨b, 2, none⟩ = some (.int .i64 (D + 1)) ∧ W.cell? ⟨b, 3, none⟩ = some (.int .i64 0) ∧ W.cell? ⟨b, 4, none⟩ = some (.int .i64 0) ∧ W.cell? ⟨b, 5, none⟩ = some (.int .i64 0)) (first | exact hSd | assumption) (first | (go_at_call 19; (with_reducible refine (HOF.out _ (by assumption)).mono ?_); rintro e w6 ⟨rfl, hS6⟩))
            go_wp2_with fail
            go_ret
            exact ⟨rfl, hS6.1.out⟩
          · by_cases t5 : M + 1 = 13
            · have HX := Lib.hid (show IsDate (sec + 1) (Y + 1) 1 1 0 0 0 by
                obtain ⟨u1, u2, u3, u4⟩ := HQ.out
                exact isDate_of ⟨by omega, by omega, by omega, by have := dpm_pos (Y + 1) 1 (by omega) (by omega); omega⟩ (by rw [u3, if_pos (by omega), ← u1]; exact next_year2 (by omega) (by omega)) (by rw [u4, if_pos (by omega)]; rfl) (by omega) (by omega) (by omega) (by omega) (by omega) (by omega))
              have f1 : (s + 1 == 60) = true := by simp only [beq_iff_eq]; omega
              have f2 : (m + 1 == 60) = true := by simp only [beq_iff_eq]; omega
              have f3 : (h + 1 == 24) = true := by simp only [beq_iff_eq]; omega
              have dm : decide (dpm Y M < D + 1) = true := decide_eq_true (by omega)
              have dm' : dpm Y M < D + 1 := by omega
              have fM : (M + 1 == 13) = true := by simp only [beq_iff_eq]; omega
              go_upto_region 20 with (fail)
              have hh := heap_alloc_new w3 (.cells #[.int .i64 Y, .int .i64 M, .int .i64 (D + 1), .int .i64 0, .int .i64 0, .int .i64 0] 23)
              have hbb := HB3.out.trans ((Below.refl w3.heap.size w3).alloc (Nat.le_refl _) (.cells #[.int .i64 Y, .int .i64 M, .int .i64 (D + 1), .int .i64 0, .int .i64 0, .int .i64 0] 23) |>.mono HB3.out.size)
              have hle := HB3.out.size
              generalize w3.alloc (.cells #[.int .i64 Y, .int .i64 M, .int .i64 (D + 1), .int .i64 0, .int .i64 0, .int .i64 0] 23) = w4 at hh hbb ⊢
              generalize w3.heap.size = b at hh hle ⊢
              obtain ⟨e0, e1, e2, e3, e4, e5⟩ := six_cells hh
              have ef := blk_frozen hh
              have HH := Lib.hid hh
              have HBB := Lib.hid hbb
              clear hh hbb HB3 c0 c1 c2 c3 c4 c5
              go_wp2_with fail
              go_quiet ((go_at_call 11; exact quiet_left (days_calls _ _ _)))
              go_upto_region 26 with (fail)
              have hh : (w4.drewN nq).heap[b]? = some (.cells #[.int .i64 Y, .int .i64 M, .int .i64 (D + 1), .int .i64 0, .int .i64 0, .int .i64 0] 23 (0, 0)) := HH.out
              have hbb : Below w.heap.size w (w4.drewN nq) := HBB.out.trans ⟨rfl, rfl, rfl, Nat.le_refl _, fun _ _ => rfl⟩
              replace hh := Go.Joins.block_setCell (i := 2) hh (.int .i64 1)
              replace hbb := hbb.setCell (p := ⟨b, 2, none⟩) hle (.int .i64 1)
              replace hh := Go.Joins.block_setCell (i := 1) hh (.int .i64 13)
              replace hbb := hbb.setCell (p := ⟨b, 1, none⟩) hle (.int .i64 13)
              replace hh := Go.Joins.block_setCell (i := 1) hh (.int .i64 1)
              replace hbb := hbb.setCell (p := ⟨b, 1, none⟩) hle (.int .i64 1)
              replace hh := Go.Joins.block_setCell (i := 0) hh (.int .i64 (Y + 1))
              replace hbb := hbb.setCell (p := ⟨b, 0, none⟩) hle (.int .i64 (Y + 1))
              replace hh : (((((w4.drewN nq).setCell ⟨b, 2, none⟩ (.int .i64 1)).setCell ⟨b, 1, none⟩ (.int .i64 13)).setCell ⟨b, 1, none⟩ (.int .i64 1)).setCell ⟨b, 0, none⟩ (.int .i64 (Y + 1))).heap[b]? = some (.cells #[.int .i64 (Y + 1), .int .i64 1, .int .i64 1, .int .i64 0, .int .i64 0, .int .i64 0] 23 (0, 0)) := hh
              generalize ((((w4.drewN nq).setCell ⟨b, 2, none⟩ (.int .i64 1)).setCell ⟨b, 1, none⟩ (.int .i64 13)).setCell ⟨b, 1, none⟩ (.int .i64 1)).setCell ⟨b, 0, none⟩ (.int .i64 (Y + 1)) = w5 at hh hbb ⊢
              clear HBB HH e0 e1 e2 e3 e4 e5 ef
              have hbd : Below w5.heap.size w5 w5.drew := ⟨rfl, rfl, rfl, Nat.le_refl _, fun _ _ => rfl⟩
              have hho := hh
              obtain ⟨e0, e1, e2, e3, e4, e5⟩ := six_cells hh
              have hSd := And.intro (Lib.hid (hbb.trans (hbd.mono hbb.size))) (And.intro (cell_keep hbd e0) (And.intro (cell_keep hbd e1) (And.intro (cell_keep hbd e2) (And.intro (cell_keep hbd e3) (And.intro (cell_keep hbd e4) (cell_keep hbd e5))))))
              have HOF := Lib.hid (next_S (v0 := .int .i64 (Y + 1)) (v1 := .int .i64 1) (v2 := .int .i64 1) (v3 := .int .i64 0) (v4 := .int .i64 0) (v5 := .int .i64 0) w b (sec + 1) HX.out hb0' hb1')
              have HEQ : ∀ W : World, (binOp .eql 23 (.agg #[.int .i64 (Y + 1), .int .i64 1, .int .i64 1, .int .i64 0, .int .i64 0, .int .i64 0]) (.agg #[.int .i64 (Y + 1), .int .i64 1, .int .i64 1, .int .i64 0, .int .i64 0, .int .i64 0])).run Tryd.prog W = .ok (.bool true) W := fun W => eql_date W _ _ _ _ _ _
              clear hbd hho hh hbb e0 e1 e2 e3 e4 e5 HX
              have hwr : IntKind.i64.wrap (sec + 1) = sec + 1 := IntWalk.i64_in _ (by omega)
              go_region_held3 (fun W : World => Hid (Below w.heap.size w W) ∧ W.cell? ⟨b, 0, none⟩ = some (.int .i64 (Y + 1)) ∧ W.cell? ⟨b, 1, none⟩ = some (.int .i64 1) ∧ W.cell? ⟨b, 2, none⟩ = some (.int .i64 1) ∧ W.cell? ⟨b, 3, none⟩ = some (.int .i64 0) ∧ W.cell? ⟨b, 4, none⟩ = some (.int .i64 0) ∧ W.cell? ⟨b, 5, none⟩ = some (.int .i64 0)) (first | exact hSd | assumption) (first | (go_at_call 19; (with_reducible refine (HOF.out _ (by assumption)).mono ?_); rintro e w6 ⟨rfl, hS6⟩))
              go_wp2_with fail
              go_ret
              exact ⟨rfl, hS6.1.out⟩
            · have HX := Lib.hid (show IsDate (sec + 1) Y (M + 1) 1 0 0 0 by
                obtain ⟨u1, u2, u3, u4⟩ := HQ.out
                exact isDate_of ⟨by omega, by omega, by omega, by have := dpm_pos Y (M + 1) (by omega) (by omega); omega⟩ (by rw [u3, if_pos (by omega), ← u1]; exact next_month2 p1 (by omega) (by omega)) (by rw [u4, if_pos (by omega)]; rfl) (by omega) (by omega) (by omega) (by omega) (by omega) (by omega))
              have f1 : (s + 1 == 60) = true := by simp only [beq_iff_eq]; omega
              have f2 : (m + 1 == 60) = true := by simp only [beq_iff_eq]; omega
              have f3 : (h + 1 == 24) = true := by simp only [beq_iff_eq]; omega
              have dm : decide (dpm Y M < D + 1) = true := decide_eq_true (by omega)
              have dm' : dpm Y M < D + 1 := by omega
              have fM : (M + 1 == 13) = false := by simp only [beq_eq_false_iff_ne, ne_eq]; omega
              go_upto_region 20 with (fail)
              have hh := heap_alloc_new w3 (.cells #[.int .i64 Y, .int .i64 M, .int .i64 (D + 1), .int .i64 0, .int .i64 0, .int .i64 0] 23)
              have hbb := HB3.out.trans ((Below.refl w3.heap.size w3).alloc (Nat.le_refl _) (.cells #[.int .i64 Y, .int .i64 M, .int .i64 (D + 1), .int .i64 0, .int .i64 0, .int .i64 0] 23) |>.mono HB3.out.size)
              have hle := HB3.out.size
              generalize w3.alloc (.cells #[.int .i64 Y, .int .i64 M, .int .i64 (D + 1), .int .i64 0, .int .i64 0, .int .i64 0] 23) = w4 at hh hbb ⊢
              generalize w3.heap.size = b at hh hle ⊢
              obtain ⟨e0, e1, e2, e3, e4, e5⟩ := six_cells hh
              have ef := blk_frozen hh
              have HH := Lib.hid hh
              have HBB := Lib.hid hbb
              clear hh hbb HB3 c0 c1 c2 c3 c4 c5
              go_wp2_with fail
              go_quiet ((go_at_call 11; exact quiet_left (days_calls _ _ _)))
              go_upto_region 26 with (fail)
              have hh : (w4.drewN nq).heap[b]? = some (.cells #[.int .i64 Y, .int .i64 M, .int .i64 (D + 1), .int .i64 0, .int .i64 0, .int .i64 0] 23 (0, 0)) := HH.out
              have hbb : Below w.heap.size w (w4.drewN nq) := HBB.out.trans ⟨rfl, rfl, rfl, Nat.le_refl _, fun _ _ => rfl⟩
              replace hh := Go.Joins.block_setCell (i := 2) hh (.int .i64 1)
              replace hbb := hbb.setCell (p := ⟨b, 2, none⟩) hle (.int .i64 1)
              replace hh := Go.Joins.block_setCell (i := 1) hh (.int .i64 (M + 1))
              replace hbb := hbb.setCell (p := ⟨b, 1, none⟩) hle (.int .i64 (M + 1))
              replace hh : (((w4.drewN nq).setCell ⟨b, 2, none⟩ (.int .i64 1)).setCell ⟨b, 1, none⟩ (.int .i64 (M + 1))).heap[b]? = some (.cells #[.int .i64 Y, .int .i64 (M + 1), .int .i64 1, .int .i64 0, .int .i64 0, .int .i64 0] 23 (0, 0)) := hh
              generalize ((w4.drewN nq).setCell ⟨b, 2, none⟩ (.int .i64 1)).setCell ⟨b, 1, none⟩ (.int .i64 (M + 1)) = w5 at hh hbb ⊢
              clear HBB HH e0 e1 e2 e3 e4 e5 ef
              have hbd : Below w5.heap.size w5 w5.drew := ⟨rfl, rfl, rfl, Nat.le_refl _, fun _ _ => rfl⟩
              have hho := hh
              obtain ⟨e0, e1, e2, e3, e4, e5⟩ := six_cells hh
              have hSd := And.intro (Lib.hid (hbb.trans (hbd.mono hbb.size))) (And.intro (cell_keep hbd e0) (And.intro (cell_keep hbd e1) (And.intro (cell_keep hbd e2) (And.intro (cell_keep hbd e3) (And.intro (cell_keep hbd e4) (cell_keep hbd e5))))))
              have HOF := Lib.hid (next_S (v0 := .int .i64 Y) (v1 := .int .i64 (M + 1)) (v2 := .int .i64 1) (v3 := .int .i64 0) (v4 := .int .i64 0) (v5 := .int .i64 0) w b (sec + 1) HX.out hb0' hb1')
              have HEQ : ∀ W : World, (binOp .eql 23 (.agg #[.int .i64 Y, .int .i64 (M + 1), .int .i64 1, .int .i64 0, .int .i64 0, .int .i64 0]) (.agg #[.int .i64 Y, .int .i64 (M + 1), .int .i64 1, .int .i64 0, .int .i64 0, .int .i64 0])).run Tryd.prog W = .ok (.bool true) W := fun W => eql_date W _ _ _ _ _ _
              clear hbd hho hh hbb e0 e1 e2 e3 e4 e5 HX
              have hwr : IntKind.i64.wrap (sec + 1) = sec + 1 := IntWalk.i64_in _ (by omega)
              go_region_held3 (fun W : World => Hid (Below w.heap.size w W) ∧ W.cell? ⟨b, 0, none⟩ = some (.int .i64 Y) ∧ W.cell? ⟨b, 1, none⟩ = some (.int .i64 (M + 1)) ∧ W.cell? ⟨b, 2, none⟩ = some (.int .i64 1) ∧ W.cell? ⟨b, 3, none⟩ = some (.int .i64 0) ∧ W.cell? ⟨b, 4, none⟩ = some (.int .i64 0) ∧ W.cell? ⟨b, 5, none⟩ = some (.int .i64 0)) (first | exact hSd | assumption) (first | (go_at_call 19; (with_reducible refine (HOF.out _ (by assumption)).mono ?_); rintro e w6 ⟨rfl, hS6⟩))
              go_wp2_with fail
              go_ret
              exact ⟨rfl, hS6.1.out⟩
        · have HX := Lib.hid (show IsDate (sec + 1) Y M D (h + 1) 0 0 by
            obtain ⟨u1, u2, u3, u4⟩ := HQ.out
            exact isDate_of q2' (by rw [u3, if_neg (by omega)]; omega) (by rw [u4, if_neg (by omega)]; omega) (by omega) (by omega) (by omega) (by omega) (by omega) (by omega))
          have f1 : (s + 1 == 60) = true := by simp only [beq_iff_eq]; omega
          have f2 : (m + 1 == 60) = true := by simp only [beq_iff_eq]; omega
          have f3 : (h + 1 == 24) = false := by simp only [beq_eq_false_iff_ne, ne_eq]; omega
          have dm : decide (dpm Y M < D) = false := decide_eq_false (by omega)
          have dm' : ¬ dpm Y M < D := by omega
          have fM : (M == 13) = false := by simp only [beq_eq_false_iff_ne, ne_eq]; omega
          go_upto_region 20 with (fail)
          have hh := heap_alloc_new w3 (.cells #[.int .i64 Y, .int .i64 M, .int .i64 D, .int .i64 (h + 1), .int .i64 0, .int .i64 0] 23)
          have hbb := HB3.out.trans ((Below.refl w3.heap.size w3).alloc (Nat.le_refl _) (.cells #[.int .i64 Y, .int .i64 M, .int .i64 D, .int .i64 (h + 1), .int .i64 0, .int .i64 0] 23) |>.mono HB3.out.size)
          have hle := HB3.out.size
          generalize w3.alloc (.cells #[.int .i64 Y, .int .i64 M, .int .i64 D, .int .i64 (h + 1), .int .i64 0, .int .i64 0] 23) = w4 at hh hbb ⊢
          generalize w3.heap.size = b at hh hle ⊢
          obtain ⟨e0, e1, e2, e3, e4, e5⟩ := six_cells hh
          have ef := blk_frozen hh
          have HH := Lib.hid hh
          have HBB := Lib.hid hbb
          clear hh hbb HB3 c0 c1 c2 c3 c4 c5
          go_wp2_with fail
          go_quiet ((go_at_call 11; exact quiet_left (days_calls _ _ _)))
          go_upto_region 26 with (fail)
          have hh : (w4.drewN nq).heap[b]? = some (.cells #[.int .i64 Y, .int .i64 M, .int .i64 D, .int .i64 (h + 1), .int .i64 0, .int .i64 0] 23 (0, 0)) := HH.out
          have hbb : Below w.heap.size w (w4.drewN nq) := HBB.out.trans ⟨rfl, rfl, rfl, Nat.le_refl _, fun _ _ => rfl⟩
          generalize w4.drewN nq = w5 at hh hbb ⊢
          clear HBB HH e0 e1 e2 e3 e4 e5 ef
          have hbd : Below w5.heap.size w5 w5.drew := ⟨rfl, rfl, rfl, Nat.le_refl _, fun _ _ => rfl⟩
          have hho := hh
          obtain ⟨e0, e1, e2, e3, e4, e5⟩ := six_cells hh
          have hSd := And.intro (Lib.hid (hbb.trans (hbd.mono hbb.size))) (And.intro (cell_keep hbd e0) (And.intro (cell_keep hbd e1) (And.intro (cell_keep hbd e2) (And.intro (cell_keep hbd e3) (And.intro (cell_keep hbd e4) (cell_keep hbd e5))))))
          have HOF := Lib.hid (next_S (v0 := .int .i64 Y) (v1 := .int .i64 M) (v2 := .int .i64 D) (v3 := .int .i64 (h + 1)) (v4 := .int .i64 0) (v5 := .int .i64 0) w b (sec + 1) HX.out hb0' hb1')
          have HEQ : ∀ W : World, (binOp .eql 23 (.agg #[.int .i64 Y, .int .i64 M, .int .i64 D, .int .i64 (h + 1), .int .i64 0, .int .i64 0]) (.agg #[.int .i64 Y, .int .i64 M, .int .i64 D, .int .i64 (h + 1), .int .i64 0, .int .i64 0])).run Tryd.prog W = .ok (.bool true) W := fun W => eql_date W _ _ _ _ _ _
          clear hbd hho hh hbb e0 e1 e2 e3 e4 e5 HX
          have hwr : IntKind.i64.wrap (sec + 1) = sec + 1 := IntWalk.i64_in _ (by omega)
          go_region_held3 (fun W : World => Hid (Below w.heap.size w W) ∧ W.cell? ⟨b, 0, none⟩ = some (.int .i64 Y) ∧ W.cell? ⟨b, 1, none⟩ = some (.int .i64 M) ∧ W.cell? ⟨b, 2, none⟩ = some (.int .i64 D) ∧ W.cell? ⟨b, 3, none⟩ = some (.int .i64 (h + 1)) ∧ W.cell? ⟨b, 4, none⟩ = some (.int .i64 0) ∧ W.cell? ⟨b, 5, none⟩ = some (.int .i64 0)) (first | exact hSd | assumption) (first | (go_at_call 19; (with_reducible refine (HOF.out _ (by assumption)).mono ?_); rintro e w6 ⟨rfl, hS6⟩))
          go_wp2_with fail
          go_ret
          exact ⟨rfl, hS6.1.out⟩
      · have HX := Lib.hid (show IsDate (sec + 1) Y M D h (m + 1) 0 by
          obtain ⟨u1, u2, u3, u4⟩ := HQ.out
          exact isDate_of q2' (by rw [u3, if_neg (by omega)]; omega) (by rw [u4, if_neg (by omega)]; omega) (by omega) (by omega) (by omega) (by omega) (by omega) (by omega))
        have f1 : (s + 1 == 60) = true := by simp only [beq_iff_eq]; omega
        have f2 : (m + 1 == 60) = false := by simp only [beq_eq_false_iff_ne, ne_eq]; omega
        have f3 : (h == 24) = false := by simp only [beq_eq_false_iff_ne, ne_eq]; omega
        have dm : decide (dpm Y M < D) = false := decide_eq_false (by omega)
        have dm' : ¬ dpm Y M < D := by omega
        have fM : (M == 13) = false := by simp only [beq_eq_false_iff_ne, ne_eq]; omega
        go_upto_region 20 with (fail)
        have hh := heap_alloc_new w3 (.cells #[.int .i64 Y, .int .i64 M, .int .i64 D, .int .i64 h, .int .i64 (m + 1), .int .i64 0] 23)
        have hbb := HB3.out.trans ((Below.refl w3.heap.size w3).alloc (Nat.le_refl _) (.cells #[.int .i64 Y, .int .i64 M, .int .i64 D, .int .i64 h, .int .i64 (m + 1), .int .i64 0] 23) |>.mono HB3.out.size)
        have hle := HB3.out.size
        generalize w3.alloc (.cells #[.int .i64 Y, .int .i64 M, .int .i64 D, .int .i64 h, .int .i64 (m + 1), .int .i64 0] 23) = w4 at hh hbb ⊢
        generalize w3.heap.size = b at hh hle ⊢
        obtain ⟨e0, e1, e2, e3, e4, e5⟩ := six_cells hh
        have ef := blk_frozen hh
        have HH := Lib.hid hh
        have HBB := Lib.hid hbb
        clear hh hbb HB3 c0 c1 c2 c3 c4 c5
        go_wp2_with fail
        go_quiet ((go_at_call 11; exact quiet_left (days_calls _ _ _)))
        go_upto_region 26 with (fail)
        have hh : (w4.drewN nq).heap[b]? = some (.cells #[.int .i64 Y, .int .i64 M, .int .i64 D, .int .i64 h, .int .i64 (m + 1), .int .i64 0] 23 (0, 0)) := HH.out
        have hbb : Below w.heap.size w (w4.drewN nq) := HBB.out.trans ⟨rfl, rfl, rfl, Nat.le_refl _, fun _ _ => rfl⟩
        generalize w4.drewN nq = w5 at hh hbb ⊢
        clear HBB HH e0 e1 e2 e3 e4 e5 ef
        have hbd : Below w5.heap.size w5 w5.drew := ⟨rfl, rfl, rfl, Nat.le_refl _, fun _ _ => rfl⟩
        have hho := hh
        obtain ⟨e0, e1, e2, e3, e4, e5⟩ := six_cells hh
        have hSd := And.intro (Lib.hid (hbb.trans (hbd.mono hbb.size))) (And.intro (cell_keep hbd e0) (And.intro (cell_keep hbd e1) (And.intro (cell_keep hbd e2) (And.intro (cell_keep hbd e3) (And.intro (cell_keep hbd e4) (cell_keep hbd e5))))))
        have HOF := Lib.hid (next_S (v0 := .int .i64 Y) (v1 := .int .i64 M) (v2 := .int .i64 D) (v3 := .int .i64 h) (v4 := .int .i64 (m + 1)) (v5 := .int .i64 0) w b (sec + 1) HX.out hb0' hb1')
        have HEQ : ∀ W : World, (binOp .eql 23 (.agg #[.int .i64 Y, .int .i64 M, .int .i64 D, .int .i64 h, .int .i64 (m + 1), .int .i64 0]) (.agg #[.int .i64 Y, .int .i64 M, .int .i64 D, .int .i64 h, .int .i64 (m + 1), .int .i64 0])).run Tryd.prog W = .ok (.bool true) W := fun W => eql_date W _ _ _ _ _ _
        clear hbd hho hh hbb e0 e1 e2 e3 e4 e5 HX
        have hwr : IntKind.i64.wrap (sec + 1) = sec + 1 := IntWalk.i64_in _ (by omega)
        go_region_held3 (fun W : World => Hid (Below w.heap.size w W) ∧ W.cell? ⟨b, 0, none⟩ = some (.int .i64 Y) ∧ W.cell? ⟨b, 1, none⟩ = some (.int .i64 M) ∧ W.cell? ⟨b, 2, none⟩ = some (.int .i64 D) ∧ W.cell? ⟨b, 3, none⟩ = some (.int .i64 h) ∧ W.cell? ⟨b, 4, none⟩ = some (.int .i64 (m + 1)) ∧ W.cell? ⟨b, 5, none⟩ = some (.int .i64 0)) (first | exact hSd | assumption) (first | (go_at_call 19; (with_reducible refine (HOF.out _ (by assumption)).mono ?_); rintro e w6 ⟨rfl, hS6⟩))
        go_wp2_with fail
        go_ret
        exact ⟨rfl, hS6.1.out⟩
    · have HX := Lib.hid (show IsDate (sec + 1) Y M D h m (s + 1) by
        obtain ⟨u1, u2, u3, u4⟩ := HQ.out
        exact isDate_of q2' (by rw [u3, if_neg (by omega)]; omega) (by rw [u4, if_neg (by omega)]; omega) (by omega) (by omega) (by omega) (by omega) (by omega) (by omega))
      have f1 : (s + 1 == 60) = false := by simp only [beq_eq_false_iff_ne, ne_eq]; omega
      have f2 : (m == 60) = false := by simp only [beq_eq_false_iff_ne, ne_eq]; omega
      have f3 : (h == 24) = false := by simp only [beq_eq_false_iff_ne, ne_eq]; omega
      have dm : decide (dpm Y M < D) = false := decide_eq_false (by omega)
      have dm' : ¬ dpm Y M < D := by omega
      have fM : (M == 13) = false := by simp only [beq_eq_false_iff_ne, ne_eq]; omega
      go_upto_region 20 with (fail)
      have hh := heap_alloc_new w3 (.cells #[.int .i64 Y, .int .i64 M, .int .i64 D, .int .i64 h, .int .i64 m, .int .i64 (s + 1)] 23)
      have hbb := HB3.out.trans ((Below.refl w3.heap.size w3).alloc (Nat.le_refl _) (.cells #[.int .i64 Y, .int .i64 M, .int .i64 D, .int .i64 h, .int .i64 m, .int .i64 (s + 1)] 23) |>.mono HB3.out.size)
      have hle := HB3.out.size
      generalize w3.alloc (.cells #[.int .i64 Y, .int .i64 M, .int .i64 D, .int .i64 h, .int .i64 m, .int .i64 (s + 1)] 23) = w4 at hh hbb ⊢
      generalize w3.heap.size = b at hh hle ⊢
      obtain ⟨e0, e1, e2, e3, e4, e5⟩ := six_cells hh
      have ef := blk_frozen hh
      have HH := Lib.hid hh
      have HBB := Lib.hid hbb
      clear hh hbb HB3 c0 c1 c2 c3 c4 c5
      go_wp2_with fail
      go_quiet ((go_at_call 11; exact quiet_left (days_calls _ _ _)))
      go_upto_region 26 with (fail)
      have hh : (w4.drewN nq).heap[b]? = some (.cells #[.int .i64 Y, .int .i64 M, .int .i64 D, .int .i64 h, .int .i64 m, .int .i64 (s + 1)] 23 (0, 0)) := HH.out
      have hbb : Below w.heap.size w (w4.drewN nq) := HBB.out.trans ⟨rfl, rfl, rfl, Nat.le_refl _, fun _ _ => rfl⟩
      generalize w4.drewN nq = w5 at hh hbb ⊢
      clear HBB HH e0 e1 e2 e3 e4 e5 ef
      have hbd : Below w5.heap.size w5 w5.drew := ⟨rfl, rfl, rfl, Nat.le_refl _, fun _ _ => rfl⟩
      have hho := hh
      obtain ⟨e0, e1, e2, e3, e4, e5⟩ := six_cells hh
      have hSd := And.intro (Lib.hid (hbb.trans (hbd.mono hbb.size))) (And.intro (cell_keep hbd e0) (And.intro (cell_keep hbd e1) (And.intro (cell_keep hbd e2) (And.intro (cell_keep hbd e3) (And.intro (cell_keep hbd e4) (cell_keep hbd e5))))))
      have HOF := Lib.hid (next_S (v0 := .int .i64 Y) (v1 := .int .i64 M) (v2 := .int .i64 D) (v3 := .int .i64 h) (v4 := .int .i64 m) (v5 := .int .i64 (s + 1)) w b (sec + 1) HX.out hb0' hb1')
      have HEQ : ∀ W : World, (binOp .eql 23 (.agg #[.int .i64 Y, .int .i64 M, .int .i64 D, .int .i64 h, .int .i64 m, .int .i64 (s + 1)]) (.agg #[.int .i64 Y, .int .i64 M, .int .i64 D, .int .i64 h, .int .i64 m, .int .i64 (s + 1)])).run Tryd.prog W = .ok (.bool true) W := fun W => eql_date W _ _ _ _ _ _
      clear hbd hho hh hbb e0 e1 e2 e3 e4 e5 HX
      have hwr : IntKind.i64.wrap (sec + 1) = sec + 1 := IntWalk.i64_in _ (by omega)
      go_region_held3 (fun W : World => Hid (Below w.heap.size w W) ∧ W.cell? ⟨b, 0, none⟩ = some (.int .i64 Y) ∧ W.cell? ⟨b, 1, none⟩ = some (.int .i64 M) ∧ W.cell? ⟨b, 2, none⟩ = some (.int .i64 D) ∧ W.cell? ⟨b, 3, none⟩ = some (.int .i64 h) ∧ W.cell? ⟨b, 4, none⟩ = some (.int .i64 m) ∧ W.cell? ⟨b, 5, none⟩ = some (.int .i64 (s + 1))) (first | exact hSd | assumption) (first | (go_at_call 19; (with_reducible refine (HOF.out _ (by assumption)).mono ?_); rintro e w6 ⟨rfl, hS6⟩))
      go_wp2_with fail
      go_ret
      exact ⟨rfl, hS6.1.out⟩
end Go.Proofs.YtkjglhehlkjfgaaDoor.Hand
