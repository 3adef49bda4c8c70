/- CivilOf: its walk. Written by wip/c22/mko.py. -/
import Derived.Test.YtkjglhehlkjfgaaDoorAlive
import Derived.Test.YtkjglhehlkjfgaaDoorRefC
import Derived.Test.YtkjglhehlkjfgaaDoorRefD
import Derived.ChangeKeysEq
set_option linter.unusedVariables false
set_option linter.unusedSimpArgs false
namespace Go.Proofs.YtkjglhehlkjfgaaDoor.Hand
open Go.RowKit Go.Proofs.YtkjglhehlkjfgaaDoor.Civ
theorem RetQ.toB {v : Value} {w w' : World} {e : Ending} (h : RetQ v w e w') : RetB v w e w' := by
  obtain ⟨he, n, rfl⟩ := h
  exact ⟨he, ⟨rfl, rfl, rfl, Nat.le_refl _, fun _ _ => rfl⟩⟩
/-- A call in a state in which two blocks of six cells are known leaves them so. -/
theorem two_blocks {f : FuncId} {args : Array Value} {v : Value} {w : World} (b1 b2 : Nat) {a0 a1 a2 a3 a4 a5 d0 d1 d2 d3 d4 d5 : Value} (h : ∀ W : World, VW W → Calls Tryd.prog f args W (RetB v W)) (W : World)
    (hS : Hid (VW W ∧ Below w.heap.size w W) ∧ W.cell? ⟨b1, 0, none⟩ = some a0 ∧ W.cell? ⟨b1, 1, none⟩ = some a1 ∧ W.cell? ⟨b1, 2, none⟩ = some a2 ∧ W.cell? ⟨b1, 3, none⟩ = some a3 ∧ W.cell? ⟨b1, 4, none⟩ = some a4 ∧ W.cell? ⟨b1, 5, none⟩ = some a5 ∧ W.cell? ⟨b2, 0, none⟩ = some d0 ∧ W.cell? ⟨b2, 1, none⟩ = some d1 ∧ W.cell? ⟨b2, 2, none⟩ = some d2 ∧ W.cell? ⟨b2, 3, none⟩ = some d3 ∧ W.cell? ⟨b2, 4, none⟩ = some d4 ∧ W.cell? ⟨b2, 5, none⟩ = some d5) :
    Calls Tryd.prog f args W fun e W' => e = .returned v ∧ Hid (VW W' ∧ Below w.heap.size w W') ∧ W'.cell? ⟨b1, 0, none⟩ = some a0 ∧ W'.cell? ⟨b1, 1, none⟩ = some a1 ∧ W'.cell? ⟨b1, 2, none⟩ = some a2 ∧ W'.cell? ⟨b1, 3, none⟩ = some a3 ∧ W'.cell? ⟨b1, 4, none⟩ = some a4 ∧ W'.cell? ⟨b1, 5, none⟩ = some a5 ∧ W'.cell? ⟨b2, 0, none⟩ = some d0 ∧ W'.cell? ⟨b2, 1, none⟩ = some d1 ∧ W'.cell? ⟨b2, 2, none⟩ = some d2 ∧ W'.cell? ⟨b2, 3, none⟩ = some d3 ∧ W'.cell? ⟨b2, 4, none⟩ = some d4 ∧ W'.cell? ⟨b2, 5, none⟩ = some d5 := by
  obtain ⟨hv, p0, p1, p2, p3, p4, p5, q0, q1, q2, q3, q4, q5⟩ := hS
  refine (h W hv.out.1).mono ?_
  rintro e W' ⟨rfl, hb⟩
  exact ⟨rfl, Lib.hid ⟨hv.out.1.below hb, hv.out.2.trans (hb.mono hv.out.2.size)⟩, cell_keep hb p0, cell_keep hb p1, cell_keep hb p2, cell_keep hb p3, cell_keep hb p4, cell_keep hb p5, cell_keep hb q0, cell_keep hb q1, cell_keep hb q2, cell_keep hb q3, cell_keep hb q4, cell_keep hb q5⟩
theorem eql_arr (W : World) (Y M D h m s : Int) : (binOp .eql 32 (.agg #[.int .i64 Y, .int .i64 M, .int .i64 D, .int .i64 h, .int .i64 m, .int .i64 s]) (.agg #[.int .i64 Y, .int .i64 M, .int .i64 D, .int .i64 h, .int .i64 m, .int .i64 s])).run Tryd.prog W = .ok (.bool true) W := by
  have hinf : (Tryd.prog.info? 2).map (fun i => i.size) = some 1 := by kernel_rfl
  obtain ⟨i, hi, _⟩ := Option.map_eq_some_iff.1 hinf
  have hc : Tryd.prog.cellsOf 2 = 1 := by kernel_rfl
  rw [run_eql_struct, run_equalIn_array W 9999 _ _ Tryd.underlying32 hi, hc]
  simp [Op.eqItems, List.range, List.range.loop, go_sem, Tryd.underlying2]
theorem floor_cases (sec n : Int) (hn : n = sec / 86400) : (sec.tmod 86400 < 0 → sec.tdiv 86400 = n + 1) ∧ (¬ sec.tmod 86400 < 0 → sec.tdiv 86400 = n) := by
  constructor
  · intro h
    obtain ⟨e1, _⟩ := floor_down (a := sec) (b := 86400) (by decide) h
    omega
  · intro h
    obtain ⟨e1, _⟩ := floor_up (a := sec) (b := 86400) (by decide) (by omega)
    omega
theorem week_eq (n : Int) (h0 : -106751991167301 ≤ n) (h1 : n ≤ 106751991167300) : (n.tmod 7 + 11) % 7 = (n + 4) % 7 := by
  have h2 := Int.tmod_eq_emod (a := n) (b := 7)
  split at h2 <;> omega
set_option maxRecDepth 100000 in
set_option maxHeartbeats 4000000 in
theorem civilOf_calls (w : World) (hV : VW w) (sec : Int) (hw : (Lit.int .i64 sec).wf = true) : Calls Tryd.prog 6 #[.int .i64 sec] w (RetB (.bool true) w) := by
  have hb : -9223372036854775808 ≤ sec ∧ sec ≤ 9223372036854775807 := by
    simp [Lit.wf, IntKind.min, IntKind.max, IntKind.signed, IntKind.bits] at hw
    omega
  obtain ⟨Y, M, D, h, m, s, hd⟩ := isDate sec
  obtain ⟨hY0, hY1⟩ := hd.year hb.1 hb.2
  have HD := Lib.hid hd
  have HV := Lib.hid hV
  have HB := Lib.hid hb
  obtain ⟨hb0, hb1⟩ := hb
  have HA := Lib.hid (alive_calls w hV)
  clear hd hV hw
  go_enter Tryd.func6, Tryd.ntmps6
  go_wp2_with fail
  (with_reducible refine HA.out.mono ?_)
  rintro e w1 ⟨rfl, hb1⟩
  have HB1 := Lib.hid hb1
  clear hb1 HA
  have ho := of_calls sec w1 HB.out.1 HB.out.2
  rw [HD.out.date] at ho
  have HO := Lib.hid ho
  clear ho
  go_wp2_with fail
  (with_reducible refine HO.out.mono ?_)
  rintro e w2 ⟨rfl, hb2⟩
  have HB2 := Lib.hid (HB1.out.trans (hb2.mono HB1.out.size))
  have hal := (Below.refl w2.heap.size w2).alloc (Nat.le_refl _) (.cells #[.int .i64 Y, .int .i64 M, .int .i64 D, .int .i64 h, .int .i64 m, .int .i64 s] 23)
  have hcl := heap_alloc_new w2 (.cells #[.int .i64 Y, .int .i64 M, .int .i64 D, .int .i64 h, .int .i64 m, .int .i64 s] 23)
  have HB3 := Lib.hid (HB2.out.trans (hal.mono HB2.out.size))
  have HCL := Lib.hid hcl
  have ho := rof_calls sec (w2.alloc (.cells #[.int .i64 Y, .int .i64 M, .int .i64 D, .int .i64 h, .int .i64 m, .int .i64 s] 23)) HB.out.1 HB.out.2
  rw [HD.out.date] at ho
  have HO2 := Lib.hid ho
  clear ho HO hb2 HB1 hal hcl HB2
  go_wp2_with fail
  (with_reducible refine HO2.out.mono ?_)
  rintro e w4 ⟨rfl, hb4⟩
  have HB4 := Lib.hid (HB3.out.trans (hb4.mono HB3.out.size))
  have HCL4 := Lib.hid ((hb4.block _ (by simp)).trans HCL.out)
  have hal := (Below.refl w4.heap.size w4).alloc (Nat.le_refl _) (.cells #[.int .i64 Y, .int .i64 M, .int .i64 D, .int .i64 h, .int .i64 m, .int .i64 s] 32)
  have hcl := heap_alloc_new w4 (.cells #[.int .i64 Y, .int .i64 M, .int .i64 D, .int .i64 h, .int .i64 m, .int .i64 s] 32)
  have HB5 := Lib.hid (HB4.out.trans (hal.mono HB4.out.size))
  have HCL5 := Lib.hid ((hal.block _ (chan_lt HCL4.out)).trans HCL4.out)
  have HDL5 := Lib.hid hcl
  clear hal hcl hb4 HB4 HCL4 HO2 HB3 HCL
  obtain ⟨n, hn⟩ : ∃ n, n = sec / 86400 := ⟨_, rfl⟩
  have hnb : -106751991167301 ≤ n ∧ n ≤ 106751991167300 := by omega
  have hwk := week_eq n hnb.1 hnb.2
  have htm : -7 ≤ n.tmod 7 ∧ n.tmod 7 ≤ 7 := by
    have h2 := Int.tmod_eq_emod (a := n) (b := 7)
    split at h2 <;> omega
  obtain ⟨t, ht⟩ : ∃ t, n.tmod 7 = t := ⟨_, rfl⟩
  rw [ht] at hwk htm
  have HWK := Lib.hid (show (t + 11) % 7 = weekOf sec by unfold weekOf; rw [← hn]; exact hwk)
  obtain ⟨hnb0, hnb1⟩ := hnb
  obtain ⟨ht0, ht1⟩ := htm
  have HG := Lib.hid (floor_cases sec n hn)
  clear hwk hn
  by_cases hneg : sec.tmod 86400 < 0
  · have f1 : sec.tdiv 86400 = n + 1 := HG.out.1 hneg
    have d1 : decide (sec.tmod 86400 < 0) = true := decide_eq_true hneg
    clear HG
    go_upto_region 9 with (fail)
    have HWK2 : (t + 11) % 7 = weekOf sec := HWK.out
    simp only [HWK2]
    clear HWK2
    generalize w4.alloc (.cells #[.int .i64 Y, .int .i64 M, .int .i64 D, .int .i64 h, .int .i64 m, .int .i64 s] 32) = w5 at HB5 HCL5 HDL5 ⊢
    have hbd : Below w5.heap.size w5 w5.drew := ⟨rfl, rfl, rfl, Nat.le_refl _, fun _ _ => rfl⟩
    obtain ⟨p0, p1, p2, p3, p4, p5⟩ := six_cells HCL5.out
    obtain ⟨q0, q1, q2, q3, q4, q5⟩ := six_cells HDL5.out
    have hSd := And.intro (Lib.hid (And.intro (HV.out.below (HB5.out.trans (hbd.mono HB5.out.size))) (HB5.out.trans (hbd.mono HB5.out.size)))) (And.intro (cell_keep hbd p0) (And.intro (cell_keep hbd p1) (And.intro (cell_keep hbd p2) (And.intro (cell_keep hbd p3) (And.intro (cell_keep hbd p4) (And.intro (cell_keep hbd p5) (And.intro (cell_keep hbd q0) (And.intro (cell_keep hbd q1) (And.intro (cell_keep hbd q2) (And.intro (cell_keep hbd q3) (And.intro (cell_keep hbd q4) (cell_keep hbd q5))))))))))))
    have C14 := Lib.hid (two_blocks (a0 := (.int .i64 Y)) (a1 := (.int .i64 M)) (a2 := (.int .i64 D)) (a3 := (.int .i64 h)) (a4 := (.int .i64 m)) (a5 := (.int .i64 s)) (d0 := (.int .i64 Y)) (d1 := (.int .i64 M)) (d2 := (.int .i64 D)) (d3 := (.int .i64 h)) (d4 := (.int .i64 m)) (d5 := (.int .i64 s)) (w := w) w2.heap.size w4.heap.size fun W _ => of22_calls Y M D h m s W)
    have C15 := Lib.hid (two_blocks (a0 := (.int .i64 Y)) (a1 := (.int .i64 M)) (a2 := (.int .i64 D)) (a3 := (.int .i64 h)) (a4 := (.int .i64 m)) (a5 := (.int .i64 s)) (d0 := (.int .i64 Y)) (d1 := (.int .i64 M)) (d2 := (.int .i64 D)) (d3 := (.int .i64 h)) (d4 := (.int .i64 m)) (d5 := (.int .i64 s)) (w := w) w2.heap.size w4.heap.size fun W hv => text_calls Y M D h m s W hv (by omega) (by omega))
    have C17 := Lib.hid (two_blocks (a0 := (.int .i64 Y)) (a1 := (.int .i64 M)) (a2 := (.int .i64 D)) (a3 := (.int .i64 h)) (a4 := (.int .i64 m)) (a5 := (.int .i64 s)) (d0 := (.int .i64 Y)) (d1 := (.int .i64 M)) (d2 := (.int .i64 D)) (d3 := (.int .i64 h)) (d4 := (.int .i64 m)) (d5 := (.int .i64 s)) (w := w) w2.heap.size w4.heap.size fun W _ => text22_calls Y M D h m s W (by omega) (by omega) HD.out.right)
    have C21 := Lib.hid (two_blocks (a0 := (.int .i64 Y)) (a1 := (.int .i64 M)) (a2 := (.int .i64 D)) (a3 := (.int .i64 h)) (a4 := (.int .i64 m)) (a5 := (.int .i64 s)) (d0 := (.int .i64 Y)) (d1 := (.int .i64 M)) (d2 := (.int .i64 D)) (d3 := (.int .i64 h)) (d4 := (.int .i64 m)) (d5 := (.int .i64 s)) (w := w) w2.heap.size w4.heap.size fun W _ => (weekday_calls sec W HB.out.1 HB.out.2).mono fun _ _ h => h.toB)
    have HEQ : ∀ W : World, (binOp .eql 32 (.agg #[.int .i64 Y, .int .i64 M, .int .i64 D, .int .i64 h, .int .i64 m, .int .i64 s]) (.agg #[.int .i64 Y, .int .i64 M, .int .i64 D, .int .i64 h, .int .i64 m, .int .i64 s])).run Tryd.prog W = .ok (.bool true) W := fun W => eql_arr W _ _ _ _ _ _
    have htx : ((textV Y M D h m s).toList == (textV Y M D h m s).toList) = true := beq_self_eq_true _
    have hwx : (weekOf sec == weekOf sec) = true := beq_self_eq_true _
    clear hbd p0 p1 p2 p3 p4 p5 q0 q1 q2 q3 q4 q5 HB5 HCL5 HDL5 HWK f1 d1
    generalize textV Y M D h m s = tx at C15 C17 htx
    generalize weekOf sec = wk at C21 hwx ⊢
    go_region_held3 (fun W : World => Hid (VW W ∧ Below w.heap.size w W) ∧ W.cell? ⟨w2.heap.size, 0, none⟩ = some (.int .i64 Y) ∧ W.cell? ⟨w2.heap.size, 1, none⟩ = some (.int .i64 M) ∧ W.cell? ⟨w2.heap.size, 2, none⟩ = some (.int .i64 D) ∧ W.cell? ⟨w2.heap.size, 3, none⟩ = some (.int .i64 h) ∧ W.cell? ⟨w2.heap.size, 4, none⟩ = some (.int .i64 m) ∧ W.cell? ⟨w2.heap.size, 5, none⟩ = some (.int .i64 s) ∧ W.cell? ⟨w4.heap.size, 0, none⟩ = some (.int .i64 Y) ∧ W.cell? ⟨w4.heap.size, 1, none⟩ = some (.int .i64 M) ∧ W.cell? ⟨w4.heap.size, 2, none⟩ = some (.int .i64 D) ∧ W.cell? ⟨w4.heap.size, 3, none⟩ = some (.int .i64 h) ∧ W.cell? ⟨w4.heap.size, 4, none⟩ = some (.int .i64 m) ∧ W.cell? ⟨w4.heap.size, 5, none⟩ = some (.int .i64 s)) (first | exact hSd | assumption) (first | (go_at_call 14; (with_reducible refine (C14.out _ (by assumption)).mono ?_); rintro e w6 ⟨rfl, hS6⟩) | (go_at_call 15; (with_reducible refine (C15.out _ (by assumption)).mono ?_); rintro e w6 ⟨rfl, hS6⟩) | (go_at_call 17; (with_reducible refine (C17.out _ (by assumption)).mono ?_); rintro e w6 ⟨rfl, hS6⟩) | (go_at_call 21; (with_reducible refine (C21.out _ (by assumption)).mono ?_); rintro e w6 ⟨rfl, hS6⟩))
    go_wp2_with fail
    go_ret
    exact ⟨rfl, hS6.1.out.2⟩
  · have f1 : sec.tdiv 86400 = n := HG.out.2 hneg
    have d1 : decide (sec.tmod 86400 < 0) = false := decide_eq_false hneg
    clear HG
    go_upto_region 9 with (fail)
    have HWK2 : (t + 11) % 7 = weekOf sec := HWK.out
    simp only [HWK2]
    clear HWK2
    generalize w4.alloc (.cells #[.int .i64 Y, .int .i64 M, .int .i64 D, .int .i64 h, .int .i64 m, .int .i64 s] 32) = w5 at HB5 HCL5 HDL5 ⊢
    have hbd : Below w5.heap.size w5 w5.drew := ⟨rfl, rfl, rfl, Nat.le_refl _, fun _ _ => rfl⟩
    obtain ⟨p0, p1, p2, p3, p4, p5⟩ := six_cells HCL5.out
    obtain ⟨q0, q1, q2, q3, q4, q5⟩ := six_cells HDL5.out
    have hSd := And.intro (Lib.hid (And.intro (HV.out.below (HB5.out.trans (hbd.mono HB5.out.size))) (HB5.out.trans (hbd.mono HB5.out.size)))) (And.intro (cell_keep hbd p0) (And.intro (cell_keep hbd p1) (And.intro (cell_keep hbd p2) (And.intro (cell_keep hbd p3) (And.intro (cell_keep hbd p4) (And.intro (cell_keep hbd p5) (And.intro (cell_keep hbd q0) (And.intro (cell_keep hbd q1) (And.intro (cell_keep hbd q2) (And.intro (cell_keep hbd q3) (And.intro (cell_keep hbd q4) (cell_keep hbd q5))))))))))))
    have C14 := Lib.hid (two_blocks (a0 := (.int .i64 Y)) (a1 := (.int .i64 M)) (a2 := (.int .i64 D)) (a3 := (.int .i64 h)) (a4 := (.int .i64 m)) (a5 := (.int .i64 s)) (d0 := (.int .i64 Y)) (d1 := (.int .i64 M)) (d2 := (.int .i64 D)) (d3 := (.int .i64 h)) (d4 := (.int .i64 m)) (d5 := (.int .i64 s)) (w := w) w2.heap.size w4.heap.size fun W _ => of22_calls Y M D h m s W)
    have C15 := Lib.hid (two_blocks (a0 := (.int .i64 Y)) (a1 := (.int .i64 M)) (a2 := (.int .i64 D)) (a3 := (.int .i64 h)) (a4 := (.int .i64 m)) (a5 := (.int .i64 s)) (d0 := (.int .i64 Y)) (d1 := (.int .i64 M)) (d2 := (.int .i64 D)) (d3 := (.int .i64 h)) (d4 := (.int .i64 m)) (d5 := (.int .i64 s)) (w := w) w2.heap.size w4.heap.size fun W hv => text_calls Y M D h m s W hv (by omega) (by omega))
    have C17 := Lib.hid (two_blocks (a0 := (.int .i64 Y)) (a1 := (.int .i64 M)) (a2 := (.int .i64 D)) (a3 := (.int .i64 h)) (a4 := (.int .i64 m)) (a5 := (.int .i64 s)) (d0 := (.int .i64 Y)) (d1 := (.int .i64 M)) (d2 := (.int .i64 D)) (d3 := (.int .i64 h)) (d4 := (.int .i64 m)) (d5 := (.int .i64 s)) (w := w) w2.heap.size w4.heap.size fun W _ => text22_calls Y M D h m s W (by omega) (by omega) HD.out.right)
    have C21 := Lib.hid (two_blocks (a0 := (.int .i64 Y)) (a1 := (.int .i64 M)) (a2 := (.int .i64 D)) (a3 := (.int .i64 h)) (a4 := (.int .i64 m)) (a5 := (.int .i64 s)) (d0 := (.int .i64 Y)) (d1 := (.int .i64 M)) (d2 := (.int .i64 D)) (d3 := (.int .i64 h)) (d4 := (.int .i64 m)) (d5 := (.int .i64 s)) (w := w) w2.heap.size w4.heap.size fun W _ => (weekday_calls sec W HB.out.1 HB.out.2).mono fun _ _ h => h.toB)
    have HEQ : ∀ W : World, (binOp .eql 32 (.agg #[.int .i64 Y, .int .i64 M, .int .i64 D, .int .i64 h, .int .i64 m, .int .i64 s]) (.agg #[.int .i64 Y, .int .i64 M, .int .i64 D, .int .i64 h, .int .i64 m, .int .i64 s])).run Tryd.prog W = .ok (.bool true) W := fun W => eql_arr W _ _ _ _ _ _
    have htx : ((textV Y M D h m s).toList == (textV Y M D h m s).toList) = true := beq_self_eq_true _
    have hwx : (weekOf sec == weekOf sec) = true := beq_self_eq_true _
    clear hbd p0 p1 p2 p3 p4 p5 q0 q1 q2 q3 q4 q5 HB5 HCL5 HDL5 HWK f1 d1
    generalize textV Y M D h m s = tx at C15 C17 htx
    generalize weekOf sec = wk at C21 hwx ⊢
    go_region_held3 (fun W : World => Hid (VW W ∧ Below w.heap.size w W) ∧ W.cell? ⟨w2.heap.size, 0, none⟩ = some (.int .i64 Y) ∧ W.cell? ⟨w2.heap.size, 1, none⟩ = some (.int .i64 M) ∧ W.cell? ⟨w2.heap.size, 2, none⟩ = some (.int .i64 D) ∧ W.cell? ⟨w2.heap.size, 3, none⟩ = some (.int .i64 h) ∧ W.cell? ⟨w2.heap.size, 4, none⟩ = some (.int .i64 m) ∧ W.cell? ⟨w2.heap.size, 5, none⟩ = some (.int .i64 s) ∧ W.cell? ⟨w4.heap.size, 0, none⟩ = some (.int .i64 Y) ∧ W.cell? ⟨w4.heap.size, 1, none⟩ = some (.int .i64 M) ∧ W.cell? ⟨w4.heap.size, 2, none⟩ = some (.int .i64 D) ∧ W.cell? ⟨w4.heap.size, 3, none⟩ = some (.int .i64 h) ∧ W.cell? ⟨w4.heap.size, 4, none⟩ = some (.int .i64 m) ∧ W.cell? ⟨w4.heap.size, 5, none⟩ = some (.int .i64 s)) (first | exact hSd | assumption) (first | (go_at_call 14; (with_reducible refine (C14.out _ (by assumption)).mono ?_); rintro e w6 ⟨rfl, hS6⟩) | (go_at_call 15; (with_reducible refine (C15.out _ (by assumption)).mono ?_); rintro e w6 ⟨rfl, hS6⟩) | (go_at_call 17; (with_reducible refine (C17.out _ (by assumption)).mono ?_); rintro e w6 ⟨rfl, hS6⟩) | (go_at_call 21; (with_reducible refine (C21.out _ (by assumption)).mono ?_); rintro e w6 ⟨rfl, hS6⟩))
    go_wp2_with fail
    go_ret
    exact ⟨rfl, hS6.1.out.2⟩
end Go.Proofs.YtkjglhehlkjfgaaDoor.Hand
