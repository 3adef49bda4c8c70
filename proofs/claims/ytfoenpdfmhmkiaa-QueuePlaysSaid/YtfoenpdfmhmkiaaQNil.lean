/- What no queue tells: its walk. -/
import Derived.Test.YtfoenpdfmhmkiaaLone
import Derived.Tactics
import Derived.Tactics2
import Derived.Lib.Hide
import Derived.Below
import Derived.Laws.IdiomRangeMap
set_option linter.unusedVariables false
set_option linter.unusedSimpArgs false
namespace Go.Proofs.YtfoenpdfmhmkiaaLone
open Go.Conc Go.RowKit

theorem mkI (n : Nat) (hn : n ≤ 4096) (w : World) : (Instr.makeChan 60 (.int .i64 (n : Int))).run Try.prog w = .ok (.chan (some w.heap.size)) (w.alloc (.chan n #[] false 0 0 false)) := by
  have h : (Try.prog.info? 3).map (·.bytes) = some 8 := by kernel_rfl
  obtain ⟨i, hi, hb⟩ := Option.map_eq_some_iff.1 h
  simpa using run_makeChan (P := Try.prog) (w := w) Try.underlying60 hi .i64 n (by omega) (by rw [hb]; omega)
set_option maxRecDepth 100000 in
theorem newI (n : Nat) (h1 : 1 ≤ n) (h2 : n ≤ 4096) (w : World) :
    Calls Try.prog 12 #[.int .i64 (n : Int)] w fun e w' => e = .returned (.pointer (some ⟨w.heap.size + 1, 0, none⟩)) ∧ w' = (w.alloc (.chan n #[] false 0 0 false)).alloc (.cells #[.chan (some w.heap.size)] 62) := by
  have d1 : decide ((n : Int) < 1) = false := decide_eq_false (by omega)
  have d2 : decide (4096 < (n : Int)) = false := decide_eq_false (by omega)
  have hm := mkI n h2
  go_enter Try.func12, Try.ntmps12
  go_wp2_with fail
  go_ret
  exact ⟨by simp [World.alloc], rfl⟩
set_option maxRecDepth 100000 in
theorem channelNil (w : World) : Calls Try.prog 29 #[.pointer none] w fun e w' => e = .returned (.chan none) ∧ w' = w := by
  go_enter Try.func29, Try.ntmps29
  go_wp2
  go_ret
  exact ⟨rfl, rfl⟩
set_option maxRecDepth 100000 in
theorem lenNil (w : World) : Calls Try.prog 18 #[.pointer none] w fun e w' => e = .returned (.int .i64 0) ∧ w' = w := by
  have hl : ∀ W : World, (Builtin.len_ #[60] 3 #[.chan none]).run Try.prog W = .ok (.int .i64 0) W := by intro W; simp [Builtin.len_, run_underlying Try.underlying60, goInt]
  go_enter Try.func18, Try.ntmps18
  go_wp2_with fail
  refine (channelNil w).mono ?_
  rintro e w' ⟨rfl, rfl⟩
  go_wp2_with fail
  go_ret
  exact ⟨rfl, rfl⟩
set_option maxRecDepth 100000 in
theorem roomNil (w : World) : Calls Try.prog 19 #[.pointer none] w fun e w' => e = .returned (.int .i64 0) ∧ w' = w := by
  have hl : ∀ W : World, (Builtin.len_ #[60] 3 #[.chan none]).run Try.prog W = .ok (.int .i64 0) W := by intro W; simp [Builtin.len_, run_underlying Try.underlying60, goInt]
  have hc : ∀ W : World, (Builtin.cap_ #[60] 3 #[.chan none]).run Try.prog W = .ok (.int .i64 0) W := by intro W; simp [Builtin.cap_, run_underlying Try.underlying60, goInt]
  go_enter Try.func19, Try.ntmps19
  go_wp2_with fail
  refine (channelNil w).mono ?_
  rintro e w' ⟨rfl, rfl⟩
  go_wp2_with fail
  refine (channelNil w').mono ?_
  rintro e w'' ⟨rfl, rfl⟩
  go_wp2_with fail
  go_ret
  exact ⟨rfl, rfl⟩
set_option maxRecDepth 100000 in
theorem eitherNil (w : World) : Calls Try.prog 16 #[.pointer none, .pointer none] w fun e w' => e = .returned (.tuple #[.int .i64 0, .int .i64 0]) ∧ w' = w := by
  go_enter Try.func16, Try.ntmps16
  go_wp2_with fail
  refine (pop_nilI w).mono ?_
  rintro e w' ⟨rfl, rfl⟩
  go_wp2_with fail
  refine (pop_nilI w').mono ?_
  rintro e w'' ⟨rfl, rfl⟩
  go_wp2_with fail
  go_ret2
  exact ⟨rfl, rfl⟩
set_option maxRecDepth 100000 in
theorem moveNil1 (q : Value) (m : Int) (w : World) : Calls Try.prog 20 #[.pointer none, q, .int .i64 m] w fun e w' => e = .returned (.int .i64 0) ∧ w' = w := by
  go_enter Try.func20, Try.ntmps20
  go_wp2_with fail
  go_ret
  exact ⟨rfl, rfl⟩
set_option maxRecDepth 100000 in
theorem moveNil2 (q : Addr) (m : Int) (w : World) : Calls Try.prog 20 #[.pointer (some q), .pointer none, .int .i64 m] w fun e w' => e = .returned (.int .i64 0) ∧ w' = w := by
  go_enter Try.func20, Try.ntmps20
  go_wp2_with fail
  go_ret
  exact ⟨rfl, rfl⟩
set_option maxRecDepth 100000 in
set_option maxHeartbeats 1000000 in
theorem allNil (w : World) : Calls Try.prog 21 #[.pointer none] w fun e w' => e = .returned (.slice none 0 0) ∧ w' = w := by
  refine calls_of_loneTo fun cs => ?_
  have e : Frame.enter Try.prog 21 #[.pointer none] .normal = (base 21).at ⟨#[.pointer none, undef, undef, undef, undef, undef, undef, undef, undef, undef, undef, undef, undef, undef, undef, undef], []⟩ [.code (Try.f21.body.getD .skip)] := by
    simp [Frame.enter, Frame.at, Try.func21, base, Try.f21]
  rw [e]
  refine LoneTo.goes (n := 100) ?_
  simp only [Try.f21, Option.getD_some]
  repeat (first | s_reg | s_op | s_c stepG_seq | s_c stepG_region_end | s_c stepG_skip | s_c stepG_block | s_cond true | s_cond false | s_exit)
  s_c stepG_loop
  repeat (first | s_reg | s_op | s_c stepG_seq | s_c stepG_region_end | s_c stepG_skip | s_c stepG_block | s_cond true | s_cond false | s_exit)
  s_call Try.func29 (by kernel_rfl) Try.f29
  repeat (first | s_reg | s_op | s_c stepG_seq | s_c stepG_region_end | s_c stepG_skip | s_c stepG_block | s_cond true | s_cond false | s_exit)
  s_c stepG_ret'
  s_leave1 Try.func29
  repeat (first | s_reg | s_op | s_c stepG_seq | s_c stepG_region_end | s_c stepG_skip | s_c stepG_block | s_cond true | s_cond false | s_exit)
  s_stop
  refine LoneTo.step (step_lone_select_recv_nil (z := (.int .i64 0)) (stepG_comm (cases := #[rcaseNil (.int .i64 0)]) (blocking := false) (shape := .select) (w' := w) rfl rfl (by decide) (by simp [go_sem, execOp, rcaseNil, Act.eval]))) ?_
  rw [Frame.finish_at]
  walk_nrm
  refine LoneTo.goes (n := 100) ?_
  repeat (first | s_reg | s_op | s_c stepG_seq | s_c stepG_region_end | s_c stepG_skip | s_c stepG_block | s_cond true | s_cond false | s_exit)
  s_c stepG_ret'
  s_stop
  exact LoneTo.done ⟨.returned (.slice none 0 0), _, rfl, ⟨rfl, rfl⟩, rfl, rfl, rfl, rfl, _, Try.func21, by simp [results, Try.f21, Frame.at]⟩
set_option maxRecDepth 100000 in
set_option maxHeartbeats 1000000 in
theorem alive_calls (w : World) : Calls Try.prog 6 #[] w fun e w' => e = .returned (.bool true) ∧ Below w.heap.size w w' := by
  have hB1 : Below w.heap.size w ((w.alloc (.chan 1 #[] false 0 0 false)).alloc (.cells #[.chan (some w.heap.size)] 62)) := ((Below.refl _ _).alloc (Nat.le_refl _) _).alloc (by simp) _
  have hcell : ((w.alloc (.chan 1 #[] false 0 0 false)).alloc (.cells #[.chan (some w.heap.size)] 62)).cell? ⟨w.heap.size + 1, 0, none⟩ = some (.chan (some w.heap.size)) := by
    have h := heap_alloc_new (w.alloc (.chan 1 #[] false 0 0 false)) (.cells #[.chan (some w.heap.size)] 62)
    rw [show (w.alloc (.chan 1 #[] false 0 0 false)).heap.size = w.heap.size + 1 from by simp] at h
    show (match (((w.alloc (.chan 1 #[] false 0 0 false)).alloc (.cells #[.chan (some w.heap.size)] 62)).heap[w.heap.size + 1]?) with | some (.cells cs _ _) => cs[0]? | _ => none) = _
    rw [h]; rfl
  have hch : ((w.alloc (.chan 1 #[] false 0 0 false)).alloc (.cells #[.chan (some w.heap.size)] 62)).heap[w.heap.size]? = some (.chan 1 #[] false 0 0 false) := by
    rw [heap_alloc_old _ _ (by simp)]
    exact heap_alloc_new _ _
  go_enter Try.func6, Try.ntmps6
  go_wp2_with fail
  refine (newI 1 (by decide) (by decide) w).mono ?_
  rintro e w1 ⟨rfl, rfl⟩
  generalize ((w.alloc (.chan 1 #[] false 0 0 false)).alloc (.cells #[.chan (some w.heap.size)] 62)) = w1 at hB1 hcell hch ⊢
  have hsz : w.heap.size < w1.heap.size := by
    rcases Nat.lt_or_ge w.heap.size w1.heap.size with h | h
    · exact h
    · rw [Array.getElem?_eq_none h] at hch; cases hch
  have hcell2 : (w1.setChan w.heap.size 1 #[.int .i64 5] false 1 0 false).cell? ⟨w.heap.size + 1, 0, none⟩ = some (.chan (some w.heap.size)) := by
    rw [← hcell]; simp [World.setChan, World.cell?, Array.getElem?_setIfInBounds]
  have hch2 := heap_setChan w1 w.heap.size 1 #[.int .i64 5] false 1 0 false hsz
  have hB2 := below_setChan hB1 (Nat.le_refl _) 1 #[.int .i64 5] false 1 0 false
  have HP := Lib.hid (push_roomI w1 (w.heap.size + 1) w.heap.size 1 #[] 0 0 5 hcell hch (by decide))
  have HB2 := Lib.hid hB2
  have HCe := Lib.hid hcell2
  have HCh := Lib.hid hch2
  clear hB1 hcell hch hcell2 hch2 hB2
  go_wp2_with fail
  refine HP.out.mono ?_
  rintro e w2 ⟨rfl, rfl⟩
  simp only [List.push_toArray, List.nil_append]
  generalize w1.setChan w.heap.size 1 #[.int .i64 5] false 1 0 false = w2 at HB2 HCe HCh ⊢
  clear HP
  go_wp2_with fail
  refine (push_fullI w2 (w.heap.size + 1) w.heap.size 1 #[.int .i64 5] 1 0 6 HCe.out HCh.out (by decide)).mono ?_
  rintro e w3 ⟨rfl, rfl⟩
  go_wp2_with fail
  refine (pop_someI w3 (w.heap.size + 1) w.heap.size 1 1 0 HCe.out 5 [] HCh.out).mono ?_
  rintro e w4 ⟨rfl, rfl⟩
  have HB4 := Lib.hid (below_setChan HB2.out (Nat.le_refl w.heap.size) 1 #[] false 1 1 false)
  clear HCe HCh
  go_wp2_with fail
  go_ret
  exact ⟨rfl, HB4.out⟩
set_option maxRecDepth 100000 in
set_option maxHeartbeats 2000000 in
theorem queueNil_calls (w : World) (a0 : Int) (h0 : (Lit.int .i64 a0).wf = true) (a1 : Int) (h1 : (Lit.int .i64 a1).wf = true) :
    Calls Try.prog 5 #[.int .i64 a0, .int .i64 a1] w fun e w' => e = .returned (.bool true) ∧ Below w.heap.size w w' := by
  clear h0 h1
  go_enter Try.func5, Try.ntmps5
  go_wp2_with fail
  refine (alive_calls w).mono ?_
  rintro e w1 ⟨rfl, hb1⟩
  have hb2 : Below w.heap.size w ((w1.alloc (.chan 3 #[] false 0 0 false)).alloc (.cells #[.chan (some w1.heap.size)] 62)) := (hb1.alloc hb1.size _).alloc (by have := hb1.size; simp; omega) _
  have HB2 := Lib.hid hb2
  clear hb1 hb2
  go_wp2_with fail
  refine (newI 3 (by decide) (by decide) w1).mono ?_
  rintro e w2 ⟨rfl, rfl⟩
  generalize ((w1.alloc (.chan 3 #[] false 0 0 false)).alloc (.cells #[.chan (some w1.heap.size)] 62)) = w2 at HB2 ⊢
  generalize w1.heap.size + 1 = q
  go_wp2_with fail
  refine (pop_nilI w2).mono ?_
  rintro e w3 ⟨rfl, rfl⟩
  go_wp2_with fail
  refine (eitherNil w3).mono ?_
  rintro e w4 ⟨rfl, rfl⟩
  go_wp2_with fail
  refine (push_nilI w4 a0).mono ?_
  rintro e w5 ⟨rfl, rfl⟩
  go_wp2_with fail
  refine (lenNil w5).mono ?_
  rintro e w6 ⟨rfl, rfl⟩
  go_wp2_with fail
  refine (roomNil w6).mono ?_
  rintro e w7 ⟨rfl, rfl⟩
  go_wp2_with fail
  refine (moveNil1 (.pointer (some ⟨q, 0, none⟩)) a1 w7).mono ?_
  rintro e w8 ⟨rfl, rfl⟩
  go_wp2_with fail
  refine (moveNil2 ⟨q, 0, none⟩ a1 w8).mono ?_
  rintro e w9 ⟨rfl, rfl⟩
  go_wp2_with fail
  refine (allNil w9).mono ?_
  rintro e w10 ⟨rfl, rfl⟩
  go_wp2_with fail
  go_ret
  exact ⟨rfl, HB2.out⟩
end Go.Proofs.YtfoenpdfmhmkiaaLone
