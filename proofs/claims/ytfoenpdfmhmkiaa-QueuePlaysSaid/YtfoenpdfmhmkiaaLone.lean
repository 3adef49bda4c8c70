/- The queue's channel: Push and Pop, of things, in one goroutine (each a walk over the machine's own steps). Written by wip/c12/mk.py. -/
import Derived.Test.YtfoenpdfmhmkiaaRows
import Derived.Conc.LoneSelect
import Derived.Conc.LoneSelectN
import Derived.KernelRfl
import Derived.Laws.Rows
import Derived.WalkKit
set_option linter.unusedVariables false
set_option linter.unusedSimpArgs false
namespace Go.Proofs.YtfoenpdfmhmkiaaLone
open Go.Conc Go.RowKit

set_option maxRecDepth 100000 in
set_option maxHeartbeats 1000000 in
theorem push_roomS (w : World) (q c cap : Nat) (buf : Array Value) (s r : Nat) (x : ByteArray) (hq : w.cell? ⟨q, 0, none⟩ = some (.chan (some c))) (hc : w.heap[c]? = some (.chan cap buf false s r false)) (hroom : buf.size < cap) :
    Calls Try.prog 8 #[.pointer (some ⟨q, 0, none⟩), .string x] w fun e w' => e = .returned (.bool true) ∧ w' = w.setChan c cap (buf.push (.string x)) false (s + 1) r false := by
  refine calls_of_loneTo fun cs => ?_
  have e : Frame.enter Try.prog 8 #[.pointer (some ⟨q, 0, none⟩), .string x] .normal = (base 8).at ⟨#[.pointer (some ⟨q, 0, none⟩), .string x, undef, undef, undef, undef, undef, undef, undef, undef, undef], []⟩ [.code (Try.f8.body.getD .skip)] := by
    simp [Frame.enter, Frame.at, Try.func8, base, Try.f8]
  rw [e]
  refine LoneTo.goes (n := 100) ?_
  simp only [Try.f8, Option.getD_some]
  repeat (first | s_reg | s_op | s_c stepG_seq | s_c stepG_region_end | s_c stepG_skip | s_c stepG_block | s_cond true | s_cond false | s_exit)
  s_call Try.func22 (by kernel_rfl) Try.f22
  repeat (first | s_reg | s_op | s_c stepG_seq | s_c stepG_region_end | s_c stepG_skip | s_c stepG_block | s_cond true | s_cond false | s_exit)
  s_c stepG_ret'
  s_leave1 Try.func22
  repeat (first | s_reg | s_op | s_c stepG_seq | s_c stepG_region_end | s_c stepG_skip | s_c stepG_block | s_cond true | s_cond false | s_exit)
  s_stop
  refine LoneTo.step (step_lone_select_send_room (c := c) (cap := cap) (buf := buf) (s := s) (r := r) (tm := false) (z' := (.string ⟨#[]⟩)) (stepG_comm (cases := #[scase c (.string x) (.string ⟨#[]⟩)]) (blocking := false) (shape := .select) (w' := w) rfl rfl (by decide) (by simp [go_sem, execOp, scase, rcase, scaseNil, rcaseNil, Act.eval])) hc hroom) ?_
  rw [Frame.finish_at]
  walk_nrm
  refine LoneTo.goes (n := 100) ?_
  repeat (first | s_reg | s_op | s_c stepG_seq | s_c stepG_region_end | s_c stepG_skip | s_c stepG_block | s_cond true | s_cond false | s_exit)
  s_c stepG_ret'
  s_stop
  exact LoneTo.done ⟨.returned (.bool true), _, rfl, ⟨rfl, rfl⟩, rfl, rfl, rfl, rfl, _, Try.func8, by simp [results, Try.f8, Frame.at]⟩

set_option maxRecDepth 100000 in
set_option maxHeartbeats 1000000 in
theorem push_fullS (w : World) (q c cap : Nat) (buf : Array Value) (s r : Nat) (x : ByteArray) (hq : w.cell? ⟨q, 0, none⟩ = some (.chan (some c))) (hc : w.heap[c]? = some (.chan cap buf false s r false)) (hroom : cap ≤ buf.size) :
    Calls Try.prog 8 #[.pointer (some ⟨q, 0, none⟩), .string x] w fun e w' => e = .returned (.bool false) ∧ w' = w := by
  refine calls_of_loneTo fun cs => ?_
  have e : Frame.enter Try.prog 8 #[.pointer (some ⟨q, 0, none⟩), .string x] .normal = (base 8).at ⟨#[.pointer (some ⟨q, 0, none⟩), .string x, undef, undef, undef, undef, undef, undef, undef, undef, undef], []⟩ [.code (Try.f8.body.getD .skip)] := by
    simp [Frame.enter, Frame.at, Try.func8, base, Try.f8]
  rw [e]
  refine LoneTo.goes (n := 100) ?_
  simp only [Try.f8, Option.getD_some]
  repeat (first | s_reg | s_op | s_c stepG_seq | s_c stepG_region_end | s_c stepG_skip | s_c stepG_block | s_cond true | s_cond false | s_exit)
  s_call Try.func22 (by kernel_rfl) Try.f22
  repeat (first | s_reg | s_op | s_c stepG_seq | s_c stepG_region_end | s_c stepG_skip | s_c stepG_block | s_cond true | s_cond false | s_exit)
  s_c stepG_ret'
  s_leave1 Try.func22
  repeat (first | s_reg | s_op | s_c stepG_seq | s_c stepG_region_end | s_c stepG_skip | s_c stepG_block | s_cond true | s_cond false | s_exit)
  s_stop
  refine LoneTo.step (step_lone_select_send_full (c := c) (cap := cap) (buf := buf) (s := s) (r := r) (tm := false) (z' := (.string ⟨#[]⟩)) (stepG_comm (cases := #[scase c (.string x) (.string ⟨#[]⟩)]) (blocking := false) (shape := .select) (w' := w) rfl rfl (by decide) (by simp [go_sem, execOp, scase, rcase, scaseNil, rcaseNil, Act.eval])) hc hroom) ?_
  rw [Frame.finish_at]
  walk_nrm
  refine LoneTo.goes (n := 100) ?_
  repeat (first | s_reg | s_op | s_c stepG_seq | s_c stepG_region_end | s_c stepG_skip | s_c stepG_block | s_cond true | s_cond false | s_exit)
  s_c stepG_ret'
  s_stop
  exact LoneTo.done ⟨.returned (.bool false), _, rfl, ⟨rfl, rfl⟩, rfl, rfl, rfl, rfl, _, Try.func8, by simp [results, Try.f8, Frame.at]⟩

set_option maxRecDepth 100000 in
set_option maxHeartbeats 1000000 in
theorem push_nilS (w : World) (x : ByteArray) :
    Calls Try.prog 8 #[.pointer none, .string x] w fun e w' => e = .returned (.bool false) ∧ w' = w := by
  refine calls_of_loneTo fun cs => ?_
  have e : Frame.enter Try.prog 8 #[.pointer none, .string x] .normal = (base 8).at ⟨#[.pointer none, .string x, undef, undef, undef, undef, undef, undef, undef, undef, undef], []⟩ [.code (Try.f8.body.getD .skip)] := by
    simp [Frame.enter, Frame.at, Try.func8, base, Try.f8]
  rw [e]
  refine LoneTo.goes (n := 100) ?_
  simp only [Try.f8, Option.getD_some]
  repeat (first | s_reg | s_op | s_c stepG_seq | s_c stepG_region_end | s_c stepG_skip | s_c stepG_block | s_cond true | s_cond false | s_exit)
  s_call Try.func22 (by kernel_rfl) Try.f22
  repeat (first | s_reg | s_op | s_c stepG_seq | s_c stepG_region_end | s_c stepG_skip | s_c stepG_block | s_cond true | s_cond false | s_exit)
  s_c stepG_ret'
  s_leave1 Try.func22
  repeat (first | s_reg | s_op | s_c stepG_seq | s_c stepG_region_end | s_c stepG_skip | s_c stepG_block | s_cond true | s_cond false | s_exit)
  s_stop
  refine LoneTo.step (step_lone_select_send_nil (v := (.string x)) (z' := (.string ⟨#[]⟩)) (stepG_comm (cases := #[scaseNil (.string x) (.string ⟨#[]⟩)]) (blocking := false) (shape := .select) (w' := w) rfl rfl (by decide) (by simp [go_sem, execOp, scase, rcase, scaseNil, rcaseNil, Act.eval]))) ?_
  rw [Frame.finish_at]
  walk_nrm
  refine LoneTo.goes (n := 100) ?_
  repeat (first | s_reg | s_op | s_c stepG_seq | s_c stepG_region_end | s_c stepG_skip | s_c stepG_block | s_cond true | s_cond false | s_exit)
  s_c stepG_ret'
  s_stop
  exact LoneTo.done ⟨.returned (.bool false), _, rfl, ⟨rfl, rfl⟩, rfl, rfl, rfl, rfl, _, Try.func8, by simp [results, Try.f8, Frame.at]⟩

set_option maxRecDepth 100000 in
set_option maxHeartbeats 1000000 in
theorem pop_someS (w : World) (q c cap : Nat) (s r : Nat) (hq : w.cell? ⟨q, 0, none⟩ = some (.chan (some c))) (x : ByteArray) (rest : List Value) (hc : w.heap[c]? = some (.chan cap ((.string x) :: rest).toArray false s r false)) :
    Calls Try.prog 24 #[.pointer (some ⟨q, 0, none⟩)] w fun e w' => e = .returned (.tuple #[.string x, .bool true]) ∧ w' = w.setChan c cap rest.toArray false s (r + 1) false := by
  refine calls_of_loneTo fun cs => ?_
  have e : Frame.enter Try.prog 24 #[.pointer (some ⟨q, 0, none⟩)] .normal = (base 24).at ⟨#[.pointer (some ⟨q, 0, none⟩), undef, undef, undef, undef, undef, undef, undef, undef, undef, undef, undef, undef, undef], []⟩ [.code (Try.f24.body.getD .skip)] := by
    simp [Frame.enter, Frame.at, Try.func24, base, Try.f24]
  rw [e]
  refine LoneTo.goes (n := 100) ?_
  simp only [Try.f24, Option.getD_some]
  repeat (first | s_reg | s_op | s_c stepG_seq | s_c stepG_region_end | s_c stepG_skip | s_c stepG_block | s_cond true | s_cond false | s_exit)
  s_call Try.func22 (by kernel_rfl) Try.f22
  repeat (first | s_reg | s_op | s_c stepG_seq | s_c stepG_region_end | s_c stepG_skip | s_c stepG_block | s_cond true | s_cond false | s_exit)
  s_c stepG_ret'
  s_leave1 Try.func22
  repeat (first | s_reg | s_op | s_c stepG_seq | s_c stepG_region_end | s_c stepG_skip | s_c stepG_block | s_cond true | s_cond false | s_exit)
  s_stop
  refine LoneTo.step (step_lone_select_recv_buf (c := c) (cap := cap) (buf := ((.string x) :: rest).toArray) (s := s) (r := r) (tm := false) (z := (.string ⟨#[]⟩)) (stepG_comm (cases := #[rcase c (.string ⟨#[]⟩)]) (blocking := false) (shape := .select) (w' := w) rfl rfl (by decide) (by simp [go_sem, execOp, scase, rcase, scaseNil, rcaseNil, Act.eval])) hc (by simp)) ?_
  rw [Frame.finish_at]
  walk_nrm
  refine LoneTo.goes (n := 100) ?_
  repeat (first | s_reg | s_op | s_c stepG_seq | s_c stepG_region_end | s_c stepG_skip | s_c stepG_block | s_cond true | s_cond false | s_exit)
  s_c stepG_ret'
  s_stop
  exact LoneTo.done ⟨.returned (.tuple #[.string x, .bool true]), _, rfl, ⟨rfl, rfl⟩, rfl, rfl, rfl, rfl, _, Try.func24, by simp [results, Try.f24, Frame.at]⟩

set_option maxRecDepth 100000 in
set_option maxHeartbeats 1000000 in
theorem pop_noneS (w : World) (q c cap : Nat) (s r : Nat) (hq : w.cell? ⟨q, 0, none⟩ = some (.chan (some c))) (hc : w.heap[c]? = some (.chan cap #[] false s r false)) :
    Calls Try.prog 24 #[.pointer (some ⟨q, 0, none⟩)] w fun e w' => e = .returned (.tuple #[.string ⟨#[]⟩, .bool false]) ∧ w' = w := by
  refine calls_of_loneTo fun cs => ?_
  have e : Frame.enter Try.prog 24 #[.pointer (some ⟨q, 0, none⟩)] .normal = (base 24).at ⟨#[.pointer (some ⟨q, 0, none⟩), undef, undef, undef, undef, undef, undef, undef, undef, undef, undef, undef, undef, undef], []⟩ [.code (Try.f24.body.getD .skip)] := by
    simp [Frame.enter, Frame.at, Try.func24, base, Try.f24]
  rw [e]
  refine LoneTo.goes (n := 100) ?_
  simp only [Try.f24, Option.getD_some]
  repeat (first | s_reg | s_op | s_c stepG_seq | s_c stepG_region_end | s_c stepG_skip | s_c stepG_block | s_cond true | s_cond false | s_exit)
  s_call Try.func22 (by kernel_rfl) Try.f22
  repeat (first | s_reg | s_op | s_c stepG_seq | s_c stepG_region_end | s_c stepG_skip | s_c stepG_block | s_cond true | s_cond false | s_exit)
  s_c stepG_ret'
  s_leave1 Try.func22
  repeat (first | s_reg | s_op | s_c stepG_seq | s_c stepG_region_end | s_c stepG_skip | s_c stepG_block | s_cond true | s_cond false | s_exit)
  s_stop
  refine LoneTo.step (step_lone_select_default (c := c) (cap := cap) (s := s) (r := r) (tm := false) (z := (.string ⟨#[]⟩)) (stepG_comm (cases := #[rcase c (.string ⟨#[]⟩)]) (blocking := false) (shape := .select) (w' := w) rfl rfl (by decide) (by simp [go_sem, execOp, scase, rcase, scaseNil, rcaseNil, Act.eval])) hc) ?_
  rw [Frame.finish_at]
  walk_nrm
  refine LoneTo.goes (n := 100) ?_
  repeat (first | s_reg | s_op | s_c stepG_seq | s_c stepG_region_end | s_c stepG_skip | s_c stepG_block | s_cond true | s_cond false | s_exit)
  s_c stepG_ret'
  s_stop
  exact LoneTo.done ⟨.returned (.tuple #[.string ⟨#[]⟩, .bool false]), _, rfl, ⟨rfl, rfl⟩, rfl, rfl, rfl, rfl, _, Try.func24, by simp [results, Try.f24, Frame.at]⟩

set_option maxRecDepth 100000 in
set_option maxHeartbeats 1000000 in
theorem pop_nilS (w : World)  :
    Calls Try.prog 24 #[.pointer none] w fun e w' => e = .returned (.tuple #[.string ⟨#[]⟩, .bool false]) ∧ w' = w := by
  refine calls_of_loneTo fun cs => ?_
  have e : Frame.enter Try.prog 24 #[.pointer none] .normal = (base 24).at ⟨#[.pointer none, undef, undef, undef, undef, undef, undef, undef, undef, undef, undef, undef, undef, undef], []⟩ [.code (Try.f24.body.getD .skip)] := by
    simp [Frame.enter, Frame.at, Try.func24, base, Try.f24]
  rw [e]
  refine LoneTo.goes (n := 100) ?_
  simp only [Try.f24, Option.getD_some]
  repeat (first | s_reg | s_op | s_c stepG_seq | s_c stepG_region_end | s_c stepG_skip | s_c stepG_block | s_cond true | s_cond false | s_exit)
  s_call Try.func22 (by kernel_rfl) Try.f22
  repeat (first | s_reg | s_op | s_c stepG_seq | s_c stepG_region_end | s_c stepG_skip | s_c stepG_block | s_cond true | s_cond false | s_exit)
  s_c stepG_ret'
  s_leave1 Try.func22
  repeat (first | s_reg | s_op | s_c stepG_seq | s_c stepG_region_end | s_c stepG_skip | s_c stepG_block | s_cond true | s_cond false | s_exit)
  s_stop
  refine LoneTo.step (step_lone_select_recv_nil (z := (.string ⟨#[]⟩)) (stepG_comm (cases := #[rcaseNil (.string ⟨#[]⟩)]) (blocking := false) (shape := .select) (w' := w) rfl rfl (by decide) (by simp [go_sem, execOp, scase, rcase, scaseNil, rcaseNil, Act.eval]))) ?_
  rw [Frame.finish_at]
  walk_nrm
  refine LoneTo.goes (n := 100) ?_
  repeat (first | s_reg | s_op | s_c stepG_seq | s_c stepG_region_end | s_c stepG_skip | s_c stepG_block | s_cond true | s_cond false | s_exit)
  s_c stepG_ret'
  s_stop
  exact LoneTo.done ⟨.returned (.tuple #[.string ⟨#[]⟩, .bool false]), _, rfl, ⟨rfl, rfl⟩, rfl, rfl, rfl, rfl, _, Try.func24, by simp [results, Try.f24, Frame.at]⟩

set_option maxRecDepth 100000 in
set_option maxHeartbeats 1000000 in
theorem push_roomI (w : World) (q c cap : Nat) (buf : Array Value) (s r : Nat) (x : Int) (hq : w.cell? ⟨q, 0, none⟩ = some (.chan (some c))) (hc : w.heap[c]? = some (.chan cap buf false s r false)) (hroom : buf.size < cap) :
    Calls Try.prog 17 #[.pointer (some ⟨q, 0, none⟩), .int .i64 x] w fun e w' => e = .returned (.bool true) ∧ w' = w.setChan c cap (buf.push (.int .i64 x)) false (s + 1) r false := by
  refine calls_of_loneTo fun cs => ?_
  have e : Frame.enter Try.prog 17 #[.pointer (some ⟨q, 0, none⟩), .int .i64 x] .normal = (base 17).at ⟨#[.pointer (some ⟨q, 0, none⟩), .int .i64 x, undef, undef, undef, undef, undef, undef, undef, undef, undef], []⟩ [.code (Try.f17.body.getD .skip)] := by
    simp [Frame.enter, Frame.at, Try.func17, base, Try.f17]
  rw [e]
  refine LoneTo.goes (n := 100) ?_
  simp only [Try.f17, Option.getD_some]
  repeat (first | s_reg | s_op | s_c stepG_seq | s_c stepG_region_end | s_c stepG_skip | s_c stepG_block | s_cond true | s_cond false | s_exit)
  s_call Try.func29 (by kernel_rfl) Try.f29
  repeat (first | s_reg | s_op | s_c stepG_seq | s_c stepG_region_end | s_c stepG_skip | s_c stepG_block | s_cond true | s_cond false | s_exit)
  s_c stepG_ret'
  s_leave1 Try.func29
  repeat (first | s_reg | s_op | s_c stepG_seq | s_c stepG_region_end | s_c stepG_skip | s_c stepG_block | s_cond true | s_cond false | s_exit)
  s_stop
  refine LoneTo.step (step_lone_select_send_room (c := c) (cap := cap) (buf := buf) (s := s) (r := r) (tm := false) (z' := (.int .i64 0)) (stepG_comm (cases := #[scase c (.int .i64 x) (.int .i64 0)]) (blocking := false) (shape := .select) (w' := w) rfl rfl (by decide) (by simp [go_sem, execOp, scase, rcase, scaseNil, rcaseNil, Act.eval])) hc hroom) ?_
  rw [Frame.finish_at]
  walk_nrm
  refine LoneTo.goes (n := 100) ?_
  repeat (first | s_reg | s_op | s_c stepG_seq | s_c stepG_region_end | s_c stepG_skip | s_c stepG_block | s_cond true | s_cond false | s_exit)
  s_c stepG_ret'
  s_stop
  exact LoneTo.done ⟨.returned (.bool true), _, rfl, ⟨rfl, rfl⟩, rfl, rfl, rfl, rfl, _, Try.func17, by simp [results, Try.f17, Frame.at]⟩

set_option maxRecDepth 100000 in
set_option maxHeartbeats 1000000 in
theorem push_fullI (w : World) (q c cap : Nat) (buf : Array Value) (s r : Nat) (x : Int) (hq : w.cell? ⟨q, 0, none⟩ = some (.chan (some c))) (hc : w.heap[c]? = some (.chan cap buf false s r false)) (hroom : cap ≤ buf.size) :
    Calls Try.prog 17 #[.pointer (some ⟨q, 0, none⟩), .int .i64 x] w fun e w' => e = .returned (.bool false) ∧ w' = w := by
  refine calls_of_loneTo fun cs => ?_
  have e : Frame.enter Try.prog 17 #[.pointer (some ⟨q, 0, none⟩), .int .i64 x] .normal = (base 17).at ⟨#[.pointer (some ⟨q, 0, none⟩), .int .i64 x, undef, undef, undef, undef, undef, undef, undef, undef, undef], []⟩ [.code (Try.f17.body.getD .skip)] := by
    simp [Frame.enter, Frame.at, Try.func17, base, Try.f17]
  rw [e]
  refine LoneTo.goes (n := 100) ?_
  simp only [Try.f17, Option.getD_some]
  repeat (first | s_reg | s_op | s_c stepG_seq | s_c stepG_region_end | s_c stepG_skip | s_c stepG_block | s_cond true | s_cond false | s_exit)
  s_call Try.func29 (by kernel_rfl) Try.f29
  repeat (first | s_reg | s_op | s_c stepG_seq | s_c stepG_region_end | s_c stepG_skip | s_c stepG_block | s_cond true | s_cond false | s_exit)
  s_c stepG_ret'
  s_leave1 Try.func29
  repeat (first | s_reg | s_op | s_c stepG_seq | s_c stepG_region_end | s_c stepG_skip | s_c stepG_block | s_cond true | s_cond false | s_exit)
  s_stop
  refine LoneTo.step (step_lone_select_send_full (c := c) (cap := cap) (buf := buf) (s := s) (r := r) (tm := false) (z' := (.int .i64 0)) (stepG_comm (cases := #[scase c (.int .i64 x) (.int .i64 0)]) (blocking := false) (shape := .select) (w' := w) rfl rfl (by decide) (by simp [go_sem, execOp, scase, rcase, scaseNil, rcaseNil, Act.eval])) hc hroom) ?_
  rw [Frame.finish_at]
  walk_nrm
  refine LoneTo.goes (n := 100) ?_
  repeat (first | s_reg | s_op | s_c stepG_seq | s_c stepG_region_end | s_c stepG_skip | s_c stepG_block | s_cond true | s_cond false | s_exit)
  s_c stepG_ret'
  s_stop
  exact LoneTo.done ⟨.returned (.bool false), _, rfl, ⟨rfl, rfl⟩, rfl, rfl, rfl, rfl, _, Try.func17, by simp [results, Try.f17, Frame.at]⟩

set_option maxRecDepth 100000 in
set_option maxHeartbeats 1000000 in
theorem push_nilI (w : World) (x : Int) :
    Calls Try.prog 17 #[.pointer none, .int .i64 x] w fun e w' => e = .returned (.bool false) ∧ w' = w := by
  refine calls_of_loneTo fun cs => ?_
  have e : Frame.enter Try.prog 17 #[.pointer none, .int .i64 x] .normal = (base 17).at ⟨#[.pointer none, .int .i64 x, undef, undef, undef, undef, undef, undef, undef, undef, undef], []⟩ [.code (Try.f17.body.getD .skip)] := by
    simp [Frame.enter, Frame.at, Try.func17, base, Try.f17]
  rw [e]
  refine LoneTo.goes (n := 100) ?_
  simp only [Try.f17, Option.getD_some]
  repeat (first | s_reg | s_op | s_c stepG_seq | s_c stepG_region_end | s_c stepG_skip | s_c stepG_block | s_cond true | s_cond false | s_exit)
  s_call Try.func29 (by kernel_rfl) Try.f29
  repeat (first | s_reg | s_op | s_c stepG_seq | s_c stepG_region_end | s_c stepG_skip | s_c stepG_block | s_cond true | s_cond false | s_exit)
  s_c stepG_ret'
  s_leave1 Try.func29
  repeat (first | s_reg | s_op | s_c stepG_seq | s_c stepG_region_end | s_c stepG_skip | s_c stepG_block | s_cond true | s_cond false | s_exit)
  s_stop
  refine LoneTo.step (step_lone_select_send_nil (v := (.int .i64 x)) (z' := (.int .i64 0)) (stepG_comm (cases := #[scaseNil (.int .i64 x) (.int .i64 0)]) (blocking := false) (shape := .select) (w' := w) rfl rfl (by decide) (by simp [go_sem, execOp, scase, rcase, scaseNil, rcaseNil, Act.eval]))) ?_
  rw [Frame.finish_at]
  walk_nrm
  refine LoneTo.goes (n := 100) ?_
  repeat (first | s_reg | s_op | s_c stepG_seq | s_c stepG_region_end | s_c stepG_skip | s_c stepG_block | s_cond true | s_cond false | s_exit)
  s_c stepG_ret'
  s_stop
  exact LoneTo.done ⟨.returned (.bool false), _, rfl, ⟨rfl, rfl⟩, rfl, rfl, rfl, rfl, _, Try.func17, by simp [results, Try.f17, Frame.at]⟩

set_option maxRecDepth 100000 in
set_option maxHeartbeats 1000000 in
theorem pop_someI (w : World) (q c cap : Nat) (s r : Nat) (hq : w.cell? ⟨q, 0, none⟩ = some (.chan (some c))) (x : Int) (rest : List Value) (hc : w.heap[c]? = some (.chan cap ((.int .i64 x) :: rest).toArray false s r false)) :
    Calls Try.prog 15 #[.pointer (some ⟨q, 0, none⟩)] w fun e w' => e = .returned (.tuple #[.int .i64 x, .bool true]) ∧ w' = w.setChan c cap rest.toArray false s (r + 1) false := by
  refine calls_of_loneTo fun cs => ?_
  have e : Frame.enter Try.prog 15 #[.pointer (some ⟨q, 0, none⟩)] .normal = (base 15).at ⟨#[.pointer (some ⟨q, 0, none⟩), undef, undef, undef, undef, undef, undef, undef, undef, undef, undef, undef, undef, undef], []⟩ [.code (Try.f15.body.getD .skip)] := by
    simp [Frame.enter, Frame.at, Try.func15, base, Try.f15]
  rw [e]
  refine LoneTo.goes (n := 100) ?_
  simp only [Try.f15, Option.getD_some]
  repeat (first | s_reg | s_op | s_c stepG_seq | s_c stepG_region_end | s_c stepG_skip | s_c stepG_block | s_cond true | s_cond false | s_exit)
  s_call Try.func29 (by kernel_rfl) Try.f29
  repeat (first | s_reg | s_op | s_c stepG_seq | s_c stepG_region_end | s_c stepG_skip | s_c stepG_block | s_cond true | s_cond false | s_exit)
  s_c stepG_ret'
  s_leave1 Try.func29
  repeat (first | s_reg | s_op | s_c stepG_seq | s_c stepG_region_end | s_c stepG_skip | s_c stepG_block | s_cond true | s_cond false | s_exit)
  s_stop
  refine LoneTo.step (step_lone_select_recv_buf (c := c) (cap := cap) (buf := ((.int .i64 x) :: rest).toArray) (s := s) (r := r) (tm := false) (z := (.int .i64 0)) (stepG_comm (cases := #[rcase c (.int .i64 0)]) (blocking := false) (shape := .select) (w' := w) rfl rfl (by decide) (by simp [go_sem, execOp, scase, rcase, scaseNil, rcaseNil, Act.eval])) hc (by simp)) ?_
  rw [Frame.finish_at]
  walk_nrm
  refine LoneTo.goes (n := 100) ?_
  repeat (first | s_reg | s_op | s_c stepG_seq | s_c stepG_region_end | s_c stepG_skip | s_c stepG_block | s_cond true | s_cond false | s_exit)
  s_c stepG_ret'
  s_stop
  exact LoneTo.done ⟨.returned (.tuple #[.int .i64 x, .bool true]), _, rfl, ⟨rfl, rfl⟩, rfl, rfl, rfl, rfl, _, Try.func15, by simp [results, Try.f15, Frame.at]⟩

set_option maxRecDepth 100000 in
set_option maxHeartbeats 1000000 in
theorem pop_noneI (w : World) (q c cap : Nat) (s r : Nat) (hq : w.cell? ⟨q, 0, none⟩ = some (.chan (some c))) (hc : w.heap[c]? = some (.chan cap #[] false s r false)) :
    Calls Try.prog 15 #[.pointer (some ⟨q, 0, none⟩)] w fun e w' => e = .returned (.tuple #[.int .i64 0, .bool false]) ∧ w' = w := by
  refine calls_of_loneTo fun cs => ?_
  have e : Frame.enter Try.prog 15 #[.pointer (some ⟨q, 0, none⟩)] .normal = (base 15).at ⟨#[.pointer (some ⟨q, 0, none⟩), undef, undef, undef, undef, undef, undef, undef, undef, undef, undef, undef, undef, undef], []⟩ [.code (Try.f15.body.getD .skip)] := by
    simp [Frame.enter, Frame.at, Try.func15, base, Try.f15]
  rw [e]
  refine LoneTo.goes (n := 100) ?_
  simp only [Try.f15, Option.getD_some]
  repeat (first | s_reg | s_op | s_c stepG_seq | s_c stepG_region_end | s_c stepG_skip | s_c stepG_block | s_cond true | s_cond false | s_exit)
  s_call Try.func29 (by kernel_rfl) Try.f29
  repeat (first | s_reg | s_op | s_c stepG_seq | s_c stepG_region_end | s_c stepG_skip | s_c stepG_block | s_cond true | s_cond false | s_exit)
  s_c stepG_ret'
  s_leave1 Try.func29
  repeat (first | s_reg | s_op | s_c stepG_seq | s_c stepG_region_end | s_c stepG_skip | s_c stepG_block | s_cond true | s_cond false | s_exit)
  s_stop
  refine LoneTo.step (step_lone_select_default (c := c) (cap := cap) (s := s) (r := r) (tm := false) (z := (.int .i64 0)) (stepG_comm (cases := #[rcase c (.int .i64 0)]) (blocking := false) (shape := .select) (w' := w) rfl rfl (by decide) (by simp [go_sem, execOp, scase, rcase, scaseNil, rcaseNil, Act.eval])) hc) ?_
  rw [Frame.finish_at]
  walk_nrm
  refine LoneTo.goes (n := 100) ?_
  repeat (first | s_reg | s_op | s_c stepG_seq | s_c stepG_region_end | s_c stepG_skip | s_c stepG_block | s_cond true | s_cond false | s_exit)
  s_c stepG_ret'
  s_stop
  exact LoneTo.done ⟨.returned (.tuple #[.int .i64 0, .bool false]), _, rfl, ⟨rfl, rfl⟩, rfl, rfl, rfl, rfl, _, Try.func15, by simp [results, Try.f15, Frame.at]⟩

set_option maxRecDepth 100000 in
set_option maxHeartbeats 1000000 in
theorem pop_nilI (w : World)  :
    Calls Try.prog 15 #[.pointer none] w fun e w' => e = .returned (.tuple #[.int .i64 0, .bool false]) ∧ w' = w := by
  refine calls_of_loneTo fun cs => ?_
  have e : Frame.enter Try.prog 15 #[.pointer none] .normal = (base 15).at ⟨#[.pointer none, undef, undef, undef, undef, undef, undef, undef, undef, undef, undef, undef, undef, undef], []⟩ [.code (Try.f15.body.getD .skip)] := by
    simp [Frame.enter, Frame.at, Try.func15, base, Try.f15]
  rw [e]
  refine LoneTo.goes (n := 100) ?_
  simp only [Try.f15, Option.getD_some]
  repeat (first | s_reg | s_op | s_c stepG_seq | s_c stepG_region_end | s_c stepG_skip | s_c stepG_block | s_cond true | s_cond false | s_exit)
  s_call Try.func29 (by kernel_rfl) Try.f29
  repeat (first | s_reg | s_op | s_c stepG_seq | s_c stepG_region_end | s_c stepG_skip | s_c stepG_block | s_cond true | s_cond false | s_exit)
  s_c stepG_ret'
  s_leave1 Try.func29
  repeat (first | s_reg | s_op | s_c stepG_seq | s_c stepG_region_end | s_c stepG_skip | s_c stepG_block | s_cond true | s_cond false | s_exit)
  s_stop
  refine LoneTo.step (step_lone_select_recv_nil (z := (.int .i64 0)) (stepG_comm (cases := #[rcaseNil (.int .i64 0)]) (blocking := false) (shape := .select) (w' := w) rfl rfl (by decide) (by simp [go_sem, execOp, scase, rcase, scaseNil, rcaseNil, Act.eval]))) ?_
  rw [Frame.finish_at]
  walk_nrm
  refine LoneTo.goes (n := 100) ?_
  repeat (first | s_reg | s_op | s_c stepG_seq | s_c stepG_region_end | s_c stepG_skip | s_c stepG_block | s_cond true | s_cond false | s_exit)
  s_c stepG_ret'
  s_stop
  exact LoneTo.done ⟨.returned (.tuple #[.int .i64 0, .bool false]), _, rfl, ⟨rfl, rfl⟩, rfl, rfl, rfl, rfl, _, Try.func15, by simp [results, Try.f15, Frame.at]⟩

end Go.Proofs.YtfoenpdfmhmkiaaLone
