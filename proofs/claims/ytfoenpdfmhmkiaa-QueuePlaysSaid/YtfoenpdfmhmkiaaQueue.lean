/- The queue's other small functions: New, channel, Len, Room of a queue that is there. Written by wip/c12/mkq.py. -/
import Derived.Test.YtfoenpdfmhmkiaaLone
import Derived.Tactics
import Derived.Tactics2
import Derived.Lib.Hide
import Derived.Below
import Derived.IntWalk
import Derived.Laws.IdiomRangeMap
set_option linter.unusedVariables false
set_option linter.unusedSimpArgs false
namespace Go.Proofs.YtfoenpdfmhmkiaaLone
open Go.Conc Go.RowKit

theorem mkS (n : Nat) (hn : n ≤ 4096) (w : World) : (Instr.makeChan 54 (.int .i64 (n : Int))).run Try.prog w = .ok (.chan (some w.heap.size)) (w.alloc (.chan n #[] false 0 0 false)) := by
  have h : (Try.prog.info? 9).map (·.bytes) = some 16 := by kernel_rfl
  obtain ⟨i, hi, hb⟩ := Option.map_eq_some_iff.1 h
  simpa using run_makeChan (P := Try.prog) (w := w) Try.underlying54 hi .i64 n (by omega) (by rw [hb]; omega)
set_option maxRecDepth 100000 in
theorem newS (n : Nat) (h1 : 1 ≤ n) (h2 : n ≤ 4096) (w : World) :
    Calls Try.prog 7 #[.int .i64 (n : Int)] w fun e w' => e = .returned (.pointer (some ⟨w.heap.size + 1, 0, none⟩)) ∧ w' = (w.alloc (.chan n #[] false 0 0 false)).alloc (.cells #[.chan (some w.heap.size)] 56) := by
  have d1 : decide ((n : Int) < 1) = false := decide_eq_false (by omega)
  have d2 : decide (4096 < (n : Int)) = false := decide_eq_false (by omega)
  have hm := mkS n h2
  go_enter Try.func7, Try.ntmps7
  go_wp2_with fail
  go_ret
  exact ⟨by simp [World.alloc], rfl⟩
set_option maxRecDepth 100000 in
theorem channelS (w : World) (q c : Nat) (hq : w.cell? ⟨q, 0, none⟩ = some (.chan (some c))) : Calls Try.prog 22 #[.pointer (some ⟨q, 0, none⟩)] w fun e w' => e = .returned (.chan (some c)) ∧ w' = w := by
  go_enter Try.func22, Try.ntmps22
  go_wp2_with fail
  go_ret
  exact ⟨rfl, rfl⟩
set_option maxRecDepth 100000 in
theorem lenS (w : World) (q c cap : Nat) (buf : Array Value) (s r : Nat) (hq : w.cell? ⟨q, 0, none⟩ = some (.chan (some c))) (hc : w.heap[c]? = some (.chan cap buf false s r false)) : Calls Try.prog 10 #[.pointer (some ⟨q, 0, none⟩)] w fun e w' => e = .returned (.int .i64 (buf.size : Int)) ∧ w' = w := by
  have hl : (Builtin.len_ #[54] 3 #[.chan (some c)]).run Try.prog w = .ok (.int .i64 (buf.size : Int)) w := run_len_chan 54 3 Try.underlying54 hc
  have HC := Lib.hid (channelS w q c hq)
  clear hq
  go_enter Try.func10, Try.ntmps10
  go_wp2_with fail
  refine HC.out.mono ?_
  rintro e w' ⟨rfl, rfl⟩
  clear HC
  go_wp2_with fail
  go_ret
  exact ⟨rfl, rfl⟩
set_option maxRecDepth 100000 in
theorem roomS (w : World) (q c cap : Nat) (buf : Array Value) (s r : Nat) (hq : w.cell? ⟨q, 0, none⟩ = some (.chan (some c))) (hc : w.heap[c]? = some (.chan cap buf false s r false)) (hs : buf.size ≤ cap) (hcap : cap ≤ 4096) : Calls Try.prog 23 #[.pointer (some ⟨q, 0, none⟩)] w fun e w' => e = .returned (.int .i64 ((cap : Int) - (buf.size : Int))) ∧ w' = w := by
  have hl : (Builtin.len_ #[54] 3 #[.chan (some c)]).run Try.prog w = .ok (.int .i64 (buf.size : Int)) w := run_len_chan 54 3 Try.underlying54 hc
  have hp : (Builtin.cap_ #[54] 3 #[.chan (some c)]).run Try.prog w = .ok (.int .i64 (cap : Int)) w := run_cap_chan 54 3 Try.underlying54 hc
  have hb : -9223372036854775808 ≤ (cap : Int) - (buf.size : Int) ∧ (cap : Int) - (buf.size : Int) ≤ 9223372036854775807 := by omega
  have hw : wrap64 ((cap : Int) - (buf.size : Int)) = (cap : Int) - (buf.size : Int) := IntWalk.wrap64_in _ hb
  have HC := Lib.hid (channelS w q c hq)
  generalize buf.size = m at hl hw ⊢
  clear hq hc hs hcap hb
  go_enter Try.func23, Try.ntmps23
  go_wp2_with fail
  refine HC.out.mono ?_
  rintro e w' ⟨rfl, rfl⟩
  go_wp2_with fail
  refine HC.out.mono ?_
  rintro e w'' ⟨rfl, rfl⟩
  clear HC
  go_wp2_with fail
  go_ret
  exact ⟨congrArg (fun x => Ending.returned (Value.int .i64 x)) hw, rfl⟩

theorem mkJ (n : Nat) (hn : n ≤ 4096) (w : World) : (Instr.makeChan 60 (.int .i64 (n : Int))).run Try.prog w = .ok (.chan (some w.heap.size)) (w.alloc (.chan n #[] false 0 0 false)) := by
  have h : (Try.prog.info? 3).map (·.bytes) = some 8 := by kernel_rfl
  obtain ⟨i, hi, hb⟩ := Option.map_eq_some_iff.1 h
  simpa using run_makeChan (P := Try.prog) (w := w) Try.underlying60 hi .i64 n (by omega) (by rw [hb]; omega)
set_option maxRecDepth 100000 in
theorem newJ (n : Nat) (h1 : 1 ≤ n) (h2 : n ≤ 4096) (w : World) :
    Calls Try.prog 12 #[.int .i64 (n : Int)] w fun e w' => e = .returned (.pointer (some ⟨w.heap.size + 1, 0, none⟩)) ∧ w' = (w.alloc (.chan n #[] false 0 0 false)).alloc (.cells #[.chan (some w.heap.size)] 62) := by
  have d1 : decide ((n : Int) < 1) = false := decide_eq_false (by omega)
  have d2 : decide (4096 < (n : Int)) = false := decide_eq_false (by omega)
  have hm := mkJ n h2
  go_enter Try.func12, Try.ntmps12
  go_wp2_with fail
  go_ret
  exact ⟨by simp [World.alloc], rfl⟩
set_option maxRecDepth 100000 in
theorem channelJ (w : World) (q c : Nat) (hq : w.cell? ⟨q, 0, none⟩ = some (.chan (some c))) : Calls Try.prog 29 #[.pointer (some ⟨q, 0, none⟩)] w fun e w' => e = .returned (.chan (some c)) ∧ w' = w := by
  go_enter Try.func29, Try.ntmps29
  go_wp2_with fail
  go_ret
  exact ⟨rfl, rfl⟩
set_option maxRecDepth 100000 in
theorem lenJ (w : World) (q c cap : Nat) (buf : Array Value) (s r : Nat) (hq : w.cell? ⟨q, 0, none⟩ = some (.chan (some c))) (hc : w.heap[c]? = some (.chan cap buf false s r false)) : Calls Try.prog 18 #[.pointer (some ⟨q, 0, none⟩)] w fun e w' => e = .returned (.int .i64 (buf.size : Int)) ∧ w' = w := by
  have hl : (Builtin.len_ #[60] 3 #[.chan (some c)]).run Try.prog w = .ok (.int .i64 (buf.size : Int)) w := run_len_chan 60 3 Try.underlying60 hc
  have HC := Lib.hid (channelJ w q c hq)
  clear hq
  go_enter Try.func18, Try.ntmps18
  go_wp2_with fail
  refine HC.out.mono ?_
  rintro e w' ⟨rfl, rfl⟩
  clear HC
  go_wp2_with fail
  go_ret
  exact ⟨rfl, rfl⟩
set_option maxRecDepth 100000 in
theorem roomJ (w : World) (q c cap : Nat) (buf : Array Value) (s r : Nat) (hq : w.cell? ⟨q, 0, none⟩ = some (.chan (some c))) (hc : w.heap[c]? = some (.chan cap buf false s r false)) (hs : buf.size ≤ cap) (hcap : cap ≤ 4096) : Calls Try.prog 19 #[.pointer (some ⟨q, 0, none⟩)] w fun e w' => e = .returned (.int .i64 ((cap : Int) - (buf.size : Int))) ∧ w' = w := by
  have hl : (Builtin.len_ #[60] 3 #[.chan (some c)]).run Try.prog w = .ok (.int .i64 (buf.size : Int)) w := run_len_chan 60 3 Try.underlying60 hc
  have hp : (Builtin.cap_ #[60] 3 #[.chan (some c)]).run Try.prog w = .ok (.int .i64 (cap : Int)) w := run_cap_chan 60 3 Try.underlying60 hc
  have hb : -9223372036854775808 ≤ (cap : Int) - (buf.size : Int) ∧ (cap : Int) - (buf.size : Int) ≤ 9223372036854775807 := by omega
  have hw : wrap64 ((cap : Int) - (buf.size : Int)) = (cap : Int) - (buf.size : Int) := IntWalk.wrap64_in _ hb
  have HC := Lib.hid (channelJ w q c hq)
  generalize buf.size = m at hl hw ⊢
  clear hq hc hs hcap hb
  go_enter Try.func19, Try.ntmps19
  go_wp2_with fail
  refine HC.out.mono ?_
  rintro e w' ⟨rfl, rfl⟩
  go_wp2_with fail
  refine HC.out.mono ?_
  rintro e w'' ⟨rfl, rfl⟩
  clear HC
  go_wp2_with fail
  go_ret
  exact ⟨congrArg (fun x => Ending.returned (Value.int .i64 x)) hw, rfl⟩
end Go.Proofs.YtfoenpdfmhmkiaaLone
