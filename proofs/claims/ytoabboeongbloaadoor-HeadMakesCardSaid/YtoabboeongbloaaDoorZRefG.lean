/- The document's Get of a header: its walk. -/
import Derived.Test.YtoabboeongbloaaDoorZGT
import Derived.Test.YtoabboeongbloaaDoorZTxtP
import Derived.ChangeKeysEq
set_option linter.unusedVariables false
set_option linter.unusedSimpArgs false
namespace Go.Proofs.YtoabboeongbloaaDoor.RefG
open Go.RowKit Go.Proofs.YtoabboeongbloaaDoorW.PrintWords Go.Proofs.YtoabboeongbloaaDoorW.PrintLast Go.Proofs.YtoabboeongbloaaDoorW.PrintMore Go.Proofs.YtoabboeongbloaaDoorW.Mv Go.Proofs.YtoabboeongbloaaDoorW.HKit Go.Proofs.YtoabboeongbloaaDoorW.But Go.Proofs.YtoabboeongbloaaDoor.HeadA Go.Proofs.YtoabboeongbloaaDoor.PHeadGets Go.Proofs.YtoabboeongbloaaDoor.SumP Go.Proofs.YtoabboeongbloaaDoor.Sums Go.Proofs.YtoabboeongbloaaDoor.Maker Go.Proofs.YtoabboeongbloaaDoor.GetW
/-- The document's header as its cells. -/
def refC (r : Raw) : Array Value := #[.int .i64 r.mark, .int .u8 r.flag, .string r.name, .string r.link, .string r.user, .string r.group, .string r.pre, .int .i64 r.mode, .int .i64 r.uid, .int .i64 r.gid, .int .i64 r.size, .int .i64 r.time, .int .i64 r.major, .int .i64 r.minor]
theorem ref_cells {W : World} {k : Nat} {r : Raw} (h : W.heap[k]? = some (.cells (refC r) 34 (0, 0))) : W.cell? ⟨k, 0, none⟩ = some (.int .i64 r.mark) ∧ W.cell? ⟨k, 1, none⟩ = some (.int .u8 r.flag) ∧ W.cell? ⟨k, 2, none⟩ = some (.string r.name) ∧ W.cell? ⟨k, 3, none⟩ = some (.string r.link) ∧ W.cell? ⟨k, 4, none⟩ = some (.string r.user) ∧ W.cell? ⟨k, 5, none⟩ = some (.string r.group) ∧ W.cell? ⟨k, 6, none⟩ = some (.string r.pre) ∧ W.cell? ⟨k, 7, none⟩ = some (.int .i64 r.mode) ∧ W.cell? ⟨k, 8, none⟩ = some (.int .i64 r.uid) ∧ W.cell? ⟨k, 9, none⟩ = some (.int .i64 r.gid) ∧ W.cell? ⟨k, 10, none⟩ = some (.int .i64 r.size) ∧ W.cell? ⟨k, 11, none⟩ = some (.int .i64 r.time) ∧ W.cell? ⟨k, 12, none⟩ = some (.int .i64 r.major) ∧ W.cell? ⟨k, 13, none⟩ = some (.int .i64 r.minor) := by
  refine ⟨?_, ?_, ?_, ?_, ?_, ?_, ?_, ?_, ?_, ?_, ?_, ?_, ?_, ?_⟩ <;> simp [World.cell?, h, refC]
set_option maxHeartbeats 2000000 in
set_option maxRecDepth 100000 in
theorem texts_calls (w : World) : Calls Tryd.prog 29 #[] w fun e w' => e = .returned (.agg #[.int .i64 0, .int .i64 100, .int .i64 157, .int .i64 100, .int .i64 265, .int .i64 32, .int .i64 297, .int .i64 32, .int .i64 345, .int .i64 155]) ∧ Below w.heap.size w w' := by
  go_enter Tryd.func29, Tryd.ntmps29
  go_wp2_with fail
  refine bodyPost_ret (results_cell_row rfl _ _ w.heap.size 68 _ (0, 0) _ rfl (heap_alloc_new w _) Tryd.underlying68 rfl (by kernel_rfl)) rfl ?_
  exact ⟨rfl, (Below.refl _ w).alloc (Nat.le_refl _) _⟩
set_option maxHeartbeats 2000000 in
set_option maxRecDepth 100000 in
theorem ofs_calls (r : Raw) (w : World) : Calls Tryd.prog 10 #[.agg (rawC r)] w fun e w' => e = .returned (.agg (refC r)) ∧ Below w.heap.size w w' := by
  obtain ⟨mk, fl, nm, ln, pr, us, gr, n7, n8, n9, n10, n11, n12, n13⟩ := r
  unfold rawC refC
  dsimp only
  go_enter Tryd.func10, Tryd.ntmps10
  go_wp2_with fail
  refine bodyPost_ret (results_cell_row rfl _ _ (w.heap.size + 1) 34 _ (0, 0) _ rfl (heap_alloc2_new w _ _) Tryd.underlying34 rfl (by kernel_rfl)) rfl ?_
  exact ⟨rfl, ((Below.refl _ w).alloc (Nat.le_refl _) _).alloc (by simp) _⟩
theorem rknown_f (c : Int) : oakumref06_Known.f c = some (knownB c) := by
  unfold oakumref06_Known.f knownB
  repeat' split
  all_goals simp_all
  all_goals by_cases h75 : c = 75 <;> simp_all
  all_goals (rw [beq_eq_false_iff_ne.2 (by assumption : ¬ c = 75)]; symm; simp; omega)
end Go.Proofs.YtoabboeongbloaaDoor.RefG
