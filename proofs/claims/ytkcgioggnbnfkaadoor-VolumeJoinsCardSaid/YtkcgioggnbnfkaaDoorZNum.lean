/- (*label).numbers and (*label).bytes: walked once. -/
import Derived.Test.YtkcgioggnbnfkaaDoorZCrc
import Derived.Test.YtkcgioggnbnfkaaDoorZPVolumeJoinsx0
import Derived.Test.YtkcgioggnbnfkaaDoorZPVolumeJoinsx1
import Derived.Test.YtkcgioggnbnfkaaDoorZPVolumeJoinsx2
import Derived.Test.YtkcgioggnbnfkaaDoorZPVolumeJoinsx3
import Derived.Test.YtkcgioggnbnfkaaDoorZPVolumeJoinsx4
import Derived.Test.YtkcgioggnbnfkaaDoorZPVolumeJoinsx5
import Derived.BigRegion
import Derived.StillTailTactics
set_option linter.unusedVariables false
set_option linter.unusedSimpArgs false
namespace Go.Proofs.YtkcgioggnbnfkaaDoor.Num
open Go.RowKit Go.Proofs.YtkcgioggnbnfkaaDoorW.PrintWords Go.Proofs.YtkcgioggnbnfkaaDoorW.PrintLast Go.Proofs.YtkcgioggnbnfkaaDoorW.PrintMore Go.Proofs.YtkcgioggnbnfkaaDoorW.Mv Go.Proofs.YtkcgioggnbnfkaaDoorW.HKit Go.Proofs.YtkcgioggnbnfkaaDoorW.But Go.Proofs.YtkcgioggnbnfkaaDoor.PVolumeJoins Go.Proofs.YtkcgioggnbnfkaaDoor.Crc
def ptrs (g : Nat) : Array Value := #[.pointer (some ⟨g, 0, none⟩), .pointer (some ⟨g, 1, none⟩), .pointer (some ⟨g, 2, none⟩), .pointer (some ⟨g, 3, none⟩), .pointer (some ⟨g, 4, none⟩), .pointer (some ⟨g, 5, none⟩)]
theorem drew_below {a b : World} {B : Nat} (h : Below B a b) : Below B a b.drew := h.trans ⟨rfl, rfl, rfl, Nat.le_refl _, fun _ _ => rfl⟩
def NPost (g : Nat) (w : World) (e : Ending) (w' : World) : Prop := e = .returned (.agg (ptrs g)) ∧ Below w.heap.size w w'
set_option maxHeartbeats 2000000 in
set_option maxRecDepth 100000 in
theorem numbers_calls (g : Nat) (w : World) : Calls Tryd.prog 40 #[.pointer (some ⟨g, 0, none⟩)] w (NPost g w) := by
  go_enter Tryd.func40, Tryd.ntmps40
  go_wp2_with fail
  go_still_tail 19, (by kernel_rfl)
  change wpList _ _ _ _ _ (w.alloc _).drew
  go_wp2_with fail
  refine bodyPost_ret (results_cell_row rfl _ _ w.heap.size 83 (ptrs g) (0, 0) _ rfl (heap_alloc_new w _) Tryd.underlying83 rfl (by kernel_rfl)) rfl ?_
  exact ⟨rfl, drew_below ((Below.refl _ w).alloc (Nat.le_refl _) _)⟩
end Go.Proofs.YtkcgioggnbnfkaaDoor.Num
