/- Contracts of package source's readers of state, second text: Left, Index, Held. -/
import Derived.Test.YtepcdngdllciiaaHand
set_option linter.unusedVariables false
set_option linter.unusedSimpArgs false
namespace Go.Proofs.Ytepcdngdllciiaa.Hand
open Go.RowKit Go.Proofs.YtepcdngdllciiaaW.PrintWords Go.Proofs.YtepcdngdllciiaaW.PrintLast Go.Proofs.YtepcdngdllciiaaW.PrintMore Go.Proofs.YtepcdngdllciiaaW.HKit
theorem left_calls (g : Nat) (S : Nat → Prop) (bs szs : List Int) (k B : Nat) (w : World) (hS : SrcAt w B g S bs szs k) : Calls Try.prog 11 #[.pointer (some ⟨g, 0, none⟩)] w fun e w' => e = .returned (.int .i64 (bs.length : Int)) ∧ w = w' := by
  obtain ⟨A, A2, c, c2, hg, hB, hc, hk, hSg, hSq, hst⟩ := hS
  have c0 : w.cell? ⟨g, 0, none⟩ = some (.slice A bs.length c) := by rw [blk_cell hg]; rfl
  clear hg hst
  go_enter Try.func11, Try.ntmps11
  go_wp2_with fail
  go_ret
  exact ⟨rfl, rfl⟩
theorem index_calls (g : Nat) (sk : Option Addr) (v : Value) (index : Int) (w : World) (hB : BlocksAt w g sk v index) : Calls Try.prog 15 #[.pointer (some ⟨g, 0, none⟩)] w fun e w' => e = .returned (.int .i64 index) ∧ w = w' := by
  have c2 : w.cell? ⟨g, 2, none⟩ = some (.int .i64 index) := by rw [blk_cell hB]; rfl
  clear hB
  go_enter Try.func15, Try.ntmps15
  go_wp2_with fail
  go_ret
  exact ⟨rfl, rfl⟩
theorem held_calls (g : Nat) (sk : Option Addr) (A : Option Addr) (n c : Nat) (index : Int) (w : World) (hB : BlocksAt w g sk (.slice A n c) index) : Calls Try.prog 16 #[.pointer (some ⟨g, 0, none⟩)] w fun e w' => e = .returned (.int .i64 (n : Int)) ∧ w = w' := by
  have c2 : w.cell? ⟨g, 1, none⟩ = some (.slice A n c) := by rw [blk_cell hB]; rfl
  clear hB
  go_enter Try.func16, Try.ntmps16
  go_wp2_with fail
  go_ret
  exact ⟨rfl, rfl⟩
end Go.Proofs.Ytepcdngdllciiaa.Hand
