/- The reference's block of a number: its walk. -/
import Derived.Test.YtepcdngdllciiaaEndsB
import Derived.Test.YtepcdngdllciiaaHandG
set_option linter.unusedVariables false
set_option linter.unusedSimpArgs false
namespace Go.Proofs.Ytepcdngdllciiaa.Hand
open Go.RowKit Go.Proofs.YtepcdngdllciiaaW.PrintWords Go.Proofs.YtepcdngdllciiaaW.PrintLast Go.Proofs.YtepcdngdllciiaaW.PrintMore Go.Proofs.YtepcdngdllciiaaW.HKit
/-- The block of a number, its code. -/
def blockOf (bs : List Int) (i : Nat) : List Int × Int := if bs.length ≤ 512 * i then ([], 16) else if bs.length < 512 * i + 512 then ([], 3) else ((bs.take (512 * i + 512)).drop (512 * i), 0)
def BlockEnd (bs : List Int) (i : Nat) (w : World) (e : Ending) (w' : World) : Prop :=
  ∃ A c, e = .returned (.tuple #[.slice A (blockOf bs i).1.length c, .int .i64 (blockOf bs i).2]) ∧ Kd.C (Kd.int .u8) w A (blockOf bs i).1.length (blockOf bs i).1 ∧ (blockOf bs i).1.length ≤ c ∧ w = w'
theorem C_nil (w : World) : Kd.C (Kd.int .u8) w none 0 [] := Kd.C_of_reads (d := (0 : Int)) (h1 := fun _ => rfl) ⟨rfl, by decide, fun h => absurd h (by decide)⟩
set_option maxHeartbeats 2000000 in
theorem block_calls (A : Option Addr) (c : Nat) (bs : List Int) (i : Nat) (w : World) (hr : Kd.C (Kd.int .u8) w A bs.length bs) (hc : bs.length ≤ c) (hi : i ≤ 100000) :
    Calls Try.prog 19 #[.slice A bs.length c, .int .i64 (i : Int)] w (BlockEnd bs i w) := by
  have hn : bs.length ≤ 9223372036854775807 := hr.2.1
  by_cases h1 : bs.length ≤ 512 * i
  · have hd : decide ((bs.length : Int) ≤ 512 * (i : Int)) = true := decide_eq_true (by omega)
    have he : BlockEnd bs i w (.returned (.tuple #[.slice none 0 0, .int .i64 16])) w := by
      have e : blockOf bs i = ([], 16) := by unfold blockOf; rw [if_pos h1]
      unfold BlockEnd
      rw [e]
      exact ⟨none, 0, rfl, C_nil w, Nat.le_refl _, rfl⟩
    have HE := Aside0.mk he
    clear hr he
    go_enter Try.func19, Try.ntmps19
    go_wp2_with fail
    go_ret2
    exact HE.out
  · have hd : decide ((bs.length : Int) ≤ 512 * (i : Int)) = false := decide_eq_false (by omega)
    by_cases h2 : bs.length < 512 * i + 512
    · have hd2 : decide ((bs.length : Int) < 512 * (i : Int) + 512) = true := decide_eq_true (by omega)
      have he : BlockEnd bs i w (.returned (.tuple #[.slice none 0 0, .int .i64 3])) w := by
        have e : blockOf bs i = ([], 3) := by unfold blockOf; rw [if_neg h1, if_pos h2]
        unfold BlockEnd
        rw [e]
        exact ⟨none, 0, rfl, C_nil w, Nat.le_refl _, rfl⟩
      have HE := Aside0.mk he
      clear hr he
      go_enter Try.func19, Try.ntmps19
      go_wp2_with fail
      go_ret2
      exact HE.out
    · have hd2 : decide ((bs.length : Int) < 512 * (i : Int) + 512) = false := decide_eq_false (by omega)
      obtain ⟨i0, hi0, hz0, hz1, hz2⟩ := info_parts byteInfo
      have hsl := cut_mid (P := Try.prog) 22 5 .i64 .i64 Try.underlying22 hi0 1 hz1 A bs.length c (512 * (i : Int)) (512 * (i : Int) + 512) (by omega) (by omega) (by omega) hc
      have hl : ((bs.take (512 * i + 512)).drop (512 * i)).length = 512 := by rw [List.length_drop, List.length_take]; omega
      have hC := Kd.C_mid (lo := 512 * i) (hi := 512 * i + 512) hr (by omega) (by omega) hc
      have e1 : (512 * (i : Int)).toNat = 512 * i := by omega
      have e2 : (512 * (i : Int) + 512).toNat = 512 * i + 512 := by omega
      rw [e1, e2] at hsl
      have e3 : 512 * i + 512 - 512 * i = 512 := by omega
      rw [e3] at hsl
      change Kd.C (Kd.int .u8) w (if c = 512 * i then A else A.map (·.add (512 * i * 1))) _ _ at hC
      generalize (if c = 512 * i then A else A.map (fun x => x.add (512 * i * 1))) = A4 at hsl hC
      have he : BlockEnd bs i w (.returned (.tuple #[.slice A4 512 (c - 512 * i), .int .i64 0])) w := by
        have e : blockOf bs i = ((bs.take (512 * i + 512)).drop (512 * i), 0) := by unfold blockOf; rw [if_neg h1, if_neg h2]
        unfold BlockEnd
        rw [e]
        rw [hl] at hC
        simp only [hl]
        exact ⟨A4, c - 512 * i, rfl, hC, by omega, trivial⟩
      have HE := Aside0.mk he
      clear hr he hC hl hi0 hz0 hz1 hz2 e1 e2 e3
      go_enter Try.func19, Try.ntmps19
      go_wp2_with fail
      go_ret2
      exact HE.out
end Go.Proofs.Ytepcdngdllciiaa.Hand
