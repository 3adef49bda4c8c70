/- few: its walk. -/
import Derived.Test.YtddchfjdekfekaaSink
import Derived.Deep.LoopGhost
set_option linter.unusedVariables false
set_option linter.unusedSimpArgs false
namespace Go.Proofs.Ytddchfjdekfekaa.Hand
open Go.RowKit Go.Proofs.YtddchfjdekfekaaW.PrintWords Go.Proofs.YtddchfjdekfekaaW.PrintLast Go.Proofs.YtddchfjdekfekaaW.PrintMore Go.Proofs.YtddchfjdekfekaaW.HKit Go.Proofs.YtddchfjdekfekaaW.Mv Go.Proofs.YtddchfjdekfekaaW.Rws
theorem total_take_succ (xss : List (List Int)) (i : Nat) (h : i < xss.length) : total (xss.take (i + 1)) = total (xss.take i) + xss[i].length := by
  rw [List.take_succ_eq_append_getElem h, total_append]
  simp [total]
theorem total_take_le (xss : List (List Int)) (i : Nat) (h : ∀ r, ∀ hr : r < xss.length, xss[r].length ≤ 140737488351232) : total (xss.take i) ≤ i * 140737488351232 := by
  induction i with
  | zero => simp [total]
  | succ i ih =>
    by_cases hi : i < xss.length
    · rw [total_take_succ xss i hi]
      have := h i hi
      rw [Nat.succ_mul]
      exact Nat.add_le_add ih this
    · rw [List.take_of_length_le (by omega)] at ih ⊢
      rw [Nat.succ_mul]
      exact Nat.le_trans ih (Nat.le_add_right _ _)
theorem rows_sizes {k : IntKind} {w : World} {A : Option Addr} {c : Nat} {xss : List (List Int)} (h : RowsAt k w A c xss) : ∀ r, ∀ hr : r < xss.length, xss[r].length ≤ 140737488351232 := by
  intro r hr
  obtain ⟨a, Ar, Cr, _, _, h1, _, _, _, h2⟩ := h.at_ r hr
  omega
def fewB (xss : List (List Int)) : Bool := decide (xss.length ≤ 30) && decide (total xss ≤ 5000)
def FewRel (xss : List (List Int)) (n : Nat) (v3 v4 : Value) (w wr : World) : Prop :=
  ∃ (i : Nat) (x : Int), v3 = .int .i64 x ∧ v4 = .int .i64 (i : Int) ∧ i + n = xss.length ∧ (xss.length ≤ 30 → x = ((total (xss.take i) : Nat) : Int)) ∧ w = wr
set_option maxHeartbeats 2000000 in
theorem few_calls (A : Option Addr) (c : Nat) (xss : List (List Int)) (w : World) (hR : RowsAt .u8 w A c xss) : Calls Try.prog 7 #[.slice A xss.length c] w fun e w' => e = .returned (.bool (fewB xss)) ∧ w = w' := by
  have hmx : xss.length ≤ 9223372036854775807 := Nat.le_trans hR.2.1 hR.2.2.1
  have HR := Aside0.mk hR
  clear hR
  go_enter Try.func7, Try.ntmps7
  go_wp2_with fail
  go_loopg [3, 4] xss.length (fun n v3 v4 wr => FewRel xss n v3 v4 w wr)
  case atStart => exact ⟨0, 0, rfl, rfl, by omega, fun _ => by simp [total], rfl⟩
  case round =>
    obtain ⟨i, x, rfl, rfl, hi, hx, rfl⟩ := hrel
    have hle := total_take_le xss i (rows_sizes HR.out)
    by_cases h : i < xss.length
    · have hd : decide ((i : Int) < (xss.length : Int)) = true := decide_eq_true (by omega)
      have hd' : decide (i < xss.length) = true := decide_eq_true h
      have hil : (i : Int) < (xss.length : Int) := by omega
      have hsucc := total_take_succ xss i h
      obtain ⟨a, Ar, Cr, rfl, hcell, hrl, _, _, _, hrc⟩ := HR.out.at_ i h
      by_cases h30 : xss.length ≤ 30
      · obtain rfl := hx h30
        have HS := Aside0.mk hsucc
        generalize total (xss.take i) = T at hle HS
        generalize xss[i].length = L at hcell hrl HS
        have hTb : (T : Int) + (L : Int) ≤ 9223372036854775807 := by omega
        clear hsucc hx
        go_wp2_with fail
        go_roundg (gk - 1)
        case rel => exact ⟨i + 1, _, rfl, by go_num, by omega, fun _ => by rw [HS.out]; omega, rfl⟩
        case measure => omega
      · clear hx hsucc hle
        go_wp2_with fail
        go_roundg (gk - 1)
        case rel => exact ⟨i + 1, _, rfl, by go_num, by omega, fun h => absurd h h30, rfl⟩
        case measure => omega
    · have hd : decide ((i : Int) < (xss.length : Int)) = false := decide_eq_false (by omega)
      have hd' : decide (i < xss.length) = false := decide_eq_false h
      have hfew : xss.length ≤ 30 → x = ((total xss : Nat) : Int) := fun h' => by rw [hx h', List.take_of_length_le (by omega)]
      by_cases h30 : xss.length ≤ 30
      · have hfx := hfew h30
        clear hfew hx hle
        by_cases h5 : total xss ≤ 5000
        · have he : fewB xss = true := by unfold fewB; simp [h30, h5]
          have HE := Aside0.mk he
          have hx5 : decide (x ≤ 5000) = true := decide_eq_true (by omega)
          clear he hfx
          go_wp2_with fail
          go_ret
          exact ⟨by rw [HE.out]; rfl, rfl⟩
        · have he : fewB xss = false := by unfold fewB; simp [h5]
          have HE := Aside0.mk he
          have hx5 : decide (x ≤ 5000) = false := decide_eq_false (by omega)
          clear he hfx
          go_wp2_with fail
          go_ret
          exact ⟨by rw [HE.out]; rfl, rfl⟩
      · have he : fewB xss = false := by unfold fewB; simp [h30]
        have HE := Aside0.mk he
        have hd30 : decide ((xss.length : Int) ≤ 30) = false := decide_eq_false (by omega)
        clear he hfew hx hle
        go_wp2_with fail
        go_ret
        exact ⟨by rw [HE.out]; rfl, rfl⟩
end Go.Proofs.Ytddchfjdekfekaa.Hand
