/- head.mark: its walk. -/
import Derived.Test.YtoabboeongbloaaDoorHeadA
set_option linter.unusedVariables false
set_option linter.unusedSimpArgs false
namespace Go.Proofs.YtoabboeongbloaaDoor.HeadA
open Go.RowKit Go.Proofs.YtoabboeongbloaaDoorW.PrintWords Go.Proofs.YtoabboeongbloaaDoorW.PrintLast Go.Proofs.YtoabboeongbloaaDoorW.PrintMore Go.Proofs.YtoabboeongbloaaDoorW.Mv Go.Proofs.YtoabboeongbloaaDoorW.HKit
def markS (s : ByteArray) : Int := if s.toList = [117, 115, 116, 97, 114, 0, 48, 48] then 1 else if s.toList = [117, 115, 116, 97, 114, 32, 32, 0] then 2 else 0
def markOf (l : List Int) : Int := markS (strOfNums (part l 257 8))
set_option maxHeartbeats 1000000 in
theorem mark_calls (A : Option Addr) (c : Nat) (l : List Int) (w : World) (hr : Kd.C (Kd.int .u8) w A l.length l) (hc : l.length ≤ c) (hl : 265 ≤ l.length) :
    Calls Tryd.prog 34 #[.slice A l.length c] w fun e w' => e = .returned (.int .i64 (markOf l)) ∧ w' = w := by
  have hcut := cut_run A c l.length 257 8 (by omega) hc
  have hC := cut_C (f := 257) (s := 8) hr (by omega) hc
  have hcv := Kd.C_string (P := Tryd.prog) (c := c - 257) Tryd.underlying25 Tryd.underlying5 Tryd.underlying9 hC
  have e1 : (((257 : Nat) : Int) + ((8 : Nat) : Int)) = 265 := rfl
  have e2 : (((257 : Nat) : Int)) = 257 := rfl
  rw [e1, e2] at hcut
  obtain ⟨S, hS⟩ : ∃ S, strOfNums (part l 257 8) = S := ⟨_, rfl⟩
  have hM : markOf l = markS S := by unfold markOf; rw [hS]
  rw [hS] at hcv
  rw [hM]
  clear hM hS hC hr e1 e2
  unfold markS
  generalize cutAt A c 257 = A' at hcut hcv
  by_cases h1 : S.toList = [117, 115, 116, 97, 114, 0, 48, 48]
  · have d1 : (S.toList == [117, 115, 116, 97, 114, 0, 48, 48]) = true := by rw [h1]; rfl
    rw [if_pos h1]
    clear h1
    go_enter Tryd.func34, Tryd.ntmps34
    go_wp2_with fail
    go_ret
    exact ⟨rfl, rfl⟩
  · have d1 : (S.toList == [117, 115, 116, 97, 114, 0, 48, 48]) = false := beq_eq_false_iff_ne.2 h1
    rw [if_neg h1]
    clear h1
    by_cases h2 : S.toList = [117, 115, 116, 97, 114, 32, 32, 0]
    · have d2 : (S.toList == [117, 115, 116, 97, 114, 32, 32, 0]) = true := by rw [h2]; rfl
      rw [if_pos h2]
      clear h2
      go_enter Tryd.func34, Tryd.ntmps34
      go_wp2_with fail
      go_ret
      exact ⟨rfl, rfl⟩
    · have d2 : (S.toList == [117, 115, 116, 97, 114, 32, 32, 0]) = false := beq_eq_false_iff_ne.2 h2
      rw [if_neg h2]
      clear h2
      go_enter Tryd.func34, Tryd.ntmps34
      go_wp2_with fail
      go_ret
      exact ⟨rfl, rfl⟩
set_option maxHeartbeats 1000000 in
theorem rmark_calls (A : Option Addr) (c : Nat) (l : List Int) (w : World) (hr : Kd.C (Kd.int .u8) w A l.length l) (hc : l.length ≤ c) (hl : 265 ≤ l.length) :
    Calls Tryd.prog 38 #[.slice A l.length c] w fun e w' => e = .returned (.int .i64 (markOf l)) ∧ w' = w := by
  have hcut := cut_run A c l.length 257 8 (by omega) hc
  have hC := cut_C (f := 257) (s := 8) hr (by omega) hc
  have hcv := Kd.C_string (P := Tryd.prog) (c := c - 257) Tryd.underlying25 Tryd.underlying5 Tryd.underlying9 hC
  have e1 : (((257 : Nat) : Int) + ((8 : Nat) : Int)) = 265 := rfl
  have e2 : (((257 : Nat) : Int)) = 257 := rfl
  rw [e1, e2] at hcut
  obtain ⟨S, hS⟩ : ∃ S, strOfNums (part l 257 8) = S := ⟨_, rfl⟩
  have hM : markOf l = markS S := by unfold markOf; rw [hS]
  rw [hS] at hcv
  rw [hM]
  clear hM hS hC hr e1 e2
  unfold markS
  generalize cutAt A c 257 = A' at hcut hcv
  by_cases h1 : S.toList = [117, 115, 116, 97, 114, 0, 48, 48]
  · have d1 : (S.toList == [117, 115, 116, 97, 114, 0, 48, 48]) = true := by rw [h1]; rfl
    rw [if_pos h1]
    clear h1
    go_enter Tryd.func38, Tryd.ntmps38
    go_wp2_with fail
    go_ret
    exact ⟨rfl, rfl⟩
  · have d1 : (S.toList == [117, 115, 116, 97, 114, 0, 48, 48]) = false := beq_eq_false_iff_ne.2 h1
    rw [if_neg h1]
    clear h1
    by_cases h2 : S.toList = [117, 115, 116, 97, 114, 32, 32, 0]
    · have d2 : (S.toList == [117, 115, 116, 97, 114, 32, 32, 0]) = true := by rw [h2]; rfl
      rw [if_pos h2]
      clear h2
      go_enter Tryd.func38, Tryd.ntmps38
      go_wp2_with fail
      go_ret
      exact ⟨rfl, rfl⟩
    · have d2 : (S.toList == [117, 115, 116, 97, 114, 32, 32, 0]) = false := beq_eq_false_iff_ne.2 h2
      rw [if_neg h2]
      clear h2
      go_enter Tryd.func38, Tryd.ntmps38
      go_wp2_with fail
      go_ret
      exact ⟨rfl, rfl⟩
end Go.Proofs.YtoabboeongbloaaDoor.HeadA
