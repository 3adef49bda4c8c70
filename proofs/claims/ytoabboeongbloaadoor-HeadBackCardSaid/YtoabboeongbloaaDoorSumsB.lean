/- sum.Check, Seal of what is no header, and the chapter's example. -/
import Derived.Test.YtoabboeongbloaaDoorSums
set_option linter.unusedVariables false
set_option linter.unusedSimpArgs false
namespace Go.Proofs.YtoabboeongbloaaDoor.Sums
open Go.RowKit Go.Proofs.YtoabboeongbloaaDoor.PHeadGets Go.Proofs.YtoabboeongbloaaDoorW.PrintWords Go.Proofs.YtoabboeongbloaaDoorW.PrintLast Go.Proofs.YtoabboeongbloaaDoorW.PrintMore Go.Proofs.YtoabboeongbloaaDoor.Fmt Go.Proofs.YtoabboeongbloaaDoor.SumP Go.Proofs.YtoabboeongbloaaDoorW.Mv Go.Proofs.YtoabboeongbloaaDoorW.HKit
set_option maxHeartbeats 1000000 in
theorem seal_no (A : Option Addr) (c : Nat) (l : List Int) (w : World) (hb : Bytes l) (hl : ¬ l.length = 512) (hr : Kd.C (Kd.int .u8) w A l.length l) (hc : l.length ≤ c) :
    Calls Tryd.prog 27 #[.slice A l.length c] w fun e w' => e = .returned (.tuple #[.slice none 0 0, .int .u8 2]) ∧ Below w.heap.size w w' := by
  have hs := sum_is A c l w hb hr hc
  unfold sumOf at hs
  rw [if_neg hl] at hs
  have HS := Lib.hid hs
  clear hs hr hl
  go_enter Tryd.func27, Tryd.ntmps27
  go_wp2_with fail
  refine HS.out.mono ?_
  rintro e w1 ⟨rfl, hd⟩
  have HB1 := Aside0.mk hd.below
  clear hd HS
  go_wp2_with fail
  go_ret2
  exact ⟨rfl, HB1.out⟩
set_option maxHeartbeats 1000000 in
theorem check_is (A : Option Addr) (c : Nat) (l : List Int) (w : World) (hb : Bytes l) (hr : Kd.C (Kd.int .u8) w A l.length l) (hc : l.length ≤ c) :
    Calls Tryd.prog 33 #[.slice A l.length c] w fun e w' => e = .returned (.int .u8 (checkOf l)) ∧ Below w.heap.size w w' := by
  have hs := sum_is A c l w hb hr hc
  have hmx : l.length ≤ 9223372036854775807 := hr.2.1
  unfold sumOf at hs
  unfold checkOf
  by_cases hl : l.length = 512
  · rw [if_pos hl] at hs ⊢
    have hmid := fun (W : World) (hW : Kd.C (Kd.int .u8) W A l.length l) => Kd.C_mid (lo := 148) (hi := 156) hW (by omega) (by omega) hc
    obtain ⟨i0, hi0, hz0, hz1, hz2⟩ := info_parts byteInfo
    have hsl := cut_mid (P := Tryd.prog) 25 5 .i64 .i64 Tryd.underlying25 hi0 1 hz1 A l.length c 148 156 (by omega) (by omega) (by omega) hc
    have e148 : (148 : Int).toNat = 148 := rfl
    have e156 : (156 : Int).toNat = 156 := rfl
    rw [e148, e156] at hsl
    have hlen : ((l.take 156).drop 148).length = 8 := by rw [List.length_drop, List.length_take]; omega
    simp only [hlen] at hmid
    change ∀ W : World, Kd.C (Kd.int .u8) W A l.length l → Kd.C (Kd.int .u8) W (if c = 148 then A else A.map (·.add (148 * 1))) 8 ((l.take 156).drop 148) at hmid
    generalize (if c = 148 then A else A.map (fun x => x.add (148 * 1))) = A4 at hsl hmid
    have hsl' : ∀ W : World, (Instr.slice 25 (.slice A l.length c) (some (.int .i64 148)) (some (.int .i64 156)) none).run Tryd.prog W = .ok (.slice A4 8 (c - 148)) W := hsl
    have hoc := fun (W : World) (hW : Kd.C (Kd.int .u8) W A4 8 ((l.take 156).drop 148)) => Hand.octal_calls A4 8 (c - 148) _ W hW (by omega) (fun x hx => by have := field_bytes hb x hx; omega)
    change ∀ (W : World), Kd.C (Kd.int .u8) W A4 8 ((l.take 156).drop 148) → Calls Tryd.prog 56 #[.slice A4 8 (c - 148)] W (fun e w' => e = .returned (.tuple #[.int .i64 (fieldOf l).1, .int .u8 (fieldOf l).2]) ∧ Below W.heap.size W w') at hoc
    have hbd : (fieldOf l).2 = 0 ∨ (fieldOf l).2 = 5 := (octAt_bd _ 0 (by decide) (by decide)).2.2
    generalize (fieldOf l).1 = f1 at hoc ⊢
    generalize (fieldOf l).2 = f2 at hoc hbd ⊢
    generalize plain l = p at hs ⊢
    generalize signed l = s at hs ⊢
    have HS := Lib.hid hs
    have HM := Aside0.mk hmid
    have HO := Aside0.mk hoc
    have HR := Aside0.mk hr
    clear hs hmid hoc hr hsl hi0 hz0 hz1 hz2 e148 e156 hlen hl
    go_enter Tryd.func33, Tryd.ntmps33
    go_wp2_with fail
    refine HS.out.mono ?_
    rintro e w1 ⟨rfl, hd⟩
    have HB1 := Aside0.mk hd.below
    clear hd HS
    go_wp2_with fail
    refine (HO.out w1 (HM.out w1 (Kd.C_below HR.out HB1.out))).mono ?_
    rintro e w2 ⟨rfl, hb2⟩
    have HB2 := Aside0.mk (below_step HB1.out hb2)
    clear hb2 HO HM
    rcases hbd with rfl | rfl
    · by_cases h1 : f1 = p
      · subst h1
        go_wp2_with fail
        go_ret
        exact ⟨by simp, HB2.out⟩
      · have h1' : (f1 != p) = true := by simp [h1]
        by_cases h2 : f1 = s
        · subst h2
          go_wp2_with fail
          go_ret
          exact ⟨by simp, HB2.out⟩
        · have h2' : (f1 != s) = true := by simp [h2]
          go_wp2_with fail
          go_ret
          exact ⟨by simp [h1, h2], HB2.out⟩
    · go_wp2_with fail
      go_ret
      exact ⟨by simp, HB2.out⟩
  · rw [if_neg hl] at hs ⊢
    have HS := Lib.hid hs
    clear hs hr hl
    go_enter Tryd.func33, Tryd.ntmps33
    go_wp2_with fail
    refine HS.out.mono ?_
    rintro e w1 ⟨rfl, hd⟩
    have HB1 := Aside0.mk hd.below
    clear hd HS
    go_wp2_with fail
    go_ret
    exact ⟨rfl, HB1.out⟩
theorem zeros_bytes : Bytes (List.replicate 512 0) := by
  intro x hx
  have := (List.mem_replicate.1 hx).2
  omega
theorem alive_field : ((sealOf (List.replicate 512 0)).take 156).drop 148 = [48, 48, 48, 52, 48, 48, 0, 32] := by decide +kernel
end Go.Proofs.YtoabboeongbloaaDoor.Sums
