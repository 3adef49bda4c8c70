/- sum.Check, Seal of what is no header, and the chapter's example. -/
import Derived.Test.YteiabjoagcfpfaaDoorSums
set_option linter.unusedVariables false
set_option linter.unusedSimpArgs false
namespace Go.Proofs.YteiabjoagcfpfaaDoor.Sums
open Go.RowKit Go.Proofs.YteiabjoagcfpfaaDoor.PSumChecks Go.Proofs.YteiabjoagcfpfaaDoorW.PrintWords Go.Proofs.YteiabjoagcfpfaaDoorW.PrintLast Go.Proofs.YteiabjoagcfpfaaDoorW.PrintMore Go.Proofs.YteiabjoagcfpfaaDoor.Fmt Go.Proofs.YteiabjoagcfpfaaDoor.SumP Go.Proofs.YteiabjoagcfpfaaDoorW.Mv Go.Proofs.YteiabjoagcfpfaaDoorW.HKit
set_option maxHeartbeats 1000000 in
theorem seal_no (A : Option Addr) (c : Nat) (l : List Int) (w : World) (hb : Bytes l) (hl : ¬ l.length = 512) (hr : Kd.C (Kd.int .u8) w A l.length l) (hc : l.length ≤ c) :
    Calls Tryd.prog 7 #[.slice A l.length c] w fun e w' => e = .returned (.tuple #[.slice none 0 0, .int .u8 2]) ∧ Below w.heap.size w w' := by
  have hs := sum_is A c l w hb hr hc
  unfold sumOf at hs
  rw [if_neg hl] at hs
  have HS := Lib.hid hs
  clear hs hr hl
  go_enter Tryd.func7, Tryd.ntmps7
  go_wp2_with fail
  refine HS.out.mono ?_
  rintro e w1 ⟨rfl, hd⟩
  have HB1 := Aside0.mk hd.below
  clear hd HS
  go_wp2_with fail
  go_ret2
  exact ⟨rfl, HB1.out⟩
set_option maxHeartbeats 1000000 in
theorem check_is (A : Option Addr) (c : Nat) (l : List Int) (w : World) (hb : Bytes l) (hr : Kd.C (Kd.int .u8) w A l.length l) (hc : l.length ≤ c) :
    Calls Tryd.prog 8 #[.slice A l.length c] w fun e w' => e = .returned (.int .u8 (checkOf l)) ∧ Below w.heap.size w w' := by
  have hs := sum_is A c l w hb hr hc
  have hmx : l.length ≤ 9223372036854775807 := hr.2.1
  unfold sumOf at hs
  unfold checkOf
  by_cases hl : l.length = 512
  · rw [if_pos hl] at hs ⊢
    have hmid := fun (W : World) (hW : Kd.C (Kd.int .u8) W A l.length l) => Kd.C_mid (lo := 148) (hi := 156) hW (by omega) (by omega) hc
    obtain ⟨i0, hi0, hz0, hz1, hz2⟩ := info_parts byteInfo
    have hsl := cut_mid (P := Tryd.prog) 22 5 .i64 .i64 Tryd.underlying22 hi0 1 hz1 A l.length c 148 156 (by omega) (by omega) (by omega) hc
    have e148 : (148 : Int).toNat = 148 := rfl
    have e156 : (156 : Int).toNat = 156 := rfl
    rw [e148, e156] at hsl
    have hlen : ((l.take 156).drop 148).length = 8 := by rw [List.length_drop, List.length_take]; omega
    simp only [hlen] at hmid
    change ∀ W : World, Kd.C (Kd.int .u8) W A l.length l → Kd.C (Kd.int .u8) W (if c = 148 then A else A.map (·.add (148 * 1))) 8 ((l.take 156).drop 148) at hmid
    generalize (if c = 148 then A else A.map (fun x => x.add (148 * 1))) = A4 at hsl hmid
    have hsl' : ∀ W : World, (Instr.slice 22 (.slice A l.length c) (some (.int .i64 148)) (some (.int .i64 156)) none).run Tryd.prog W = .ok (.slice A4 8 (c - 148)) W := hsl
    have hoc := fun (W : World) (hW : Kd.C (Kd.int .u8) W A4 8 ((l.take 156).drop 148)) => Hand.octal_calls A4 8 (c - 148) _ W hW (by omega) (fun x hx => by have := field_bytes hb x hx; omega)
    change ∀ (W : World), Kd.C (Kd.int .u8) W A4 8 ((l.take 156).drop 148) → Calls Tryd.prog 16 #[.slice A4 8 (c - 148)] W (fun e w' => e = .returned (.tuple #[.int .i64 (fieldOf l).1, .int .u8 (fieldOf l).2]) ∧ Below W.heap.size W w') at hoc
    have hbd : (fieldOf l).2 = 0 ∨ (fieldOf l).2 = 5 := (octAt_bd _ 0 (by decide) (by decide)).2.2
    generalize (fieldOf l).1 = f1 at hoc ⊢
    generalize (fieldOf l).2 = f2 at hoc hbd ⊢
    generalize plain l = p at hs ⊢
    generalize signed l = s at hs ⊢
    have HS := Lib.hid hs
    have HM := Aside0.mk hmid
    have HO := Aside0.mk hoc
    have HR := Aside0.mk hr
    clear hs hmid hoc hr hsl hi0 hz0 hz1 hz2 e148 e156 hlen hl
    go_enter Tryd.func8, Tryd.ntmps8
    go_wp2_with fail
    refine HS.out.mono ?_
    rintro e w1 ⟨rfl, hd⟩
    have HB1 := Aside0.mk hd.below
    clear hd HS
    go_wp2_with fail
    refine (HO.out w1 (HM.out w1 (Kd.C_below HR.out HB1.out))).mono ?_
    rintro e w2 ⟨rfl, hb2⟩
    have HB2 := Aside0.mk (below_step HB1.out hb2)
    clear hb2 HO HM
    rcases hbd with rfl | rfl
    · by_cases h1 : f1 = p
      · subst h1
        go_wp2_with fail
        go_ret
        exact ⟨by simp, HB2.out⟩
      · have h1' : (f1 != p) = true := by simp [h1]
        by_cases h2 : f1 = s
        · subst h2
          go_wp2_with fail
          go_ret
          exact ⟨by simp, HB2.out⟩
        · have h2' : (f1 != s) = true := by simp [h2]
          go_wp2_with fail
          go_ret
          exact ⟨by simp [h1, h2], HB2.out⟩
    · go_wp2_with fail
      go_ret
      exact ⟨by simp, HB2.out⟩
  · rw [if_neg hl] at hs ⊢
    have HS := Lib.hid hs
    clear hs hr hl
    go_enter Tryd.func8, Tryd.ntmps8
    go_wp2_with fail
    refine HS.out.mono ?_
    rintro e w1 ⟨rfl, hd⟩
    have HB1 := Aside0.mk hd.below
    clear hd HS
    go_wp2_with fail
    go_ret
    exact ⟨rfl, HB1.out⟩
theorem zeros_bytes : Bytes (List.replicate 512 0) := by
  intro x hx
  have := (List.mem_replicate.1 hx).2
  omega
theorem alive_field : ((sealOf (List.replicate 512 0)).take 156).drop 148 = [48, 48, 48, 52, 48, 48, 0, 32] := by decide +kernel
set_option maxHeartbeats 1000000 in
set_option maxRecDepth 100000 in
theorem alive_calls (w : World) (hT : Tab8 w) : Calls Tryd.prog 5 #[] w fun e w' => e = .returned (.bool true) ∧ Below w.heap.size w w' := by
  have hmk : ∀ W : World, (Instr.makeSlice 22 (.int .i64 512) (.int .i64 512)).run Tryd.prog W = .ok (.slice (some ⟨W.heap.size, 0, none⟩) 512 512) (W.alloc (.cells (madeCells #[.int .u8 0] 512) 5)) := print_make (P := Tryd.prog) 22 5 .u8 1 Tryd.underlying22 byteInfo (by decide) 512 (by decide)
  have hmade := own_made w w.heap.size 5 .u8 512 (Nat.le_refl _) (by decide)
  obtain ⟨A, c, e1, _, hC, _, _, _⟩ := own_C hmade (by simp)
  injection e1 with e1 _ e1'
  subst e1 e1'
  have hba : Below w.heap.size w (w.alloc (.cells (madeCells #[.int .u8 0] 512) 5)) := (Below.refl _ _).alloc (Nat.le_refl _) _
  have hse := seal_yes (some ⟨w.heap.size, 0, none⟩) 512 (List.replicate 512 0) (w.alloc (.cells (madeCells #[.int .u8 0] 512) 5)) zeros_bytes (by simp) (by simpa using hC) (by simp) (by simp) (tab8_below hT hba)
  simp only [List.length_replicate] at hse
  have hsl := seal_len (l := List.replicate 512 0) (by simp)
  rw [hsl] at hse
  have HF := Aside0.mk alive_field
  generalize sealOf (List.replicate 512 0) = xs at hse hsl HF
  have HS := Lib.hid hse
  have HB := Aside0.mk hba
  have HL := Aside0.mk hsl
  clear hmade hC hba hse hT hsl
  go_enter Tryd.func5, Tryd.ntmps5
  go_wp2_with fail
  refine HS.out.mono ?_
  rintro e w1 ⟨v1, rfl, ho, hb1⟩
  obtain ⟨A1, c1, rfl, hc1, hC1, _, _, _⟩ := own_C ho HL.out.symm
  have HB1 := Aside0.mk (below_step HB.out hb1)
  obtain ⟨i0, hi0, hz0, hz1, hz2⟩ := info_parts byteInfo
  have hmid := Kd.C_mid (lo := 148) (hi := 156) (c := c1) (by rw [HL.out]; exact hC1) (by omega) (by rw [HL.out]; omega) (by rw [HL.out]; exact hc1)
  rw [HF.out] at hmid
  have hsl : ∀ W : World, (Instr.slice 22 (.slice A1 512 c1) (some (.int .i64 148)) (some (.int .i64 156)) none).run Tryd.prog W = .ok (.slice (if c1 = 148 then A1 else A1.map (·.add (148 * 1))) 8 (c1 - 148)) W := cut_mid (P := Tryd.prog) 22 5 .i64 .i64 Tryd.underlying22 hi0 1 hz1 A1 512 c1 148 156 (by omega) (by omega) (by omega) hc1
  change Kd.C (Kd.int .u8) w1 (if c1 = 148 then A1 else A1.map (·.add (148 * 1))) 8 [48, 48, 48, 52, 48, 48, 0, 32] at hmid
  generalize (if c1 = 148 then A1 else A1.map (fun x => x.add (148 * 1))) = A4 at hsl hmid
  have hcv : (convert 22 9 (.slice A4 8 (c1 - 148))).run Tryd.prog w1 = .ok (.string ⟨#[48, 48, 48, 52, 48, 48, 0, 32]⟩) w1 := string_of_reads Tryd.underlying22 Tryd.underlying5 Tryd.underlying9 (Kd.reads_of_C (enc := Value.int .u8) (d := (0 : Int)) (h1 := fun _ => rfl) hmid)
  clear ho hb1 hmid hi0 hz0 hz1 hz2 hC1 HS
  go_wp2_with fail
  go_ret
  exact ⟨rfl, HB1.out⟩
end Go.Proofs.YteiabjoagcfpfaaDoor.Sums
