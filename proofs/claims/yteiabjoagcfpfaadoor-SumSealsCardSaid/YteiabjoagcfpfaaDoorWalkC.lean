/- SumChecks: its walk. -/
import Derived.Test.YteiabjoagcfpfaaDoorSumsB
set_option linter.unusedVariables false
set_option linter.unusedSimpArgs false
namespace Go.Proofs.YteiabjoagcfpfaaDoor.Sums
open Go.RowKit Go.Proofs.YteiabjoagcfpfaaDoor.PSumChecks Go.Proofs.YteiabjoagcfpfaaDoorW.PrintWords Go.Proofs.YteiabjoagcfpfaaDoorW.PrintLast Go.Proofs.YteiabjoagcfpfaaDoorW.PrintMore Go.Proofs.YteiabjoagcfpfaaDoor.Fmt Go.Proofs.YteiabjoagcfpfaaDoor.SumP Go.Proofs.YteiabjoagcfpfaaDoorW.Mv Go.Proofs.YteiabjoagcfpfaaDoorW.HKit
theorem same_t (xs : List Int) : oakumref01_Same.f xs xs = some true := by unfold oakumref01_Same.f; simp
theorem bytes_wf {l : List Int} (h : ∀ x ∈ l, (Lit.int .u8 x).wf = true) : SumP.Bytes l := fun x hx => wf_u8_bd (h x hx)
theorem checkOf_bd (l : List Int) : 0 ≤ checkOf l ∧ checkOf l ≤ 5 := by
  unfold checkOf
  split
  · split
    · split <;> decide
    · decide
  · decide
set_option maxHeartbeats 2000000 in
set_option maxRecDepth 100000 in
theorem sumChecks_calls (w : World) (hT : Tab8 w) (A0 : Option Addr) (c0 : Nat) (l0 : List Int) (hr0 : Kd.C (Kd.int .u8) w A0 l0.length l0) (hn0 : A0 = none → l0.length = 0 ∧ c0 = 0) (hc0 : l0.length ≤ c0) (y0 : l0.length * 1 ≤ 140737488351232) (hw0 : ∀ x ∈ l0, (Lit.int .u8 x).wf = true) :
    Calls Tryd.prog 3 #[.slice A0 l0.length c0] w fun e w' => e = .returned (.bool true) ∧ Below w.heap.size w w' := by
  have hb := bytes_wf hw0
  have HR := Aside0.mk hr0
  have HT := Aside0.mk hT
  have HN := Aside0.mk hn0
  have HBy := Aside0.mk hb
  clear hr0 hT hn0 hw0
  by_cases hl2 : 2000 < l0.length
  · have hd : decide ((2000 : Int) < (l0.length : Int)) = true := decide_eq_true (by omega)
    have hd' : decide (2000 < l0.length) = true := decide_eq_true hl2
    clear hb
    go_enter Tryd.func3, Tryd.ntmps3
    go_wp2_with fail
    refine (alive_calls w HT.out).mono ?_
    rintro e w1 ⟨rfl, hb1⟩
    have HB1 := Aside0.mk hb1
    clear hb1
    go_wp2_with fail
    go_ret
    exact ⟨rfl, HB1.out⟩
  have hd : decide ((2000 : Int) < (l0.length : Int)) = false := decide_eq_false (by omega)
  have hd' : decide (2000 < l0.length) = false := decide_eq_false hl2
  obtain ⟨kc, hkc⟩ := ref_check hb
  have HKc := Aside0.mk hkc
  obtain ⟨hcb0, hcb1⟩ := checkOf_bd l0
  have HCk := Lib.hid (fun (W : World) (h : Kd.C (Kd.int .u8) W A0 l0.length l0) => check_is A0 c0 l0 W hb h hc0)
  have hsum := fun (W : World) (h : Kd.C (Kd.int .u8) W A0 l0.length l0) => sum_is A0 c0 l0 W hb h hc0
  unfold sumOf at hsum
  clear hkc
  generalize checkOf l0 = ck at HKc hcb0 hcb1 HCk
  by_cases hl : l0.length = 512
  · rw [if_pos hl] at hsum
    have HSeal := Lib.hid (fun (W : World) (h : Kd.C (Kd.int .u8) W A0 l0.length l0) (h2 : Tab8 W) => seal_yes A0 c0 l0 W hb hl h hc0 HN.out h2)
    have HSums := Aside0.mk (sums_f hb hl 1200 (by omega))
    have HRS := Aside0.mk (ref_seal hb hl)
    have hslen := seal_len hl
    generalize sealOf l0 = xs at HSeal HRS hslen
    generalize plain l0 = p at hsum HSums
    generalize signed l0 = s at hsum HSums
    have HSum := Lib.hid hsum
    have HL := Aside0.mk hl
    have HSl := Aside0.mk hslen
    have hln : ((l0.length : Int) != 512) = false := by rw [hl]; rfl
    have hln2 : ((l0.length : Int) == 512) = true := by rw [hl]; rfl
    clear hb hsum hl hslen
    go_enter Tryd.func3, Tryd.ntmps3
    go_wp2_with fail
    refine (alive_calls w HT.out).mono ?_
    rintro e w1 ⟨rfl, hb1⟩
    have HB1 := Aside0.mk hb1
    clear hb1
    go_wp2_with fail
    refine (HSum.out w1 (Kd.C_below HR.out HB1.out)).mono ?_
    rintro e w2 ⟨rfl, hdr⟩
    have HB2 := Aside0.mk (below_step HB1.out hdr.below)
    clear hdr HSum
    go_wp2_with fail
    refine (HSeal.out w2 (Kd.C_below HR.out HB2.out) (tab8_below HT.out HB2.out)).mono ?_
    rintro e w3 ⟨v3, rfl, ho3, hb3⟩
    obtain ⟨A3, c3, rfl, hc3, hC3, _, _, _⟩ := own_C ho3 rfl
    have HB3 := Aside0.mk (below_step HB2.out hb3)
    have HC3 := Aside0.mk hC3
    clear hb3 ho3 hC3 HSeal
    go_wp2_with fail
    refine (HCk.out w3 (Kd.C_below HR.out HB3.out)).mono ?_
    rintro e w4 ⟨rfl, hb4⟩
    have HB4 := Aside0.mk (below_step HB3.out hb4)
    have HC4 := Aside0.mk (Kd.C_below HC3.out hb4)
    clear hb4 HCk
    go_wp2_with fail
    refine (oakumref03_Check.calls kc A0 c0 l0 ck w4 (Kd.C_below HR.out HB4.out) hc0 HKc.out).mono ?_
    rintro e w5 ⟨rfl, hd5⟩
    have HB5 := Aside0.mk (below_step HB4.out hd5.below)
    have HC5 := Aside0.mk (Kd.C_below HC4.out hd5.below)
    clear hd5
    go_wp2_with fail
    refine (oakumref03_Sums.calls 1200 A0 c0 l0 p s w5 (Kd.C_below HR.out HB5.out) hc0 HSums.out).mono ?_
    rintro e w6 ⟨rfl, hd6⟩
    have HB6 := Aside0.mk (below_step HB5.out hd6.below)
    have HC6 := Aside0.mk (Kd.C_below HC5.out hd6.below)
    clear hd6
    go_wp2_with fail
    refine (oakumref03_Seal.calls 1200 A0 c0 l0 xs w6 (Kd.C_below HR.out HB6.out) hc0 HRS.out).mono ?_
    rintro e w7 ⟨v7, rfl, hR7, hb7⟩
    obtain ⟨A7, c7, rfl, hc7, hC7⟩ := Kd.R_reads hR7
    have HB7 := Aside0.mk (below_step HB6.out hb7)
    have HC7 := Aside0.mk hC7
    have HX7 := Aside0.mk (Kd.C_below HC6.out hb7)
    clear hR7 hb7 hC7
    go_wp2_with fail
    refine (oakumref01_Same.calls A3 c3 xs A7 c7 xs true w7 HX7.out hc3 HC7.out hc7 (same_t xs)).mono ?_
    rintro e w8 ⟨rfl, hd8⟩
    have HB8 := Aside0.mk (below_step HB7.out hd8.below)
    clear hd8
    go_wp2_with fail
    go_ret
    exact ⟨rfl, HB8.out⟩
  · rw [if_neg hl] at hsum
    have HSeal := Lib.hid (fun (W : World) (h : Kd.C (Kd.int .u8) W A0 l0.length l0) => seal_no A0 c0 l0 W hb hl h hc0)
    have HSum := Lib.hid hsum
    have hln : ((l0.length : Int) != 512) = true := by simp; omega
    have hln2 : ((l0.length : Int) == 512) = false := by simp; omega
    clear hb hsum hl
    go_enter Tryd.func3, Tryd.ntmps3
    go_wp2_with fail
    refine (alive_calls w HT.out).mono ?_
    rintro e w1 ⟨rfl, hb1⟩
    have HB1 := Aside0.mk hb1
    clear hb1
    go_wp2_with fail
    refine (HSum.out w1 (Kd.C_below HR.out HB1.out)).mono ?_
    rintro e w2 ⟨rfl, hdr⟩
    have HB2 := Aside0.mk (below_step HB1.out hdr.below)
    clear hdr HSum
    go_wp2_with fail
    refine (HSeal.out w2 (Kd.C_below HR.out HB2.out)).mono ?_
    rintro e w3 ⟨rfl, hb3⟩
    have HB3 := Aside0.mk (below_step HB2.out hb3)
    clear hb3 HSeal
    go_wp2_with fail
    refine (HCk.out w3 (Kd.C_below HR.out HB3.out)).mono ?_
    rintro e w4 ⟨rfl, hb4⟩
    have HB4 := Aside0.mk (below_step HB3.out hb4)
    clear hb4 HCk
    go_wp2_with fail
    refine (oakumref03_Check.calls kc A0 c0 l0 ck w4 (Kd.C_below HR.out HB4.out) hc0 HKc.out).mono ?_
    rintro e w5 ⟨rfl, hd5⟩
    have HB5 := Aside0.mk (below_step HB4.out hd5.below)
    clear hd5
    go_wp2_with fail
    go_ret
    exact ⟨rfl, HB5.out⟩
end Go.Proofs.YteiabjoagcfpfaaDoor.Sums
