/- SumSeals: its walk. -/
import Derived.Test.YteiabjoagcfpfaaDoorWalkC
import Derived.Deep.RegionHeld3
set_option linter.unusedVariables false
set_option linter.unusedSimpArgs false
namespace Go.Proofs.YteiabjoagcfpfaaDoor.Sums
open Go.RowKit Go.Proofs.YteiabjoagcfpfaaDoor.PSumChecks Go.Proofs.YteiabjoagcfpfaaDoorW.PrintWords Go.Proofs.YteiabjoagcfpfaaDoorW.PrintLast Go.Proofs.YteiabjoagcfpfaaDoorW.PrintMore Go.Proofs.YteiabjoagcfpfaaDoor.Fmt Go.Proofs.YteiabjoagcfpfaaDoor.SumP Go.Proofs.YteiabjoagcfpfaaDoorW.Mv Go.Proofs.YteiabjoagcfpfaaDoorW.HKit
set_option maxHeartbeats 2000000 in
set_option maxRecDepth 100000 in
theorem sumSeals_calls (w : World) (hT : Tab8 w) (A0 : Option Addr) (c0 : Nat) (l0 : List Int) (hr0 : Kd.C (Kd.int .u8) w A0 l0.length l0) (hn0 : A0 = none → l0.length = 0 ∧ c0 = 0) (hc0 : l0.length ≤ c0) (y0 : l0.length * 1 ≤ 140737488351232) (hw0 : ∀ x ∈ l0, (Lit.int .u8 x).wf = true) (a1 : Int) (w1 : (Lit.int .i64 a1).wf = true) (a2 : Int) (w2 : (Lit.int .u8 a2).wf = true) :
    Calls Tryd.prog 4 #[.slice A0 l0.length c0, .int .i64 a1, .int .u8 a2] w fun e w' => e = .returned (.bool true) ∧ Below w.heap.size w w' := by
  have hb := bytes_wf hw0
  have HR := Aside0.mk hr0
  have HT := Aside0.mk hT
  have HN := Aside0.mk hn0
  have HBy := Aside0.mk hb
  obtain ⟨hq0, hq1⟩ := wf_u8_bd w2
  clear hr0 hT hn0 hw0 w1 w2
  by_cases hl : l0.length = 512
  · have hln : ((l0.length : Int) != 512) = false := by rw [hl]; rfl
    by_cases h1 : a1 < 0
    · have d1 : decide (a1 < 0) = true := decide_eq_true h1
      have HL := Aside0.mk hl
      clear hl hb
      go_enter Tryd.func4, Tryd.ntmps4
      go_wp2_with fail
      refine (alive_calls w HT.out).mono ?_
      rintro e w1 ⟨rfl, hb1⟩
      have HB1 := Aside0.mk hb1
      clear hb1
      go_wp2_with fail
      go_ret
      exact ⟨rfl, HB1.out⟩
    have d1 : decide (a1 < 0) = false := decide_eq_false h1
    by_cases h2 : 512 ≤ a1
    · have d2 : decide (512 ≤ a1) = true := decide_eq_true h2
      have d2' : decide (a1 < 512) = false := decide_eq_false (by omega)
      have HL := Aside0.mk hl
      clear hl hb
      go_enter Tryd.func4, Tryd.ntmps4
      go_wp2_with fail
      refine (alive_calls w HT.out).mono ?_
      rintro e w1 ⟨rfl, hb1⟩
      have HB1 := Aside0.mk hb1
      clear hb1
      go_wp2_with fail
      go_ret
      exact ⟨rfl, HB1.out⟩
    have d2 : decide (512 ≤ a1) = false := decide_eq_false h2
    by_cases h3 : 148 ≤ a1 ∧ a1 < 156
    · have d3 : decide (148 ≤ a1) = true := decide_eq_true h3.1
      have d4 : decide (a1 < 156) = true := decide_eq_true h3.2
      have HL := Aside0.mk hl
      clear hl hb
      go_enter Tryd.func4, Tryd.ntmps4
      go_wp2_with fail
      refine (alive_calls w HT.out).mono ?_
      rintro e w1 ⟨rfl, hb1⟩
      have HB1 := Aside0.mk hb1
      clear hb1
      go_wp2_with fail
      go_ret
      exact ⟨rfl, HB1.out⟩
    obtain ⟨n1, rfl⟩ := Int.eq_ofNat_of_zero_le (show 0 ≤ a1 by omega)
    have hn1 : n1 < 512 := by omega
    have hno : ¬ (148 ≤ n1 ∧ n1 < 156) := by omega
    have hseal := fun (W : World) (h : Kd.C (Kd.int .u8) W A0 l0.length l0) (h2 : Tab8 W) => seal_yes A0 c0 l0 W hb hl h hc0 HN.out h2
    have hslen := seal_len hl
    have hxb := seal_bytes hb
    have hck := check_seal hb hl
    have htk := take_seal hl
    have hdr := drop_seal hl
    have hlen0 : l0.length = 512 := hl
    rw [hslen] at hseal
    have hd3 : decide (148 ≤ (n1 : Int)) = false ∨ (decide (148 ≤ (n1 : Int)) = true ∧ decide ((n1 : Int) < 156) = false) := by
      by_cases h : 148 ≤ n1
      · exact .inr ⟨decide_eq_true (by omega), decide_eq_false (by omega)⟩
      · exact .inl (decide_eq_false (by omega))
    generalize hxs : sealOf l0 = xs at hseal hslen hxb hck htk hdr
    have HSeal := Lib.hid hseal
    have HXS := Aside0.mk hxs
    have HSl := Aside0.mk hslen
    have HCk := Aside0.mk hck
    have HTk := Aside0.mk htk
    have HDr := Aside0.mk hdr
    have HXb := Aside0.mk hxb
    have HL := Aside0.mk hl
    have HN1 := Aside0.mk hn1
    have HNo := Aside0.mk hno
    clear hl hb hlen0 hseal hslen hck htk hdr hxs hxb hno h1 h2 h3 hn1
    rcases hd3 with d3 | ⟨d3, d4⟩
    · go_enter Tryd.func4, Tryd.ntmps4
      go_wp2_with fail
      refine (alive_calls w HT.out).mono ?_
      rintro e w1 ⟨rfl, hb1⟩
      have HB1 := Aside0.mk hb1
      clear hb1
      go_wp2_with fail
      refine (HSeal.out w1 (Kd.C_below HR.out HB1.out) (tab8_below HT.out HB1.out)).mono ?_
      rintro e w2 ⟨v2, rfl, ho2, hb2⟩
      obtain ⟨A2, c2, rfl, hc2, hC2, _, _, _⟩ := own_C ho2 HSl.out.symm
      have HB2 := Aside0.mk (below_step HB1.out hb2)
      have HC2 := Aside0.mk hC2
      clear hb2 ho2 hC2 HSeal
      have hchk := fun (W : World) (h : Kd.C (Kd.int .u8) W A2 xs.length xs) => check_is A2 c2 xs W HXb.out h (by rw [HSl.out]; exact hc2)
      rw [HSl.out, HCk.out] at hchk
      have HChk := Lib.hid hchk
      clear hchk
      go_wp2_with fail
      obtain ⟨i0, hi0, hz0, hz1, hz2⟩ := info_parts byteInfo
      have t1 : ∀ W : World, (Instr.slice 22 (.slice A2 512 c2) none (some (.int .i64 148)) none).run Tryd.prog W = .ok (.slice A2 148 c2) W := cut_to (P := Tryd.prog) 22 5 .i64 Tryd.underlying22 hi0 A2 512 c2 148 (by omega) (by omega) hc2
      have t2 : ∀ W : World, (Instr.slice 22 (.slice A0 l0.length c0) none (some (.int .i64 148)) none).run Tryd.prog W = .ok (.slice A0 148 c0) W := cut_to (P := Tryd.prog) 22 5 .i64 Tryd.underlying22 hi0 A0 l0.length c0 148 (by omega) (by have := HL.out; omega) hc0
      have t3 : ∀ W : World, (Instr.slice 22 (.slice A2 512 c2) (some (.int .i64 156)) none none).run Tryd.prog W = .ok (.slice (if c2 = 156 then A2 else A2.map (fun x => x.add (156 * 1))) 356 (c2 - 156)) W := cut_from (P := Tryd.prog) 22 5 .i64 Tryd.underlying22 hi0 1 hz1 A2 512 c2 156 (by omega) (by omega)
      have t4 : ∀ W : World, (Instr.slice 22 (.slice A0 l0.length c0) (some (.int .i64 156)) none none).run Tryd.prog W = .ok (.slice (if c0 = 156 then A0 else A0.map (fun x => x.add (156 * 1))) (l0.length - 156) (c0 - 156)) W := cut_from (P := Tryd.prog) 22 5 .i64 Tryd.underlying22 hi0 1 hz1 A0 l0.length c0 156 (by omega) (by have := HL.out; omega)
      have hkey : ∀ W : World, Below w.heap.size w W → Kd.C (Kd.int .u8) W A2 512 xs → (convert 22 9 (.slice A2 148 c2)).run Tryd.prog W = .ok (.string (strOfNums (l0.take 148))) W ∧ (convert 22 9 (.slice A0 148 c0)).run Tryd.prog W = .ok (.string (strOfNums (l0.take 148))) W ∧ (convert 22 9 (.slice (if c2 = 156 then A2 else A2.map (fun x => x.add (156 * 1))) 356 (c2 - 156))).run Tryd.prog W = .ok (.string (strOfNums (l0.drop 156))) W ∧ (convert 22 9 (.slice (if c0 = 156 then A0 else A0.map (fun x => x.add (156 * 1))) (l0.length - 156) (c0 - 156))).run Tryd.prog W = .ok (.string (strOfNums (l0.drop 156))) W := by
        intro W hW hX
        have hR0 := Kd.C_below HR.out hW
        have hX' : Kd.C (Kd.int .u8) W A2 xs.length xs := by rw [HSl.out]; exact hX
        have e1 := Kd.C_take (m := 148) hX' (by rw [HSl.out]; omega)
        have e2 := Kd.C_take (m := 148) hR0 (by rw [HL.out]; omega)
        have e3 := Kd.C_drop (m := 156) (c := c2) hX' (by rw [HSl.out]; omega) (by rw [HSl.out]; exact hc2)
        have e4 := Kd.C_drop (m := 156) (c := c0) hR0 (by rw [HL.out]; omega) hc0
        have hl1 : (l0.take 148).length = 148 := by rw [List.length_take, HL.out]; rfl
        have hl2 : (l0.drop 156).length = 356 := by rw [List.length_drop, HL.out]
        have hl3 : l0.length - 156 = 356 := by rw [HL.out]
        rw [HTk.out, hl1] at e1
        rw [hl1] at e2
        rw [HDr.out, hl2] at e3
        rw [hl2] at e4
        rw [hl3]
        exact ⟨string_of_reads Tryd.underlying22 Tryd.underlying5 Tryd.underlying9 (Kd.reads_of_C (enc := Value.int .u8) (d := (0 : Int)) (h1 := fun _ => rfl) e1), string_of_reads Tryd.underlying22 Tryd.underlying5 Tryd.underlying9 (Kd.reads_of_C (enc := Value.int .u8) (d := (0 : Int)) (h1 := fun _ => rfl) e2), string_of_reads Tryd.underlying22 Tryd.underlying5 Tryd.underlying9 (Kd.reads_of_C (enc := Value.int .u8) (d := (0 : Int)) (h1 := fun _ => rfl) e3), string_of_reads Tryd.underlying22 Tryd.underlying5 Tryd.underlying9 (Kd.reads_of_C (enc := Value.int .u8) (d := (0 : Int)) (h1 := fun _ => rfl) e4)⟩
      generalize (if c2 = 156 then A2 else A2.map (fun x => x.add (156 * 1))) = B2 at t3 hkey
      generalize (if c0 = 156 then A0 else A0.map (fun x => x.add (156 * 1))) = B0 at t4 hkey
      generalize strOfNums (l0.take 148) = s1 at hkey
      generalize strOfNums (l0.drop 156) = s2 at hkey
      have HK := Aside0.mk hkey
      have HBd := Aside0.mk (below_step HB2.out (Drawn0.below (⟨⟨1, rfl⟩⟩ : Drawn0 w2 w2.drew)))
      have HCd := Aside0.mk (show Kd.C (Kd.int .u8) w2.drew A2 512 xs from HC2.out)
      have hS2 := hkey w2.drew HBd.out HCd.out
      have hS := And.intro (And.intro HBd HCd) hS2
      clear hkey hS2 hi0 hz0 hz1 hz2
      go_region_held3 (fun W => (Aside0 (Below w.heap.size w W) ∧ Aside0 (Kd.C (Kd.int .u8) W A2 512 xs)) ∧ (convert 22 9 (.slice A2 148 c2)).run Tryd.prog W = .ok (.string s1) W ∧ (convert 22 9 (.slice A0 148 c0)).run Tryd.prog W = .ok (.string s1) W ∧ (convert 22 9 (.slice B2 356 (c2 - 156))).run Tryd.prog W = .ok (.string s2) W ∧ (convert 22 9 (.slice B0 (l0.length - 156) (c0 - 156))).run Tryd.prog W = .ok (.string s2) W) (first | exact hS | assumption) (first | (go_at_call 8; refine (HChk.out _ HCd.out).mono ?_; rintro e w3 ⟨rfl, hb3⟩; have HB3 := Aside0.mk (below_step HBd.out hb3); have HC3 := Aside0.mk (Kd.C_below HCd.out hb3); have hS3 := And.intro (And.intro HB3 HC3) (HK.out w3 HB3.out HC3.out)))
      clear t1 t2 t3 t4 hS3 hS HK HCd HBd HB2 HC2
      go_upto_region 10 with (at_builtin; refine print_append_row (w0 := w3) (W := w3.alloc (.cells #[] 5)) w3.heap.size rfl (.tmp 72) (.tmp 73) 22 5 .u8 1 rfl Tryd.underlying22 byteInfo (by decide) (.slice (some ⟨w3.heap.size, 0, none⟩) 0 0) [] xs A2 512 c2 rfl rfl (own_lit w3 w3.heap.size 5 .u8 [] (Nat.le_refl _) (by decide)) (Kd.reads_of_C (enc := Value.int .u8) (d := (0 : Int)) (h1 := fun _ => rfl) (Kd.C_below HC3.out ((Below.refl _ _).alloc (Nat.le_refl _) _))) ((Below.refl _ _).alloc (Nat.le_refl _) _) (by simp) (by decide) (fun v4 w4 h1 hb hgr hat => ?_); rw [List.nil_append, HSl.out] at h1; obtain ⟨g, cap, rfl, hgb, hgl⟩ := h1.form (by decide); obtain ⟨hy0, hy1⟩ := own_at h1 (n1 : Int) (by omega) (by have := HN1.out; omega); rw [Int.toNat_natCast] at hy0 hy1; have HO4 := Aside0.mk h1; have HBn := Aside0.mk hb; have HGb := Aside0.mk hgb; have hn1 : (n1 : Int) < 512 := by { have := HN1.out; omega }; clear h1 hb hgr hat hgb)
      have hs5 := (own_store HO4.out (n1 : Int) a2).1
      rw [Int.toNat_natCast] at hs5
      have hb5 : Below w3.heap.size w3 (w4.setCell ⟨g, n1, none⟩ (.int .u8 a2)) := HBn.out.setCell (p := ⟨g, n1, none⟩) HGb.out _
      have hbb := below_step HB3.out hb5
      have hc5 := Kd.C_below HC3.out hb5
      generalize w4.setCell ⟨g, n1, none⟩ (.int .u8 a2) = w5 at hs5 hb5 hbb hc5 ⊢
      obtain ⟨ad, rfl, hcell⟩ := Kd.at_int hc5 (n1 : Int) (by omega) hn1
      rw [Int.toNat_natCast] at hcell
      have hylen : (xs.set n1 a2).length = 512 := by rw [List.length_set]; exact HSl.out
      have hyb : Bytes (xs.set n1 a2) := by
        intro x hx
        rcases List.mem_or_eq_of_mem_set hx with h | rfl
        · exact HXb.out x h
        · exact ⟨hq0, hq1⟩
      have hyC : Kd.C (Kd.int .u8) w5 (some ⟨g, 0, none⟩) 512 (xs.set n1 a2) := by
        obtain ⟨A, c, e1, hcc, hC, _⟩ := own_C hs5 hylen.symm
        injection e1 with e1 e2 e3
        subst e1 e3
        exact hC
      have hcap : 512 ≤ cap := by
        obtain ⟨A, c, e1, hcc, hC, _⟩ := own_C hs5 hylen.symm
        injection e1 with e1 e2 e3
        subst e1 e3
        exact hcc
      have hset : a2 = rd xs (n1 : Int) → xs.set n1 a2 = xs := by
        intro h
        have hlt : n1 < xs.length := by rw [HSl.out]; exact HN1.out
        rw [h, rd_get xs n1 hlt, List.set_getElem_self]
      have hoth := fun (h : a2 ≠ rd xs (n1 : Int)) (hs : signed (xs.set n1 a2) ≠ plain xs) => by
        have := check_other HBy.out HL.out n1 a2 HN1.out HNo.out
        rw [HXS.out] at this
        exact this h hs
      generalize rd xs (n1 : Int) = v at hcell hset hoth
      generalize xs.set n1 a2 = ys at hyb hylen hyC hset hoth
      have HCy := Lib.hid (fun (W : World) (h : Kd.C (Kd.int .u8) W (some ⟨g, 0, none⟩) 512 ys) => check_is (some ⟨g, 0, none⟩) cap ys W hyb (by rw [hylen]; exact h) (by rw [hylen]; exact hcap))
      have hpy := fun (W : World) (h : Kd.C (Kd.int .u8) W (some ⟨g, 0, none⟩) ys.length ys) => oakumref03_Sums.calls 1200 (some ⟨g, 0, none⟩) cap ys (plain ys) (signed ys) W h (by rw [hylen]; exact hcap) (sums_f hyb hylen 1200 (by omega))
      rw [hylen] at hpy
      have hpx := fun (W : World) (h : Kd.C (Kd.int .u8) W (some ad) xs.length xs) => oakumref03_Sums.calls 1200 (some ad) c2 xs (plain xs) (signed xs) W h (by rw [HSl.out]; exact hc2) (sums_f HXb.out HSl.out 1200 (by omega))
      rw [HSl.out] at hpx
      have HB5 := Aside0.mk hbb
      have HC5 := Aside0.mk hc5
      have HYC := Aside0.mk hyC
      have HYb := Aside0.mk hyb
      have HYl := Aside0.mk hylen
      have HCap := Aside0.mk hcap
      have HSet := Lib.hid hset
      have HOth := Lib.hid hoth
      clear hs5 hb5 hbb hc5 hyC hset hoth HO4 hgl
      by_cases hv : a2 = v
      · have hveq : (a2 == v) = true := beq_iff_eq.2 hv
        have hy : ys = xs := HSet.out hv
        have HCy2 := HCy.out
        rw [hylen, hy, HCk.out] at HCy2
        rw [hy] at HYC
        have HCy3 := Lib.hid HCy2
        clear hv HSet HOth HCy HCy2 hpx hpy hylen hyb hcap
        clear hy
        go_wp2_with fail
        refine (HCy3.out _ HYC.out).mono ?_
        rintro e w6 ⟨rfl, hb6⟩
        have HB6 := Aside0.mk (below_step HB5.out hb6)
        clear hb6
        go_wp2_with fail
        go_ret
        exact ⟨rfl, HB6.out⟩
      · have hveq : (a2 == v) = false := beq_eq_false_iff_ne.2 hv
        have hO := HOth.out hv
        have HCy2 := HCy.out
        rw [hylen] at HCy2
        generalize plain ys = py at hpy
        generalize signed ys = sy at hpy hO
        generalize plain xs = px at hpx hO
        generalize signed xs = sx at hpx
        generalize checkOf ys = cy at hO HCy2
        have HPy := Lib.hid hpy
        have HPx := Lib.hid hpx
        have HCy3 := Lib.hid HCy2
        clear HCy HCy2 hpx hpy hylen hyb hcap hv HSet HOth
        by_cases hs : sy = px
        · have hseq : (sy == px) = true := beq_iff_eq.2 hs
          clear hs hO
          go_wp2_with fail
          refine (HPy.out w5 HYC.out).mono ?_
          rintro e w6 ⟨rfl, hd6⟩
          have HB6 := Aside0.mk (below_step HB5.out hd6.below)
          have HC6 := Aside0.mk (Kd.C_below HC5.out hd6.below)
          clear hd6
          go_wp2_with fail
          refine (HPx.out w6 HC6.out).mono ?_
          rintro e w7 ⟨rfl, hd7⟩
          have HB7 := Aside0.mk (below_step HB6.out hd7.below)
          clear hd7
          go_wp2_with fail
          go_ret
          exact ⟨rfl, HB7.out⟩
        · have hseq : (sy == px) = false := beq_eq_false_iff_ne.2 hs
          have hO2 := hO hs
          rw [hO2] at HCy3
          clear hs hO hO2
          go_wp2_with fail
          refine (HPy.out w5 HYC.out).mono ?_
          rintro e w6 ⟨rfl, hd6⟩
          have HB6 := Aside0.mk (below_step HB5.out hd6.below)
          have HC6 := Aside0.mk (Kd.C_below HC5.out hd6.below)
          have HD6 := Aside0.mk (Kd.C_below HYC.out hd6.below)
          clear hd6
          go_wp2_with fail
          refine (HPx.out w6 HC6.out).mono ?_
          rintro e w7 ⟨rfl, hd7⟩
          have HB7 := Aside0.mk (below_step HB6.out hd7.below)
          have HD7 := Aside0.mk (Kd.C_below HD6.out hd7.below)
          clear hd7
          go_wp2_with fail
          refine (HCy3.out w7 HD7.out).mono ?_
          rintro e w8 ⟨rfl, hb8⟩
          have HB8 := Aside0.mk (below_step HB7.out hb8)
          clear hb8
          go_wp2_with fail
          go_ret
          exact ⟨rfl, HB8.out⟩
    · go_enter Tryd.func4, Tryd.ntmps4
      go_wp2_with fail
      refine (alive_calls w HT.out).mono ?_
      rintro e w1 ⟨rfl, hb1⟩
      have HB1 := Aside0.mk hb1
      clear hb1
      go_wp2_with fail
      refine (HSeal.out w1 (Kd.C_below HR.out HB1.out) (tab8_below HT.out HB1.out)).mono ?_
      rintro e w2 ⟨v2, rfl, ho2, hb2⟩
      obtain ⟨A2, c2, rfl, hc2, hC2, _, _, _⟩ := own_C ho2 HSl.out.symm
      have HB2 := Aside0.mk (below_step HB1.out hb2)
      have HC2 := Aside0.mk hC2
      clear hb2 ho2 hC2 HSeal
      have hchk := fun (W : World) (h : Kd.C (Kd.int .u8) W A2 xs.length xs) => check_is A2 c2 xs W HXb.out h (by rw [HSl.out]; exact hc2)
      rw [HSl.out, HCk.out] at hchk
      have HChk := Lib.hid hchk
      clear hchk
      go_wp2_with fail
      obtain ⟨i0, hi0, hz0, hz1, hz2⟩ := info_parts byteInfo
      have t1 : ∀ W : World, (Instr.slice 22 (.slice A2 512 c2) none (some (.int .i64 148)) none).run Tryd.prog W = .ok (.slice A2 148 c2) W := cut_to (P := Tryd.prog) 22 5 .i64 Tryd.underlying22 hi0 A2 512 c2 148 (by omega) (by omega) hc2
      have t2 : ∀ W : World, (Instr.slice 22 (.slice A0 l0.length c0) none (some (.int .i64 148)) none).run Tryd.prog W = .ok (.slice A0 148 c0) W := cut_to (P := Tryd.prog) 22 5 .i64 Tryd.underlying22 hi0 A0 l0.length c0 148 (by omega) (by have := HL.out; omega) hc0
      have t3 : ∀ W : World, (Instr.slice 22 (.slice A2 512 c2) (some (.int .i64 156)) none none).run Tryd.prog W = .ok (.slice (if c2 = 156 then A2 else A2.map (fun x => x.add (156 * 1))) 356 (c2 - 156)) W := cut_from (P := Tryd.prog) 22 5 .i64 Tryd.underlying22 hi0 1 hz1 A2 512 c2 156 (by omega) (by omega)
      have t4 : ∀ W : World, (Instr.slice 22 (.slice A0 l0.length c0) (some (.int .i64 156)) none none).run Tryd.prog W = .ok (.slice (if c0 = 156 then A0 else A0.map (fun x => x.add (156 * 1))) (l0.length - 156) (c0 - 156)) W := cut_from (P := Tryd.prog) 22 5 .i64 Tryd.underlying22 hi0 1 hz1 A0 l0.length c0 156 (by omega) (by have := HL.out; omega)
      have hkey : ∀ W : World, Below w.heap.size w W → Kd.C (Kd.int .u8) W A2 512 xs → (convert 22 9 (.slice A2 148 c2)).run Tryd.prog W = .ok (.string (strOfNums (l0.take 148))) W ∧ (convert 22 9 (.slice A0 148 c0)).run Tryd.prog W = .ok (.string (strOfNums (l0.take 148))) W ∧ (convert 22 9 (.slice (if c2 = 156 then A2 else A2.map (fun x => x.add (156 * 1))) 356 (c2 - 156))).run Tryd.prog W = .ok (.string (strOfNums (l0.drop 156))) W ∧ (convert 22 9 (.slice (if c0 = 156 then A0 else A0.map (fun x => x.add (156 * 1))) (l0.length - 156) (c0 - 156))).run Tryd.prog W = .ok (.string (strOfNums (l0.drop 156))) W := by
        intro W hW hX
        have hR0 := Kd.C_below HR.out hW
        have hX' : Kd.C (Kd.int .u8) W A2 xs.length xs := by rw [HSl.out]; exact hX
        have e1 := Kd.C_take (m := 148) hX' (by rw [HSl.out]; omega)
        have e2 := Kd.C_take (m := 148) hR0 (by rw [HL.out]; omega)
        have e3 := Kd.C_drop (m := 156) (c := c2) hX' (by rw [HSl.out]; omega) (by rw [HSl.out]; exact hc2)
        have e4 := Kd.C_drop (m := 156) (c := c0) hR0 (by rw [HL.out]; omega) hc0
        have hl1 : (l0.take 148).length = 148 := by rw [List.length_take, HL.out]; rfl
        have hl2 : (l0.drop 156).length = 356 := by rw [List.length_drop, HL.out]
        have hl3 : l0.length - 156 = 356 := by rw [HL.out]
        rw [HTk.out, hl1] at e1
        rw [hl1] at e2
        rw [HDr.out, hl2] at e3
        rw [hl2] at e4
        rw [hl3]
        exact ⟨string_of_reads Tryd.underlying22 Tryd.underlying5 Tryd.underlying9 (Kd.reads_of_C (enc := Value.int .u8) (d := (0 : Int)) (h1 := fun _ => rfl) e1), string_of_reads Tryd.underlying22 Tryd.underlying5 Tryd.underlying9 (Kd.reads_of_C (enc := Value.int .u8) (d := (0 : Int)) (h1 := fun _ => rfl) e2), string_of_reads Tryd.underlying22 Tryd.underlying5 Tryd.underlying9 (Kd.reads_of_C (enc := Value.int .u8) (d := (0 : Int)) (h1 := fun _ => rfl) e3), string_of_reads Tryd.underlying22 Tryd.underlying5 Tryd.underlying9 (Kd.reads_of_C (enc := Value.int .u8) (d := (0 : Int)) (h1 := fun _ => rfl) e4)⟩
      generalize (if c2 = 156 then A2 else A2.map (fun x => x.add (156 * 1))) = B2 at t3 hkey
      generalize (if c0 = 156 then A0 else A0.map (fun x => x.add (156 * 1))) = B0 at t4 hkey
      generalize strOfNums (l0.take 148) = s1 at hkey
      generalize strOfNums (l0.drop 156) = s2 at hkey
      have HK := Aside0.mk hkey
      have HBd := Aside0.mk (below_step HB2.out (Drawn0.below (⟨⟨1, rfl⟩⟩ : Drawn0 w2 w2.drew)))
      have HCd := Aside0.mk (show Kd.C (Kd.int .u8) w2.drew A2 512 xs from HC2.out)
      have hS2 := hkey w2.drew HBd.out HCd.out
      have hS := And.intro (And.intro HBd HCd) hS2
      clear hkey hS2 hi0 hz0 hz1 hz2
      go_region_held3 (fun W => (Aside0 (Below w.heap.size w W) ∧ Aside0 (Kd.C (Kd.int .u8) W A2 512 xs)) ∧ (convert 22 9 (.slice A2 148 c2)).run Tryd.prog W = .ok (.string s1) W ∧ (convert 22 9 (.slice A0 148 c0)).run Tryd.prog W = .ok (.string s1) W ∧ (convert 22 9 (.slice B2 356 (c2 - 156))).run Tryd.prog W = .ok (.string s2) W ∧ (convert 22 9 (.slice B0 (l0.length - 156) (c0 - 156))).run Tryd.prog W = .ok (.string s2) W) (first | exact hS | assumption) (first | (go_at_call 8; refine (HChk.out _ HCd.out).mono ?_; rintro e w3 ⟨rfl, hb3⟩; have HB3 := Aside0.mk (below_step HBd.out hb3); have HC3 := Aside0.mk (Kd.C_below HCd.out hb3); have hS3 := And.intro (And.intro HB3 HC3) (HK.out w3 HB3.out HC3.out)))
      clear t1 t2 t3 t4 hS3 hS HK HCd HBd HB2 HC2
      go_upto_region 10 with (at_builtin; refine print_append_row (w0 := w3) (W := w3.alloc (.cells #[] 5)) w3.heap.size rfl (.tmp 72) (.tmp 73) 22 5 .u8 1 rfl Tryd.underlying22 byteInfo (by decide) (.slice (some ⟨w3.heap.size, 0, none⟩) 0 0) [] xs A2 512 c2 rfl rfl (own_lit w3 w3.heap.size 5 .u8 [] (Nat.le_refl _) (by decide)) (Kd.reads_of_C (enc := Value.int .u8) (d := (0 : Int)) (h1 := fun _ => rfl) (Kd.C_below HC3.out ((Below.refl _ _).alloc (Nat.le_refl _) _))) ((Below.refl _ _).alloc (Nat.le_refl _) _) (by simp) (by decide) (fun v4 w4 h1 hb hgr hat => ?_); rw [List.nil_append, HSl.out] at h1; obtain ⟨g, cap, rfl, hgb, hgl⟩ := h1.form (by decide); obtain ⟨hy0, hy1⟩ := own_at h1 (n1 : Int) (by omega) (by have := HN1.out; omega); rw [Int.toNat_natCast] at hy0 hy1; have HO4 := Aside0.mk h1; have HBn := Aside0.mk hb; have HGb := Aside0.mk hgb; have hn1 : (n1 : Int) < 512 := by { have := HN1.out; omega }; clear h1 hb hgr hat hgb)
      have hs5 := (own_store HO4.out (n1 : Int) a2).1
      rw [Int.toNat_natCast] at hs5
      have hb5 : Below w3.heap.size w3 (w4.setCell ⟨g, n1, none⟩ (.int .u8 a2)) := HBn.out.setCell (p := ⟨g, n1, none⟩) HGb.out _
      have hbb := below_step HB3.out hb5
      have hc5 := Kd.C_below HC3.out hb5
      generalize w4.setCell ⟨g, n1, none⟩ (.int .u8 a2) = w5 at hs5 hb5 hbb hc5 ⊢
      obtain ⟨ad, rfl, hcell⟩ := Kd.at_int hc5 (n1 : Int) (by omega) hn1
      rw [Int.toNat_natCast] at hcell
      have hylen : (xs.set n1 a2).length = 512 := by rw [List.length_set]; exact HSl.out
      have hyb : Bytes (xs.set n1 a2) := by
        intro x hx
        rcases List.mem_or_eq_of_mem_set hx with h | rfl
        · exact HXb.out x h
        · exact ⟨hq0, hq1⟩
      have hyC : Kd.C (Kd.int .u8) w5 (some ⟨g, 0, none⟩) 512 (xs.set n1 a2) := by
        obtain ⟨A, c, e1, hcc, hC, _⟩ := own_C hs5 hylen.symm
        injection e1 with e1 e2 e3
        subst e1 e3
        exact hC
      have hcap : 512 ≤ cap := by
        obtain ⟨A, c, e1, hcc, hC, _⟩ := own_C hs5 hylen.symm
        injection e1 with e1 e2 e3
        subst e1 e3
        exact hcc
      have hset : a2 = rd xs (n1 : Int) → xs.set n1 a2 = xs := by
        intro h
        have hlt : n1 < xs.length := by rw [HSl.out]; exact HN1.out
        rw [h, rd_get xs n1 hlt, List.set_getElem_self]
      have hoth := fun (h : a2 ≠ rd xs (n1 : Int)) (hs : signed (xs.set n1 a2) ≠ plain xs) => by
        have := check_other HBy.out HL.out n1 a2 HN1.out HNo.out
        rw [HXS.out] at this
        exact this h hs
      generalize rd xs (n1 : Int) = v at hcell hset hoth
      generalize xs.set n1 a2 = ys at hyb hylen hyC hset hoth
      have HCy := Lib.hid (fun (W : World) (h : Kd.C (Kd.int .u8) W (some ⟨g, 0, none⟩) 512 ys) => check_is (some ⟨g, 0, none⟩) cap ys W hyb (by rw [hylen]; exact h) (by rw [hylen]; exact hcap))
      have hpy := fun (W : World) (h : Kd.C (Kd.int .u8) W (some ⟨g, 0, none⟩) ys.length ys) => oakumref03_Sums.calls 1200 (some ⟨g, 0, none⟩) cap ys (plain ys) (signed ys) W h (by rw [hylen]; exact hcap) (sums_f hyb hylen 1200 (by omega))
      rw [hylen] at hpy
      have hpx := fun (W : World) (h : Kd.C (Kd.int .u8) W (some ad) xs.length xs) => oakumref03_Sums.calls 1200 (some ad) c2 xs (plain xs) (signed xs) W h (by rw [HSl.out]; exact hc2) (sums_f HXb.out HSl.out 1200 (by omega))
      rw [HSl.out] at hpx
      have HB5 := Aside0.mk hbb
      have HC5 := Aside0.mk hc5
      have HYC := Aside0.mk hyC
      have HYb := Aside0.mk hyb
      have HYl := Aside0.mk hylen
      have HCap := Aside0.mk hcap
      have HSet := Lib.hid hset
      have HOth := Lib.hid hoth
      clear hs5 hb5 hbb hc5 hyC hset hoth HO4 hgl
      by_cases hv : a2 = v
      · have hveq : (a2 == v) = true := beq_iff_eq.2 hv
        have hy : ys = xs := HSet.out hv
        have HCy2 := HCy.out
        rw [hylen, hy, HCk.out] at HCy2
        rw [hy] at HYC
        have HCy3 := Lib.hid HCy2
        clear hv HSet HOth HCy HCy2 hpx hpy hylen hyb hcap
        clear hy
        go_wp2_with fail
        refine (HCy3.out _ HYC.out).mono ?_
        rintro e w6 ⟨rfl, hb6⟩
        have HB6 := Aside0.mk (below_step HB5.out hb6)
        clear hb6
        go_wp2_with fail
        go_ret
        exact ⟨rfl, HB6.out⟩
      · have hveq : (a2 == v) = false := beq_eq_false_iff_ne.2 hv
        have hO := HOth.out hv
        have HCy2 := HCy.out
        rw [hylen] at HCy2
        generalize plain ys = py at hpy
        generalize signed ys = sy at hpy hO
        generalize plain xs = px at hpx hO
        generalize signed xs = sx at hpx
        generalize checkOf ys = cy at hO HCy2
        have HPy := Lib.hid hpy
        have HPx := Lib.hid hpx
        have HCy3 := Lib.hid HCy2
        clear HCy HCy2 hpx hpy hylen hyb hcap hv HSet HOth
        by_cases hs : sy = px
        · have hseq : (sy == px) = true := beq_iff_eq.2 hs
          clear hs hO
          go_wp2_with fail
          refine (HPy.out w5 HYC.out).mono ?_
          rintro e w6 ⟨rfl, hd6⟩
          have HB6 := Aside0.mk (below_step HB5.out hd6.below)
          have HC6 := Aside0.mk (Kd.C_below HC5.out hd6.below)
          clear hd6
          go_wp2_with fail
          refine (HPx.out w6 HC6.out).mono ?_
          rintro e w7 ⟨rfl, hd7⟩
          have HB7 := Aside0.mk (below_step HB6.out hd7.below)
          clear hd7
          go_wp2_with fail
          go_ret
          exact ⟨rfl, HB7.out⟩
        · have hseq : (sy == px) = false := beq_eq_false_iff_ne.2 hs
          have hO2 := hO hs
          rw [hO2] at HCy3
          clear hs hO hO2
          go_wp2_with fail
          refine (HPy.out w5 HYC.out).mono ?_
          rintro e w6 ⟨rfl, hd6⟩
          have HB6 := Aside0.mk (below_step HB5.out hd6.below)
          have HC6 := Aside0.mk (Kd.C_below HC5.out hd6.below)
          have HD6 := Aside0.mk (Kd.C_below HYC.out hd6.below)
          clear hd6
          go_wp2_with fail
          refine (HPx.out w6 HC6.out).mono ?_
          rintro e w7 ⟨rfl, hd7⟩
          have HB7 := Aside0.mk (below_step HB6.out hd7.below)
          have HD7 := Aside0.mk (Kd.C_below HD6.out hd7.below)
          clear hd7
          go_wp2_with fail
          refine (HCy3.out w7 HD7.out).mono ?_
          rintro e w8 ⟨rfl, hb8⟩
          have HB8 := Aside0.mk (below_step HB7.out hb8)
          clear hb8
          go_wp2_with fail
          go_ret
          exact ⟨rfl, HB8.out⟩
  · have hln : ((l0.length : Int) != 512) = true := by simp; omega
    have HL := Aside0.mk hl
    clear hl hb
    go_enter Tryd.func4, Tryd.ntmps4
    go_wp2_with fail
    refine (alive_calls w HT.out).mono ?_
    rintro e w1 ⟨rfl, hb1⟩
    have HB1 := Aside0.mk hb1
    clear hb1
    go_wp2_with fail
    go_ret
    exact ⟨rfl, HB1.out⟩
end Go.Proofs.YteiabjoagcfpfaaDoor.Sums
