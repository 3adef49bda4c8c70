/- SourceAlike: its walk. -/
import Derived.Test.YtepcdngdllciiaaAlike
set_option linter.unusedVariables false
set_option linter.unusedSimpArgs false
namespace Go.Proofs.Ytepcdngdllciiaa.Hand
open Go.RowKit Go.Proofs.YtepcdngdllciiaaW.PrintWords Go.Proofs.YtepcdngdllciiaaW.PrintLast Go.Proofs.YtepcdngdllciiaaW.PrintMore Go.Proofs.YtepcdngdllciiaaW.HKit Go.Proofs.Ytepcdngdllciiaa.PSourceBlocks
attribute [local go_sem] max2_int min2_int max_two min_two max_three min_three max_four min_four   -- for this text's walks alone
theorem wf_i64_bd {n : Int} (h : (Lit.int .i64 n).wf = true) : -9223372036854775808 ≤ n ∧ n ≤ 9223372036854775807 := by
  simp [Lit.wf, IntKind.min, IntKind.max, IntKind.signed, IntKind.bits] at h
  omega
theorem rd_wf {xs : List Int} (h : ∀ x ∈ xs, (Lit.int .i64 x).wf = true) (j : Nat) (hj : j < xs.length) : -9223372036854775808 ≤ rd xs (j : Int) ∧ rd xs (j : Int) ≤ 9223372036854775807 := by
  have e : rd xs (j : Int) = xs[j] := by simp [rd, List.getD_eq_getElem?_getD, List.getElem?_eq_getElem hj]
  rw [e]
  exact wf_i64_bd (h _ (List.getElem_mem hj))
set_option maxHeartbeats 8000000 in
set_option maxRecDepth 100000 in
theorem sourceAlike_calls (w : World) (A0 : Option Addr) (c0 : Nat) (l0 : List Int) (hr0 : Kd.C (Kd.int .u8) w A0 l0.length l0) (hn0 : A0 = none → l0.length = 0 ∧ c0 = 0) (hc0 : l0.length ≤ c0) (y0 : l0.length * 1 ≤ 140737488351232) (hw0 : ∀ x ∈ l0, (Lit.int .u8 x).wf = true)
    (A1 : Option Addr) (c1 : Nat) (l1 : List Int) (hr1 : Kd.C (Kd.int .i64) w A1 l1.length l1) (hn1 : A1 = none → l1.length = 0 ∧ c1 = 0) (hc1 : l1.length ≤ c1) (y1 : l1.length * 8 ≤ 140737488351232) (hw1 : ∀ x ∈ l1, (Lit.int .i64 x).wf = true)
    (A2 : Option Addr) (c2 : Nat) (l2 : List Int) (hr2 : Kd.C (Kd.int .i64) w A2 l2.length l2) (hn2 : A2 = none → l2.length = 0 ∧ c2 = 0) (hc2 : l2.length ≤ c2) (y2 : l2.length * 8 ≤ 140737488351232) (hw2 : ∀ x ∈ l2, (Lit.int .i64 x).wf = true) :
    Calls Try.prog 5 #[.slice A0 l0.length c0, .slice A1 l1.length c1, .slice A2 l2.length c2] w fun e w' => e = .returned (.bool true) ∧ Below w.heap.size w w' := by
  have HR0 := Aside0.mk hr0
  have HR1 := Aside0.mk hr1
  have HR2 := Aside0.mk hr2
  have HW1 := Aside0.mk hw1
  clear hr0 hr1 hr2 hw0 hw1 hw2
  by_cases hm : 4000 < l0.length ∨ 200 < l1.length
  · have HM := Aside0.mk (many_t hm)
    clear hm hn0 hn1 hn2
    go_enter Try.func5, Try.ntmps5
    go_wp2_with fail
    refine (alive_calls w).mono ?_
    rintro e w1 ⟨rfl, hb1⟩
    have HB := Aside0.mk hb1
    clear hb1
    go_wp2_with fail
    refine (oakumlaw13_many.calls A0 c0 l0 A1 c1 l1 true w1 (Kd.C_below HR0.out HB.out) hc0 (Kd.C_below HR1.out HB.out) hc1 HM.out).mono ?_
    rintro e w2 ⟨rfl, hd⟩
    have HB2 := Aside0.mk (below_step HB.out hd.below)
    clear hd
    go_wp2_with fail
    go_ret
    exact ⟨rfl, HB2.out⟩
  by_cases hm2 : 4000 < l0.length ∨ 200 < l2.length
  · have HM := Aside0.mk (many_f (bs := l0) (szs := l1) (by omega))
    have HM2 := Aside0.mk (many_t hm2)
    clear hm hm2 hn0 hn1 hn2
    go_enter Try.func5, Try.ntmps5
    go_wp2_with fail
    refine (alive_calls w).mono ?_
    rintro e w1 ⟨rfl, hb1⟩
    have HB := Aside0.mk hb1
    clear hb1
    go_wp2_with fail
    refine (oakumlaw13_many.calls A0 c0 l0 A1 c1 l1 false w1 (Kd.C_below HR0.out HB.out) hc0 (Kd.C_below HR1.out HB.out) hc1 HM.out).mono ?_
    rintro e w2 ⟨rfl, hd⟩
    have HB2 := Aside0.mk (below_step HB.out hd.below)
    clear hd
    go_wp2_with fail
    refine (oakumlaw13_many.calls A0 c0 l0 A2 c2 l2 true w2 (Kd.C_below HR0.out HB2.out) hc0 (Kd.C_below HR2.out HB2.out) hc2 HM2.out).mono ?_
    rintro e w3 ⟨rfl, hd⟩
    have HB3 := Aside0.mk (below_step HB2.out hd.below)
    clear hd
    go_wp2_with fail
    go_ret
    exact ⟨rfl, HB3.out⟩
  · have hm0 : l0.length ≤ 4000 := by omega
    have hm1 : l1.length ≤ 200 := by omega
    have hm3 : l2.length ≤ 200 := by omega
    have HM := Aside0.mk (many_f ⟨hm0, hm1⟩)
    have HM2 := Aside0.mk (many_f ⟨hm0, hm3⟩)
    have HN0 := Aside0.mk hn0
    have HN1 := Aside0.mk hn1
    have HN2 := Aside0.mk hn2
    clear hm hm2 hn0 hn1 hn2
    go_enter Try.func5, Try.ntmps5
    go_wp2_with fail
    refine (alive_calls w).mono ?_
    rintro e w1 ⟨rfl, hb1⟩
    have HB := Aside0.mk hb1
    clear hb1
    go_wp2_with fail
    refine (oakumlaw13_many.calls A0 c0 l0 A1 c1 l1 false w1 (Kd.C_below HR0.out HB.out) hc0 (Kd.C_below HR1.out HB.out) hc1 HM.out).mono ?_
    rintro e w2 ⟨rfl, hd⟩
    have HB2 := Aside0.mk (below_step HB.out hd.below)
    clear hd
    go_wp2_with fail
    refine (oakumlaw13_many.calls A0 c0 l0 A2 c2 l2 false w2 (Kd.C_below HR0.out HB2.out) hc0 (Kd.C_below HR2.out HB2.out) hc2 HM2.out).mono ?_
    rintro e w3 ⟨rfl, hd⟩
    have HB3 := Aside0.mk (below_step HB2.out hd.below)
    clear hd HM HM2 HB HB2
    go_wp2_with fail
    go_loopg [7, 8] l1.length (fun n v7 v8 wr => MostRel l1 w3 v7 v8 wr ∧ ∃ i : Nat, v8 = .int .i64 (i : Int) ∧ l1.length - i = n)
    case atStart => exact ⟨⟨0, 512, Nat.zero_le _, rfl, rfl, by decide, by decide, fun j hj => absurd hj (Nat.not_lt_zero _), Drawn0.refl _⟩, 0, rfl, rfl⟩
    case round =>
      obtain ⟨⟨i, m, hi, rfl, rfl, hm5, hmx, hall, hdr⟩, i', hii, hgk⟩ := hrel
      obtain rfl : i = i' := by
        injection hii with _ e
        exact Int.ofNat.inj e
      have HD := Aside0.mk hdr
      have HAll := Aside0.mk hall
      have HGk := Aside0.mk hgk
      clear hdr hall hgk hii
      by_cases h : i < l1.length
      · have hd : decide ((i : Int) < (l1.length : Int)) = true := decide_eq_true (by omega)
        have hd' : decide (i < l1.length) = true := decide_eq_true h
        obtain ⟨ad, hA, hcell⟩ := Kd.at_int (Kd.C_below HR1.out (below_step HB3.out HD.out.below)) (i : Int) (by omega) (by omega)
        rw [Int.toNat_natCast] at hcell
        obtain ⟨hx0, hx1⟩ := rd_wf HW1.out i h
        have HAll2 := Lib.hid (fun (m' : Int) (h1 : m ≤ m') (h2 : rd l1 (i : Int) ≤ m') (j : Nat) (hj : j < i + 1) => (by
          rcases Nat.lt_or_ge j i with h' | h'
          · exact Int.le_trans (HAll.out j h') h1
          · obtain rfl : j = i := by omega
            exact h2 : rd l1 (j : Int) ≤ m'))
        generalize rd l1 (i : Int) = x at hcell hx0 hx1 HAll2
        subst hA
        go_wp2_with fail
        all_goals
          go_roundg (l1.length - (i + 1))
          case rel => exact ⟨⟨i + 1, _, by omega, by go_num, rfl, by omega, by omega, HAll2.out _ (by omega) (by omega), HD.out⟩, i + 1, by go_num, rfl⟩
          case measure => have := HGk.out; omega
      · have hd : decide ((i : Int) < (l1.length : Int)) = false := decide_eq_false (by omega)
        have hd' : decide (i < l1.length) = false := decide_eq_false h
        obtain rfl : i = l1.length := by omega
        have HMo := Aside0.mk (psz_most l1 m hm5 HAll.out)
        have HBr := Aside0.mk (below_step HB3.out HD.out.below)
        clear HD HAll HGk HB3 hi h
        obtain ⟨wr0, hwr0⟩ : ∃ wr0, wr0 = wr := ⟨_, rfl⟩
        subst hwr0
        go_wp2_with fail
        refine (new_calls A0 l0.length c0 l0 A1 l1.length c1 l1 wr0 (Kd.C_below HR0.out HBr.out) HN0.out (by omega) (Kd.C_below HR1.out HBr.out) HN1.out (by omega)).mono ?_
        rintro e w5 ⟨gs, S, rfl, hS, hb5⟩
        have HB5 := Aside0.mk (below_step HBr.out hb5)
        have HS := Aside0.mk hS
        have HLP := Aside0.mk HBr.out.size
        generalize wr0.heap.size = Bp at HS HLP
        clear hS hb5
        go_wp2_with fail
        refine (newBlocks_calls (some ⟨gs, 0, none⟩) w5).mono ?_
        rintro e w6 ⟨gp, rfl, hgp, hBl, hb6⟩
        have HA6 := Aside0.mk (asked_start HS.out hgp hBl hb6)
        have HB6 := Aside0.mk (below_step HB5.out hb6)
        clear hgp hBl hb6 HS HBr HB5
        go_wp2_with fail
        refine (new_calls A0 l0.length c0 l0 A2 l2.length c2 l2 w6 (Kd.C_below HR0.out HB6.out) HN0.out (by omega) (Kd.C_below HR2.out HB6.out) HN2.out (by omega)).mono ?_
        rintro e w7 ⟨gs', S', rfl, hS, hb7⟩
        have HB7 := Aside0.mk (below_step HB6.out hb7)
        have HA7 := Aside0.mk (HA6.out.below hb7)
        have HS := Aside0.mk hS
        have HLQ := Aside0.mk HB6.out.size
        have hle7 := hb7.size
        clear hS hb7 HA6
        go_wp2_with fail
        refine (newBlocks_calls (some ⟨gs', 0, none⟩) w7).mono ?_
        rintro e w8 ⟨gq, rfl, hgq, hBl, hb8⟩
        have HQ8 := Aside0.mk (asked_start HS.out hgq hBl hb8)
        have HP8 := Aside0.mk (HA7.out.below hb8)
        have HB8 := Aside0.mk (below_step HB7.out hb8)
        have HDj := Aside0.mk (show ∀ q, (Bp ≤ q ∧ q < w6.heap.size) → ¬ (w6.heap.size ≤ q ∧ q < w8.heap.size) from fun q h1 h2 => by omega)
        generalize w6.heap.size = Bq at HQ8 HLQ HDj HP8
        clear hgq hBl hb8 HS HB6 HB7 HA7 hle7
        go_wp2_with fail
        go_loopg [11, 12] 12 (fun n v11 v12 wr => AlikeRel w Bp Bq gp gq l0 l1 l2 n v11 v12 wr)
        case atStart => exact ⟨0, _, _, rfl, rfl, HP8.out, HQ8.out, HDj.out, by simpa [nums] using own_nil w8 w.heap.size 5 1, fun q hq => by simp [Value.ownBlock] at hq, HB8.out⟩
        case round =>
          clear HP8 HQ8 HDj HB8
          obtain ⟨i, Fp, Fq, hi, rfl, hP, hQ, hdj, ho, hof, hb⟩ := hrel
          obtain ⟨A11, c11, rfl⟩ := own_slice ho
          have HP := Aside0.mk hP
          have HQ := Aside0.mk hQ
          have HDj := Aside0.mk hdj
          have HO := Aside0.mk ho
          have HOf := Aside0.mk hof
          have HB := Aside0.mk hb
          clear hP hQ hdj ho hof hb
          by_cases hlt : i < 12
          · have hd : decide ((i : Int) < 12) = true := decide_eq_true (by omega)
            obtain ⟨hcd0, hcd1⟩ := block_code l0 (min i (l0.length / 512))
            have hXl := block_len l0 (min i (l0.length / 512))
            have hmore := block_more l0 i
            have hTl : (l0.take (512 * min i (l0.length / 512))).length ≤ 4000 := by rw [List.length_take]; omega
            have HNp := Lib.hid (asked_next HP.out (by omega) (by omega))
            unfold NextSays at HNp
            have HNq := Lib.hid (fun (w' : World) (F' : Nat → Prop) (h : Asked w' Bq F' gq l0 l2 i) => asked_next h (by omega) (by omega))
            unfold NextSays at HNq
            have HMo2 := Lib.hid (st_most l1 l0.length m.toNat HMo.out (i + 1))
            have HIdx : min (i + 1) (l0.length / 512) ≤ 12 := by omega
            generalize (blockOf l0 (min i (l0.length / 512))).1 = X at HNp HNq hmore hXl
            generalize (blockOf l0 (min i (l0.length / 512))).2 = code at HNp HNq hcd0 hcd1
            generalize l0.take (512 * min i (l0.length / 512)) = T at HO HOf hmore hTl ⊢
            have HMore := Aside0.mk hmore
            clear hmore
            go_wp2_with fail
            refine HNp.out.mono ?_
            rintro e w5 ⟨Fp5, v5, rfl, hP5, hM5, hb5, ho5, hof5⟩
            have HQ5 := Aside0.mk (HQ.out.moved hM5 fun q hq hp => HDj.out q hp hq)
            have HO5 := Aside0.mk (own_moved HO.out hM5 fun q hq => (HOf.out q hq).1)
            have HDj5 := Aside0.mk (show ∀ q, Fp5 q → ¬ Fq q from fun q hq hq' => by
              rcases hM5.2.2 q hq with h | h
              · exact HDj.out q h hq'
              · have := HQ.out.lt q hq'; omega)
            have HOf5 := Aside0.mk (show ∀ q, (Value.slice A11 T.length c11).ownBlock = some q → ¬ Fp5 q ∧ ¬ Fq q from fun q hq => ⟨not_moved hM5 (own_lt HO.out q hq) (HOf.out q hq).1, (HOf.out q hq).2⟩)
            have HVf5 := Aside0.mk (show ∀ q, v5.ownBlock = some q → ¬ Fp5 q ∧ ¬ Fq q from fun q hq => ⟨hof5 q hq, fun h => by have := own_base ho5 q hq; have := HQ.out.lt q h; omega⟩)
            have HP5 := Aside0.mk hP5
            have HB5 := Aside0.mk (HB.out.trans (Below.mono hb5 HLP.out))
            have HV5 := Aside0.mk ho5
            clear hP5 hM5 hb5 ho5 hof5 HNp HP HQ HDj HO HOf HB
            obtain ⟨A5, d5, rfl⟩ := own_slice HV5.out
            go_wp2_with fail
            refine (HNq.out w5 Fq HQ5.out).mono ?_
            rintro e w6 ⟨Fq6, v6, rfl, hQ6, hM6, hb6, ho6, hof6⟩
            have HP6 := Aside0.mk (HP5.out.moved hM6 HDj5.out)
            have HO6 := Aside0.mk (own_moved HO5.out hM6 fun q hq => (HOf5.out q hq).2)
            have HV6 := Aside0.mk (own_moved HV5.out hM6 fun q hq => (HVf5.out q hq).2)
            have HDj6 := Aside0.mk (show ∀ q, Fp5 q → ¬ Fq6 q from fun q hq => not_moved hM6 (HP5.out.lt q hq) (HDj5.out q hq))
            have HOf6 := Aside0.mk (show ∀ q, (Value.slice A11 T.length c11).ownBlock = some q → ¬ Fp5 q ∧ ¬ Fq6 q from fun q hq => ⟨(HOf5.out q hq).1, not_moved hM6 (own_lt HO5.out q hq) (HOf5.out q hq).2⟩)
            have HQ6 := Aside0.mk hQ6
            have HB6 := Aside0.mk (HB5.out.trans (Below.mono hb6 HLQ.out))
            have HW6 := Aside0.mk ho6
            clear hQ6 hM6 hb6 ho6 hof6 HNq HP5 HQ5 HDj5 HO5 HOf5 HB5 HV5 HVf5
            obtain ⟨A6, d6, rfl, hd6, hC6, _, _⟩ := own_C HW6.out rfl
            obtain ⟨A5', d5', e5, hd5, hC5, _, _⟩ := own_C HV6.out rfl
            injection e5 with e5 _ e5'
            subst e5 e5'
            have HC6 := Aside0.mk hC6
            have HC5 := Aside0.mk hC5
            clear hC6 hC5 HV6 HW6
            go_wp2_with fail
            refine (oakumref01_Same.calls A5 d5 X A6 d6 X true w6 HC5.out hd5 HC6.out hd6 (same_t X)).mono ?_
            rintro e w7 ⟨rfl, hdr⟩
            have hbl := hdr.below
            have HP7 := Aside0.mk (HP6.out.below hbl)
            have HQ7 := Aside0.mk (HQ6.out.below hbl)
            have HO7 := Aside0.mk (pw_own_below HO6.out hbl)
            have HC7 := Aside0.mk (Kd.C_below HC5.out hbl)
            have HB7 := Aside0.mk (below_step HB6.out hbl)
            clear hdr hbl HP6 HQ6 HO6 HC5 HC6 HB6
            go_wp2_with fail
            refine (asked_index HP7.out rfl).mono ?_
            rintro e w' ⟨rfl, rfl⟩
            go_wp2_with fail
            refine (asked_index HQ7.out rfl).mono ?_
            rintro e w' ⟨rfl, rfl⟩
            go_wp2_with fail
            have HH := asked_held HP7.out
            have hok := (st_ok l1 l0.length (i + 1)).2.1
            have hmost := HMo2.out
            obtain ⟨hh, hhe, hh0, hh1⟩ : ∃ hh : Int, ((st l1 l0.length (i + 1)).1 : Int) - ((st l1 l0.length (i + 1)).2.1 : Int) = hh ∧ 0 ≤ hh ∧ hh - 512 < m := ⟨_, rfl, by omega, by omega⟩
            rw [hhe] at HH
            have HHH := Aside0.mk HH
            clear HH hok hmost hhe HMo2
            refine HHH.out.mono ?_
            rintro e w' ⟨rfl, rfl⟩
            have HRd := Aside0.mk (Kd.reads_of_C (enc := Value.int .u8) (d := (0 : Int)) (h1 := fun _ => rfl) HC7.out)
            have HFin := Aside0.mk (fun (v8 : Value) (w8 : World) (h1 : w8.ownsRow w.heap.size 5 1 v8 (T ++ X).length (nums .u8 (T ++ X))) (hb : Below w.heap.size w w8) (hgr : w7.grownBy w8 (Value.slice A11 T.length c11).ownBlock) (hat : v8.ownBlock = (Value.slice A11 T.length c11).ownBlock ∨ ∃ b, v8.ownBlock = some b ∧ w7.heap.size ≤ b) => (by
              have hne : ∀ q, Fp5 q ∨ Fq6 q → some q ≠ (Value.slice A11 T.length c11).ownBlock := fun q hq e => by
                rcases hq with h | h
                · exact (HOf6.out q e.symm).1 h
                · exact (HOf6.out q e.symm).2 h
              refine ⟨i + 1, Fp5, Fq6, by omega, rfl, HP7.out.move hgr.size fun q hq => hgr.block q (HP7.out.lt q hq) (hne q (.inl hq)), HQ7.out.move hgr.size fun q hq => hgr.block q (HQ7.out.lt q hq) (hne q (.inr hq)), HDj6.out, by rw [← HMore.out]; exact h1, fun q hq => ?_, hb⟩
              rcases hat with hat | ⟨b, hat, hb⟩
              · rw [hat] at hq
                exact HOf6.out q hq
              · rw [hat] at hq
                injection hq with hq
                exact ⟨fun h => by have := HP7.out.lt q h; omega, fun h => by have := HQ7.out.lt q h; omega⟩ : AlikeRel w Bp Bq gp gq l0 l1 l2 (gk - 1) v8 (.int .i64 ((i + 1 : Nat) : Int)) w8))
            by_cases hge : 512 ≤ hh
            · go_wp2_with fail
              refine HHH.out.mono ?_
              rintro e w' ⟨rfl, rfl⟩
              go_wp2_with (at_builtin; refine print_append_row (w0 := w) (W := w7) w.heap.size rfl (.tmp 90) (.tmp 91) 22 5 .u8 1 rfl Try.underlying22 byteInfo (by decide) (.slice A11 T.length c11) T X A5 X.length d5 rfl rfl HO7.out HRd.out HB7.out HB7.out.size (by omega) (fun v8 w8 h1 hb hgr hat => ?_); have HRel := Aside0.mk (HFin.out v8 w8 h1 hb hgr hat); clear h1 hb hgr hat)
              go_roundg (gk - 1)
              case rel => exact HRel.out
              case measure => omega
            · go_wp2_with (at_builtin; refine print_append_row (w0 := w) (W := w7) w.heap.size rfl (.tmp 90) (.tmp 91) 22 5 .u8 1 rfl Try.underlying22 byteInfo (by decide) (.slice A11 T.length c11) T X A5 X.length d5 rfl rfl HO7.out HRd.out HB7.out HB7.out.size (by omega) (fun v8 w8 h1 hb hgr hat => ?_); have HRel := Aside0.mk (HFin.out v8 w8 h1 hb hgr hat); clear h1 hb hgr hat)
              go_roundg (gk - 1)
              case rel => exact HRel.out
              case measure => omega
          · have hd : decide ((i : Int) < 12) = false := decide_eq_false (by omega)
            obtain rfl : i = 12 := by omega
            have hTl : 512 * (l0.length / 512) = (l0.take (512 * min 12 (l0.length / 512))).length := by rw [List.length_take]; omega
            have hT0 : l0.take (512 * min 12 (l0.length / 512)) = l0.take (512 * (l0.length / 512)) := by congr 1; omega
            have hct : Kd.C (Kd.int .u8) wr A0 (l0.take (512 * (l0.length / 512))).length (l0.take (512 * (l0.length / 512))) := Kd.C_take (Kd.C_below HR0.out HB.out) (by omega)
            rw [← hT0] at hct
            clear hT0
            generalize l0.take (512 * min 12 (l0.length / 512)) = T at HO hTl hct ⊢
            obtain ⟨A11', c11', e11, hd11, hC11, _, _⟩ := own_C HO.out rfl
            injection e11 with e11 _ e11'
            subst e11 e11'
            have hsame : ∀ n2, n2 = T.length → Calls Try.prog 13 #[.slice A11 T.length c11, .slice A0 n2 c0] wr fun e w' => e = .returned (.bool true) ∧ Drawn0 wr w' := by
              rintro _ rfl
              exact oakumref01_Same.calls A11 c11 T A0 c0 T true wr hC11 hd11 hct (by omega) (same_t T)
            have HSame := Aside0.mk (hsame _ hTl)
            clear hsame hTl hct hC11 hd11
            go_wp2_with fail
            refine HSame.out.mono ?_
            rintro e w7 ⟨rfl, hdr⟩
            have HB7 := Aside0.mk (below_step HB.out hdr.below)
            clear hdr
            go_wp2_with fail
            go_ret
            exact ⟨rfl, HB7.out⟩
end Go.Proofs.Ytepcdngdllciiaa.Hand
