/- SinkTakes: its walk. -/
import Derived.Test.YtddchfjdekfekaaFew
import Derived.Test.YtddchfjdekfekaaPSinkWritesx1
set_option linter.unusedVariables false
set_option linter.unusedSimpArgs false
namespace Go.Proofs.Ytddchfjdekfekaa.Hand
open Go.RowKit Go.Proofs.YtddchfjdekfekaaW.PrintWords Go.Proofs.YtddchfjdekfekaaW.PrintLast Go.Proofs.YtddchfjdekfekaaW.PrintMore Go.Proofs.YtddchfjdekfekaaW.HKit Go.Proofs.YtddchfjdekfekaaW.Mv Go.Proofs.YtddchfjdekfekaaW.Rws Go.Proofs.Ytddchfjdekfekaa.PSinkWrites
/-- Two rows that hold the same. -/
theorem same_t (xs : List Int) : oakumref01_Same.f xs xs = some true := by unfold oakumref01_Same.f; simp
theorem cat_succ (xss : List (List Int)) (i : Nat) (h : i < xss.length) : (xss.take (i + 1)).flatten = (xss.take i).flatten ++ xss[i] := by
  rw [List.take_succ_eq_append_getElem h, List.flatten_append]
  simp
theorem cat_len (xss : List (List Int)) : xss.flatten.length = total xss := by simp [total, List.length_flatten]
theorem total_le (xss : List (List Int)) (i : Nat) : total (xss.take i) ≤ total xss := by
  have h : total (xss.take i ++ xss.drop i) = total (xss.take i) + total (xss.drop i) := total_append _ _
  rw [List.take_append_drop] at h
  omega
theorem takenOf_mono (room : Int) (all ys : List Int) : (takenOf room all).length ≤ (takenOf room (all ++ ys)).length ∧ (takenOf room (all ++ ys)).length ≤ (takenOf room all).length + ys.length := by
  by_cases h : 0 ≤ room
  · rw [takenOf_append room all ys h, List.length_append, List.length_take]; omega
  · rw [takenOf_free (by omega), takenOf_free (by omega), List.length_append]; omega
def TakesRel (w : World) (B g : Nat) (room : Int) (xss : List (List Int)) (n : Nat) (v6 v7 : Value) (wr : World) : Prop :=
  ∃ (i : Nat) (F : Nat → Prop), v7 = .int .i64 (i : Int) ∧ i + n = xss.length ∧ wr.ownsRow w.heap.size 5 1 v6 (xss.take i).flatten.length (nums .u8 (xss.take i).flatten) ∧ (∀ q, v6.ownBlock = some q → ¬ F q) ∧ SinkIs wr B F g room (xss.take i).flatten ∧ Below w.heap.size w wr
set_option maxHeartbeats 1000000 in
set_option maxRecDepth 100000 in
theorem sinkTakes_calls (w : World) (a0 : Int) (w0 : (Lit.int .i64 a0).wf = true) (A1 : Option Addr) (c1 : Nat) (l1 : List (List Int)) (hr1 : RowsAt .u8 w A1 c1 l1) :
    Calls Try.prog 3 #[.int .i64 a0, .slice A1 l1.length c1] w fun e w' => e = .returned (.bool true) ∧ Below w.heap.size w w' := by
  obtain ⟨hro0, hro1⟩ := wf_i64_bd w0
  have HR := Aside0.mk hr1
  clear hr1 w0
  by_cases hf : l1.length ≤ 30 ∧ total l1 ≤ 5000
  · have hfew : fewB l1 = true := by unfold fewB; simp [hf.1, hf.2]
    have HFew := Aside0.mk hfew
    obtain ⟨hl30, ht5⟩ := hf
    clear hfew
    go_enter Try.func3, Try.ntmps3
    go_wp2_with fail
    refine (alive_calls w).mono ?_
    rintro e w1 ⟨rfl, hb1⟩
    have HB := Aside0.mk hb1
    clear hb1
    go_wp2_with fail
    refine (few_calls A1 c1 l1 w1 (HR.out.below HB.out)).mono ?_
    rw [HFew.out]
    rintro e w' ⟨rfl, rfl⟩
    go_wp2_with fail
    refine (sink_new a0 w1).mono ?_
    rintro e w2 ⟨g, rfl, hS, hb2⟩
    have HB2 := Aside0.mk (below_step HB.out hb2)
    have HS := Aside0.mk hS
    have HLE := Aside0.mk HB.out.size
    generalize w1.heap.size = BB at HS HLE
    clear hS hb2 HB HFew
    go_wp2_with fail
    go_loopg [6, 7] l1.length (fun n v6 v7 wr => TakesRel w BB g a0 l1 n v6 v7 wr)
    case atStart => exact ⟨0, _, rfl, by omega, by simpa [nums] using own_nil w2 w.heap.size 5 1, fun q hq => by simp [Value.ownBlock] at hq, by simpa using HS.out, HB2.out⟩
    case round =>
      clear HS HB2
      obtain ⟨i, F, rfl, hi, ho, hof, hS, hb⟩ := hrel
      have hTl : (l1.take i).flatten.length ≤ 5000 := by rw [cat_len]; exact Nat.le_trans (total_le l1 i) ht5
      have HO := Aside0.mk ho
      have HOf := Aside0.mk hof
      have HS := Aside0.mk hS
      have HB := Aside0.mk hb
      clear ho hof hS hb
      by_cases h : i < l1.length
      · have hd : decide ((i : Int) < (l1.length : Int)) = true := decide_eq_true (by omega)
        have hd' : decide (i < l1.length) = true := decide_eq_true h
        have hil : (i : Int) < (l1.length : Int) := by omega
        have hT2 : (l1.take (i + 1)).flatten.length ≤ 5000 := by rw [cat_len]; exact Nat.le_trans (total_le l1 _) ht5
        obtain ⟨a, Ar, Cr, rfl, hcell0, hrl, _, hC0, _, hrc⟩ := HR.out.at_ i h
        have HRow := Aside0.mk (fun (W : World) (hb : Below w.heap.size w W) => And.intro (pw_cell_below hb hcell0) (Kd.C_below hC0 hb))
        have hcell := (HRow.out wr HB.out).1
        have hC := (HRow.out wr HB.out).2
        clear hcell0 hC0
        have HCat := Aside0.mk (cat_succ l1 i h)
        rw [HCat.out] at hT2
        generalize (l1.take i).flatten = T at HO HS hTl hT2 HCat
        generalize l1[i] = X at hcell hrl hC hT2 HCat HRow
        rw [List.length_append] at hT2
        have hm := takenOf_mono a0 T X
        have hl := (takenOf_len a0 T).1
        obtain ⟨A6, c6, rfl, hc6, hC6, _, _, _⟩ := own_C HO.out rfl
        have HC := Aside0.mk hC
        have HC6 := Aside0.mk hC6
        have hcl := hcell
        clear hC hC6
        go_wp2_with fail
        refine (taken_calls A6 c6 T a0 wr HC6.out hc6 ⟨hro0, hro1⟩).mono ?_
        rintro e w' ⟨rfl, rfl⟩
        obtain ⟨U, hU⟩ : ∃ U, U = T ++ X := ⟨_, rfl⟩
        have HU := Aside0.mk hU
        rw [← hU] at hm
        have hTX := hT2
        rw [← List.length_append, ← hU] at hT2
        clear hU
        have HRd := Aside0.mk (Kd.reads_of_C (enc := Value.int .u8) (d := (0 : Int)) (h1 := fun _ => rfl) HC.out)
        go_wp2_with (at_builtin; refine print_append_row (w0 := w) (W := wr) w.heap.size rfl (.tmp 30) (.tmp 34) 27 5 .u8 1 rfl Try.underlying27 byteInfo (by decide) (.slice A6 T.length c6) T X Ar X.length Cr rfl rfl HO.out HRd.out HB.out HB.out.size (by omega) (fun v7 w3 h1 hb hgr hat => ?_); rw [← HU.out] at h1; obtain ⟨A7, c7, rfl, hc7, hC7, hq7, _, hst7⟩ := own_C h1 rfl; have HO7 := Aside0.mk h1; have HB7 := Aside0.mk hb; have HGr := Aside0.mk hgr; have HAt := Aside0.mk hat; have HC7 := Aside0.mk hC7; have HQ7 := Aside0.mk hq7; have HSt7 := Aside0.mk hst7; clear h1 hb hgr hat hcl hC7 hq7 hst7)
        with_reducible refine (taken_calls A7 c7 U a0 w3 HC7.out hc7 ⟨hro0, hro1⟩).mono ?_
        rintro e w' ⟨rfl, rfl⟩
        have HS7 := Aside0.mk (HS.out.moved (G := fun q => some q = (Value.slice A6 T.length c6).ownBlock) (G' := fun q => some q = (Value.slice A6 T.length c6).ownBlock ∨ w3.heap.size ≤ q) ⟨HGr.out.size, fun q hq hn => HGr.out.block q hq hn, fun q hq => by
          rcases hq with hq | hq
          · exact .inl hq
          · exact .inr (Nat.le_trans HGr.out.size hq)⟩ fun q hq e => HOf.out q e.symm hq)
        have HOf7 := Aside0.mk (show ∀ q, (Value.slice A7 U.length c7).ownBlock = some q → ¬ F q from fun q hq => by
          rcases HAt.out with hat | ⟨b, hat, hb⟩
          · exact HOf.out q (hat.symm.trans hq)
          · rw [hat] at hq
            injection hq with hq
            exact fun hf => by have := HS.out.lt q hf; omega)
        have hcell7 := (HRow.out w3 HB7.out).1
        have htk := take_is w3 BB F g a0 T X Ar Cr HS7.out (HRow.out w3 HB7.out).2 hrl (by omega) hro1
        unfold TakeSays at htk
        rw [← HU.out] at htk
        have hby := fun (W : World) (F' : Nat → Prop) (hS : SinkIs W BB F' g a0 U) => bytes_is W BB F' g a0 U hS (by omega)
        have htc := fun (W : World) (hC : Kd.C (Kd.int .u8) W A7 U.length U) => taken_C a0 hC
        have hql := (takenOf_len a0 U).1
        generalize takenOf a0 T = Pt at hm hl htk ⊢
        generalize takenOf a0 U = Qt at hm hql htk hby htc ⊢
        have HTk := Aside0.mk htk
        have HBy := Aside0.mk hby
        have HTc := Aside0.mk htc
        obtain ⟨hm0, hm1⟩ := hm
        have hQc : Qt.length ≤ c7 := by omega
        clear htk hby htc HC HC6 HO HOf HS HB HRd HGr HAt
        have hde : (((Qt.length : Int) - (Pt.length : Int)) == (X.length : Int)) = decide (Qt.length - Pt.length = X.length) := by
          rw [Bool.eq_iff_iff, beq_iff_eq, decide_eq_true_iff]; omega
        by_cases hw : Qt.length - Pt.length = X.length
        all_goals
          first | rw [decide_eq_true hw] at hde | rw [decide_eq_false hw] at hde
          go_wp2_with fail
          refine HTk.out.mono ?_
          first | rw [if_pos hw] | rw [if_neg hw]
          rintro e w4 ⟨F4, rfl, hS4, hM4, hb4⟩
          have HB4 := Aside0.mk (HB7.out.trans (Below.mono hb4 HLE.out))
          have hcell4 := (HRow.out w4 HB4.out).1
          have HO4 := Aside0.mk (own_moved HO7.out hM4 HOf7.out)
          have HOf4 := Aside0.mk (show ∀ q, (Value.slice A7 U.length c7).ownBlock = some q → ¬ F4 q from fun q hq => not_moved hM4 (own_lt HO7.out q hq) (HOf7.out q hq))
          have HK4 := Aside0.mk (show ∀ q, (Value.slice A7 U.length c7).ownBlock = some q → w4.heap[q]? = w3.heap[q]? from fun q hq => hM4.2.1 q (own_lt HO7.out q hq) (HOf7.out q hq))
          have HS4 := Aside0.mk hS4
          clear hS4 hM4 hb4 HTk HS7
          go_wp2_with fail
          refine (HBy.out w4 F4 HS4.out).mono ?_
          rintro e w5 ⟨v9, rfl, ho9, hb9⟩
          have HB5 := Aside0.mk (below_step HB4.out hb9)
          have HO5 := Aside0.mk (pw_own_below HO4.out hb9)
          have HS5 := Aside0.mk (HS4.out.below hb9)
          have HQ5 := Aside0.mk (HTc.out w5 (HSt7.out w5 fun q hq => (hb9.block q (own_lt HO4.out q hq)).trans (HK4.out q hq)))
          obtain ⟨A9, c9, rfl, hc9, hC9, _, _, _⟩ := own_C ho9 rfl
          have HC9 := Aside0.mk hC9
          clear ho9 hb9 hC9 HBy HS4 HO4 HB4 HK4
          go_wp2_with fail
          refine (oakumref01_Same.calls A9 c9 Qt A7 c7 Qt true w5 HC9.out hc9 HQ5.out hQc (same_t Qt)).mono ?_
          rintro e w6 ⟨rfl, hdr⟩
          have HRel := Aside0.mk (show TakesRel w BB g a0 l1 (gk - 1) (.slice A7 U.length c7) (.int .i64 ((i + 1 : Nat) : Int)) w6 from ⟨i + 1, F4, rfl, by omega, by rw [HCat.out, ← HU.out]; exact pw_own_below HO5.out hdr.below, HOf4.out, by rw [HCat.out, ← HU.out]; exact HS5.out.below hdr.below, below_step HB5.out hdr.below⟩)
          clear hdr
          go_wp2_with fail
          go_roundg (gk - 1)
          case rel => exact HRel.out
          case measure => omega
      · have hd : decide ((i : Int) < (l1.length : Int)) = false := decide_eq_false (by omega)
        have hd' : decide (i < l1.length) = false := decide_eq_false h
        go_wp2_with fail
        go_ret
        exact ⟨rfl, HB.out⟩
  · have hfew : fewB l1 = false := by
      unfold fewB
      by_cases h1 : l1.length ≤ 30
      · have h2 : ¬ total l1 ≤ 5000 := fun h => hf ⟨h1, h⟩
        simp [h2]
      · simp [h1]
    have HFew := Aside0.mk hfew
    clear hfew hf
    go_enter Try.func3, Try.ntmps3
    go_wp2_with fail
    refine (alive_calls w).mono ?_
    rintro e w1 ⟨rfl, hb1⟩
    have HB := Aside0.mk hb1
    clear hb1
    go_wp2_with fail
    refine (few_calls A1 c1 l1 w1 (HR.out.below HB.out)).mono ?_
    rw [HFew.out]
    rintro e w' ⟨rfl, rfl⟩
    go_wp2_with fail
    go_ret
    exact ⟨rfl, HB.out⟩
end Go.Proofs.Ytddchfjdekfekaa.Hand
