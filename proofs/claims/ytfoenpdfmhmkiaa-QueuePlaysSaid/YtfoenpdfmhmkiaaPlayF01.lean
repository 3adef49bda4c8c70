/- An act on two queues, of one kind, on one of them: what is told is what the document tells. Conditions stand with it. -/
import Derived.Test.YtfoenpdfmhmkiaaPlayE
set_option linter.unusedVariables false
set_option linter.unusedSimpArgs false
namespace Go.Proofs.YtfoenpdfmhmkiaaPlay
open Go.RowKit Go.Proofs.YtfoenpdfmhmkiaaW.PrintWords Go.Proofs.YtfoenpdfmhmkiaaW.PrintLast Go.Proofs.YtfoenpdfmhmkiaaW.PrintMore Go.Proofs.YtfoenpdfmhmkiaaW.HKit Go.Proofs.YtfoenpdfmhmkiaaW.Mv Go.Proofs.YtfoenpdfmhmkiaaW.But Go.Proofs.Ytfoenpdfmhmkiaa.PQueuePlays
open Go.Proofs.YtfoenpdfmhmkiaaLone (mv)
set_option maxHeartbeats 8000000 in
set_option maxRecDepth 100000 in
theorem act_01 (w : World) (o0 o1 : Option (Nat × Nat)) (m0 m1 : Nat) (l0 l1 : List Int) (v0 v1 : Value) (K X : Int) (ha : Apart o0 o1) (q0 : QAt w o0 m0 l0) (q1 : QAt w o1 m1 l1) (r0 : RV w v0 l0) (r1 : RV w v1 l1) (hK : 0 ≤ K ∧ K ≤ 255) (hk : K % 5 = 0) :
    Calls Try.prog 13 #[.agg #[qv o0, qv o1], .agg #[v0, .int .i64 (m0 : Int), v1, .int .i64 (m1 : Int)], .agg #[.int .u8 K, .int .i64 X, .bool true]] w (APost w o0 o1 m0 m1) := by
  have hlm0 := q0.most
  have hlm1 := q1.most
  have hkm : K.tmod 5 = 0 := by rw [Int.tmod_eq_emod_of_nonneg hK.1]; exact hk
  obtain ⟨W4, hW4⟩ : ∃ W4, W4 = (((w.alloc (.cells #[qv o0, qv o1] 34)).alloc (.cells #[v0, .int .i64 (m0 : Int), v1, .int .i64 (m1 : Int)] 38)).alloc (.cells #[.int .u8 K, .int .i64 X, .bool true] 43)).alloc (.cells #[.slice none 0 0, .int .i64 0, .slice none 0 0, .int .i64 0] 38) := ⟨_, rfl⟩
  have HST : Hid (AS w W4 o0 o1 m0 m1 l0 l1 l0 l1 w.heap.size (qv o0) (qv o1) v0 v1 (.int .u8 K) (.int .i64 X) (.bool true) (.slice none 0 0) (.int .i64 0) (.slice none 0 0) (.int .i64 0)) := Lib.hid (AS.start w q0 q1 r0 r1 ha hW4)
  obtain ⟨A0, c0, rfl, _⟩ := r0
  obtain ⟨A1, c1, rfl, _⟩ := r1
  have HQ0 := Lib.hid hlm0
  have HQ1 := Lib.hid hlm1
  clear q0 q1 ha hK hk hlm0 hlm1
  obtain ⟨p0, hp0⟩ : ∃ p, p = qv o0 := ⟨_, rfl⟩
  obtain ⟨p1, hp1⟩ : ∃ p, p = qv o1 := ⟨_, rfl⟩
  rw [← hp0, ← hp1] at HST hW4
  rw [← hp0, ← hp1]
  have hrp := fun (W : World) (hW : RV W (.slice A1 l1.length c1) l1) => rpush (.slice A1 l1.length c1) m1 l1 X W hW (by have := HQ1.out; omega)
  have hqp := fun (W : World) (hW : QAt W o1 m1 l1) => push_q o1 m1 l1 X W hW
  rw [← hp1] at hqp
  obtain ⟨k', hk'⟩ : ∃ k, k = pushL m1 l1 X := ⟨_, rfl⟩
  obtain ⟨bb, hbb⟩ : ∃ b, b = decide (l1.length < m1) := ⟨_, rfl⟩
  rw [← hk', ← hbb] at hrp hqp
  have HRP := Lib.hid hrp
  have HQP := Lib.hid hqp
  clear hrp hqp hk' hbb
  clear hp0 hp1
  go_enter Try.func13, Try.ntmps13
  go_upto_region 1 with (fail)
  rw [← hW4]
  clear hW4
  obtain ⟨B, hB⟩ : ∃ B, B = w.heap.size := ⟨_, rfl⟩
  rw [← hB] at HST ⊢
  clear hB
  obtain ⟨s0, s1, s2⟩ := three_cells HST.out.b2
  go_upto_region 6 with (fail)
  have HLT := Lib.hid HST.out.lt
  have HST1 := Lib.hid HST.out.drew
  have HSTB := Lib.hid (HST.out.alloc (.cells #[.slice none 0 0, .int .i64 0] 37)).drew
  have HNB := Lib.hid (show (W4.alloc (.cells #[.slice none 0 0, .int .i64 0] 37)).drew.heap[W4.heap.size]? = some (.cells #[.slice none 0 0, .int .i64 0] 37 (0, 0)) from heap_alloc_new W4 _)
  clear s0 s1 s2
  go_region_held3 (fun W => W.cell? ⟨B + 1, 2, none⟩ = some (.slice A1 l1.length c1) ∧ W.cell? ⟨B + 1, 3, none⟩ = some (.int .i64 (m1 : Int)) ∧ W.cell? ⟨B + 1 + 1, 1, none⟩ = some (.int .i64 X)) (first | with_reducible exact ⟨(four_cells HST1.out.b1).2.2.1, (four_cells HST1.out.b1).2.2.2, (three_cells HST1.out.b2).2.1⟩ | with_reducible exact ⟨(four_cells HST5.out.b1).2.2.1, (four_cells HST5.out.b1).2.2.2, (three_cells HST5.out.b2).2.1⟩ | with_reducible exact ⟨(four_cells (HST5.out.alloc (.cells #[.slice none 0 0, .int .i64 0] 37)).b1).2.2.1, (four_cells (HST5.out.alloc (.cells #[.slice none 0 0, .int .i64 0] 37)).b1).2.2.2, (three_cells (HST5.out.alloc (.cells #[.slice none 0 0, .int .i64 0] 37)).b2).2.1⟩ | with_reducible exact ⟨(four_cells (HST5.out.alloc (.cells #[.slice A5 k'.length c5, .int .i64 (m1 : Int)] 37)).b1).2.2.1, (four_cells (HST5.out.alloc (.cells #[.slice A5 k'.length c5, .int .i64 (m1 : Int)] 37)).b1).2.2.2, (three_cells (HST5.out.alloc (.cells #[.slice A5 k'.length c5, .int .i64 (m1 : Int)] 37)).b2).2.1⟩ | with_reducible exact ⟨(four_cells HSTB.out.b1).2.2.1, (four_cells HSTB.out.b1).2.2.2, (three_cells HSTB.out.b2).2.1⟩ | with_reducible exact ⟨(four_cells (HST5.out.box (two_but w5 W4.heap.size 0 1 (.slice A5 k'.length c5) (.int .i64 (m1 : Int))) HNEW.out (by decide) (by decide) HLT.out).b1).2.2.1, (four_cells (HST5.out.box (two_but w5 W4.heap.size 0 1 (.slice A5 k'.length c5) (.int .i64 (m1 : Int))) HNEW.out (by decide) (by decide) HLT.out).b1).2.2.2, (three_cells (HST5.out.box (two_but w5 W4.heap.size 0 1 (.slice A5 k'.length c5) (.int .i64 (m1 : Int))) HNEW.out (by decide) (by decide) HLT.out).b2).2.1⟩ | fail) (first | (go_at_call 25; (with_reducible refine (HRP.out _ HST1.out.r1).mono ?_); rintro e w5 ⟨v', rfl, hr5, hb5⟩; (have HST5 := Lib.hid (HST1.out.below hb5)); (have HRV5 := Lib.hid hr5); (obtain ⟨A5, c5, rfl, _⟩ := hr5); (have hnew := heap_alloc_new w5 (.cells #[.slice none 0 0, .int .i64 0] 37)); (have n0 := blk_cell hnew 0); (have n1 := blk_cell hnew 1); (have f0 := blk_frozen hnew 0); (have f1 := blk_frozen hnew 1); (simp only [List.getElem?_toArray, List.getElem?_cons_zero, List.getElem?_cons_succ] at n0 n1); (have HNEW := Lib.hid hnew); (clear hnew hb5)) | (go_at_call 25; (with_reducible refine (HRP.out _ HSTB.out.r1).mono ?_); rintro e w5 ⟨v', rfl, hr5, hb5⟩; (have HST5 := Lib.hid (HSTB.out.below hb5)); (have HRV5 := Lib.hid hr5); (obtain ⟨A5, c5, rfl, _⟩ := hr5); (have hnew := (But.of_below (fun _ => False) hb5).heap HNB.out id); (have n0 := blk_cell hnew 0); (have n1 := blk_cell hnew 1); (have f0 := blk_frozen hnew 0); (have f1 := blk_frozen hnew 1); (simp only [List.getElem?_toArray, List.getElem?_cons_zero, List.getElem?_cons_succ] at n0 n1); (have HNEW := Lib.hid hnew); (clear hnew hb5)))
  · have HST6 := Lib.hid (HST5.out.alloc (.cells #[.slice A5 k'.length c5, .int .i64 (m1 : Int)] 37))
    have HG9 := Lib.hid (show (w5.alloc (.cells #[.slice A5 k'.length c5, .int .i64 (m1 : Int)] 37)).heap[w5.heap.size]? = some (.cells #[.slice A5 k'.length c5, .int .i64 (m1 : Int)] 37 (0, 0)) from heap_alloc_new w5 _)
    have HRV6 := Lib.hid (HRV5.out.below (below_alloc (Below.refl _ w5) (.cells #[.slice A5 k'.length c5, .int .i64 (m1 : Int)] 37)))
    clear n0 n1 f0 f1 HNEW HST5 HRV5 HST HST1 HSTB HNB HLT HRP
    generalize w5.alloc (.cells #[.slice A5 k'.length c5, .int .i64 (m1 : Int)] 37) = W6 at *
    generalize w5.heap.size = G9 at *
    obtain ⟨n0, n1⟩ := two_cells HG9.out
    obtain ⟨d0, d1, d2, d3⟩ := four_cells HST6.out.b1
    have f0 := blk_frozen HST6.out.b1 2
    have f1 := blk_frozen HST6.out.b1 3
    go_upto_region 8 with (fail)
    obtain ⟨W7, hW7⟩ : ∃ W7, W7 = (W6.setCell ⟨B + 1, 2, none⟩ (.slice A5 k'.length c5)).setCell ⟨B + 1, 3, none⟩ (.int .i64 (m1 : Int)) := ⟨_, rfl⟩
    have HST7 := Lib.hid (HST6.out.put1 HRV6.out)
    rw [← hW7] at HST7 ⊢
    clear hW7 n0 n1 d0 d1 d2 d3 f0 f1 HST6 HG9 HRV6
    have HST8 := Lib.hid HST7.out.drew
    clear HST7
    have hbb : (bb == bb) = true := beq_self_eq_true bb
    go_region_held3 (fun W => W.cell? ⟨B + 1, 0, none⟩ = some (.slice A0 l0.length c0) ∧ W.cell? ⟨B + 1, 1, none⟩ = some (.int .i64 (m0 : Int)) ∧ W.cell? ⟨B + 1, 2, none⟩ = some (.slice A5 k'.length c5) ∧ W.cell? ⟨B + 1, 3, none⟩ = some (.int .i64 (m1 : Int)) ∧ W.cell? ⟨B, 1, none⟩ = some p1 ∧ W.cell? ⟨B + 1 + 1, 1, none⟩ = some (.int .i64 X)) (first | with_reducible exact ⟨(four_cells HST8.out.b1).1, (four_cells HST8.out.b1).2.1, (four_cells HST8.out.b1).2.2.1, (four_cells HST8.out.b1).2.2.2, (two_cells HST8.out.b0).2, (three_cells HST8.out.b2).2.1⟩ | with_reducible exact ⟨(four_cells HST9.out.b1).1, (four_cells HST9.out.b1).2.1, (four_cells HST9.out.b1).2.2.1, (four_cells HST9.out.b1).2.2.2, (two_cells HST9.out.b0).2, (three_cells HST9.out.b2).2.1⟩ | with_reducible exact ⟨(four_cells (HST9.out.out (a := (.slice A0 l0.length c0)) (b := .int .i64 (m0 : Int)) (c := (.slice A5 k'.length c5)) (d := .int .i64 (m1 : Int))).b1).1, (four_cells (HST9.out.out (a := (.slice A0 l0.length c0)) (b := .int .i64 (m0 : Int)) (c := (.slice A5 k'.length c5)) (d := .int .i64 (m1 : Int))).b1).2.1, (four_cells (HST9.out.out (a := (.slice A0 l0.length c0)) (b := .int .i64 (m0 : Int)) (c := (.slice A5 k'.length c5)) (d := .int .i64 (m1 : Int))).b1).2.2.1, (four_cells (HST9.out.out (a := (.slice A0 l0.length c0)) (b := .int .i64 (m0 : Int)) (c := (.slice A5 k'.length c5)) (d := .int .i64 (m1 : Int))).b1).2.2.2, (two_cells (HST9.out.out (a := (.slice A0 l0.length c0)) (b := .int .i64 (m0 : Int)) (c := (.slice A5 k'.length c5)) (d := .int .i64 (m1 : Int))).b0).2, (three_cells (HST9.out.out (a := (.slice A0 l0.length c0)) (b := .int .i64 (m0 : Int)) (c := (.slice A5 k'.length c5)) (d := .int .i64 (m1 : Int))).b2).2.1⟩ | fail) (first | (go_at_call 17; (with_reducible refine (HQP.out _ HST8.out.q1).mono ?_); rintro e w9 ⟨rfl, hq9, hb9⟩; (have HST9 := Lib.hid (HST8.out.turn1 hb9 hq9)); (obtain ⟨z0, z1, z2, z3⟩ := four_cells HST9.out.b3); (have f0 := blk_frozen HST9.out.b3 0); (have f1 := blk_frozen HST9.out.b3 1); (have f2 := blk_frozen HST9.out.b3 2); (have f3 := blk_frozen HST9.out.b3 3); (clear hq9 hb9 HST8)))
    all_goals
      go_wp2_with fail
      refine bodyPost_ret (results_ct rfl _ _ (B + 1 + 1 + 1) 38 #[(.slice A0 l0.length c0), .int .i64 (m0 : Int), (.slice A5 k'.length c5), .int .i64 (m1 : Int)] (0, 0) _ rfl (HST9.out.out (a := (.slice A0 l0.length c0)) (b := .int .i64 (m0 : Int)) (c := (.slice A5 k'.length c5)) (d := .int .i64 (m1 : Int))).b3 Try.underlying38 rfl (by kernel_rfl)) rfl ?_
      exact ⟨_, _, _, _, rfl, HST9.out.out.q0, HST9.out.out.q1, HST9.out.out.r0, HST9.out.out.r1, HST9.out.out.old⟩
  · have HST6 := Lib.hid (HST5.out.box (two_but w5 W4.heap.size 0 1 (.slice A5 k'.length c5) (.int .i64 (m1 : Int))) HNEW.out (by decide) (by decide) HLT.out)
    have HG9 := Lib.hid (set2_blk (u0 := .slice A5 k'.length c5) (u1 := .int .i64 (m1 : Int)) HNEW.out)
    have HRV6 := Lib.hid (HRV5.out.far (two_but w5 W4.heap.size 0 1 (.slice A5 k'.length c5) (.int .i64 (m1 : Int))) HNEW.out (by decide))
    clear n0 n1 f0 f1 HNEW HST5 HRV5 HST HST1 HSTB HNB HLT HRP
    generalize (w5.setCell ⟨W4.heap.size, 0, none⟩ (.slice A5 k'.length c5)).setCell ⟨W4.heap.size, 1, none⟩ (.int .i64 (m1 : Int)) = W6 at *
    generalize W4.heap.size = G9 at *
    obtain ⟨n0, n1⟩ := two_cells HG9.out
    obtain ⟨d0, d1, d2, d3⟩ := four_cells HST6.out.b1
    have f0 := blk_frozen HST6.out.b1 2
    have f1 := blk_frozen HST6.out.b1 3
    go_upto_region 8 with (fail)
    obtain ⟨W7, hW7⟩ : ∃ W7, W7 = (W6.setCell ⟨B + 1, 2, none⟩ (.slice A5 k'.length c5)).setCell ⟨B + 1, 3, none⟩ (.int .i64 (m1 : Int)) := ⟨_, rfl⟩
    have HST7 := Lib.hid (HST6.out.put1 HRV6.out)
    rw [← hW7] at HST7 ⊢
    clear hW7 n0 n1 d0 d1 d2 d3 f0 f1 HST6 HG9 HRV6
    have HST8 := Lib.hid HST7.out.drew
    clear HST7
    have hbb : (bb == bb) = true := beq_self_eq_true bb
    go_region_held3 (fun W => W.cell? ⟨B + 1, 0, none⟩ = some (.slice A0 l0.length c0) ∧ W.cell? ⟨B + 1, 1, none⟩ = some (.int .i64 (m0 : Int)) ∧ W.cell? ⟨B + 1, 2, none⟩ = some (.slice A5 k'.length c5) ∧ W.cell? ⟨B + 1, 3, none⟩ = some (.int .i64 (m1 : Int)) ∧ W.cell? ⟨B, 1, none⟩ = some p1 ∧ W.cell? ⟨B + 1 + 1, 1, none⟩ = some (.int .i64 X)) (first | with_reducible exact ⟨(four_cells HST8.out.b1).1, (four_cells HST8.out.b1).2.1, (four_cells HST8.out.b1).2.2.1, (four_cells HST8.out.b1).2.2.2, (two_cells HST8.out.b0).2, (three_cells HST8.out.b2).2.1⟩ | with_reducible exact ⟨(four_cells HST9.out.b1).1, (four_cells HST9.out.b1).2.1, (four_cells HST9.out.b1).2.2.1, (four_cells HST9.out.b1).2.2.2, (two_cells HST9.out.b0).2, (three_cells HST9.out.b2).2.1⟩ | with_reducible exact ⟨(four_cells (HST9.out.out (a := (.slice A0 l0.length c0)) (b := .int .i64 (m0 : Int)) (c := (.slice A5 k'.length c5)) (d := .int .i64 (m1 : Int))).b1).1, (four_cells (HST9.out.out (a := (.slice A0 l0.length c0)) (b := .int .i64 (m0 : Int)) (c := (.slice A5 k'.length c5)) (d := .int .i64 (m1 : Int))).b1).2.1, (four_cells (HST9.out.out (a := (.slice A0 l0.length c0)) (b := .int .i64 (m0 : Int)) (c := (.slice A5 k'.length c5)) (d := .int .i64 (m1 : Int))).b1).2.2.1, (four_cells (HST9.out.out (a := (.slice A0 l0.length c0)) (b := .int .i64 (m0 : Int)) (c := (.slice A5 k'.length c5)) (d := .int .i64 (m1 : Int))).b1).2.2.2, (two_cells (HST9.out.out (a := (.slice A0 l0.length c0)) (b := .int .i64 (m0 : Int)) (c := (.slice A5 k'.length c5)) (d := .int .i64 (m1 : Int))).b0).2, (three_cells (HST9.out.out (a := (.slice A0 l0.length c0)) (b := .int .i64 (m0 : Int)) (c := (.slice A5 k'.length c5)) (d := .int .i64 (m1 : Int))).b2).2.1⟩ | fail) (first | (go_at_call 17; (with_reducible refine (HQP.out _ HST8.out.q1).mono ?_); rintro e w9 ⟨rfl, hq9, hb9⟩; (have HST9 := Lib.hid (HST8.out.turn1 hb9 hq9)); (obtain ⟨z0, z1, z2, z3⟩ := four_cells HST9.out.b3); (have f0 := blk_frozen HST9.out.b3 0); (have f1 := blk_frozen HST9.out.b3 1); (have f2 := blk_frozen HST9.out.b3 2); (have f3 := blk_frozen HST9.out.b3 3); (clear hq9 hb9 HST8)))
    all_goals
      go_wp2_with fail
      refine bodyPost_ret (results_ct rfl _ _ (B + 1 + 1 + 1) 38 #[(.slice A0 l0.length c0), .int .i64 (m0 : Int), (.slice A5 k'.length c5), .int .i64 (m1 : Int)] (0, 0) _ rfl (HST9.out.out (a := (.slice A0 l0.length c0)) (b := .int .i64 (m0 : Int)) (c := (.slice A5 k'.length c5)) (d := .int .i64 (m1 : Int))).b3 Try.underlying38 rfl (by kernel_rfl)) rfl ?_
      exact ⟨_, _, _, _, rfl, HST9.out.out.q0, HST9.out.out.q1, HST9.out.out.r0, HST9.out.out.r1, HST9.out.out.old⟩
end Go.Proofs.YtfoenpdfmhmkiaaPlay
