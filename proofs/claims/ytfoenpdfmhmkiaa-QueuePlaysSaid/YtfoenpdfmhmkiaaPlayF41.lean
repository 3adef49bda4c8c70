/- An act on two queues, of one kind, on one of them: what is told is what the document tells. Conditions stand with it. -/
import Derived.Test.YtfoenpdfmhmkiaaPlayE
set_option linter.unusedVariables false
set_option linter.unusedSimpArgs false
namespace Go.Proofs.YtfoenpdfmhmkiaaPlay
open Go.RowKit Go.Proofs.YtfoenpdfmhmkiaaW.PrintWords Go.Proofs.YtfoenpdfmhmkiaaW.PrintLast Go.Proofs.YtfoenpdfmhmkiaaW.PrintMore Go.Proofs.YtfoenpdfmhmkiaaW.HKit Go.Proofs.YtfoenpdfmhmkiaaW.Mv Go.Proofs.YtfoenpdfmhmkiaaW.But Go.Proofs.Ytfoenpdfmhmkiaa.PQueuePlays
open Go.Proofs.YtfoenpdfmhmkiaaLone (mv)
set_option maxHeartbeats 8000000 in
set_option maxRecDepth 100000 in
theorem act_41 (w : World) (o0 o1 : Option (Nat × Nat)) (m0 m1 : Nat) (l0 l1 : List Int) (v0 v1 : Value) (K X : Int) (ha : Apart o0 o1) (q0 : QAt w o0 m0 l0) (q1 : QAt w o1 m1 l1) (r0 : RV w v0 l0) (r1 : RV w v1 l1) (hK : 0 ≤ K ∧ K ≤ 255) (hk : K % 5 = 4) :
    Calls Try.prog 13 #[.agg #[qv o0, qv o1], .agg #[v0, .int .i64 (m0 : Int), v1, .int .i64 (m1 : Int)], .agg #[.int .u8 K, .int .i64 X, .bool true]] w (APost w o0 o1 m0 m1) := by
  have hlm0 := q0.most
  have hlm1 := q1.most
  have hkm : K.tmod 5 = 4 := by rw [Int.tmod_eq_emod_of_nonneg hK.1]; exact hk
  obtain ⟨W4, hW4⟩ : ∃ W4, W4 = (((w.alloc (.cells #[qv o0, qv o1] 34)).alloc (.cells #[v0, .int .i64 (m0 : Int), v1, .int .i64 (m1 : Int)] 38)).alloc (.cells #[.int .u8 K, .int .i64 X, .bool true] 43)).alloc (.cells #[.slice none 0 0, .int .i64 0, .slice none 0 0, .int .i64 0] 38) := ⟨_, rfl⟩
  have HST : Hid (AS w W4 o0 o1 m0 m1 l0 l1 l0 l1 w.heap.size (qv o0) (qv o1) v0 v1 (.int .u8 K) (.int .i64 X) (.bool true) (.slice none 0 0) (.int .i64 0) (.slice none 0 0) (.int .i64 0)) := Lib.hid (AS.start w q0 q1 r0 r1 ha hW4)
  obtain ⟨A0, c0, rfl, _⟩ := r0
  obtain ⟨A1, c1, rfl, _⟩ := r1
  have HQ0 := Lib.hid hlm0
  have HQ1 := Lib.hid hlm1
  clear q0 q1 ha hK hk hlm0 hlm1
  obtain ⟨p0, hp0⟩ : ∃ p, p = qv o0 := ⟨_, rfl⟩
  obtain ⟨p1, hp1⟩ : ∃ p, p = qv o1 := ⟨_, rfl⟩
  rw [← hp0, ← hp1] at HST hW4
  rw [← hp0, ← hp1]
  have hqa := fun (W : World) (hW : QAt W o1 m1 l1) => all_q o1 m1 l1 W hW
  rw [← hp1] at hqa
  have HQA := Lib.hid hqa
  have HSM := Lib.hid (fun (W : World) (v0 v1 : Value) (h0 : RV W v0 l1) (h1 : RV W v1 l1) => rsame v0 v1 l1 W h0 h1 (by have := HQ1.out; omega))
  clear hqa
  clear hp0 hp1
  go_enter Try.func13, Try.ntmps13
  go_upto_region 1 with (fail)
  rw [← hW4]
  clear hW4
  obtain ⟨B, hB⟩ : ∃ B, B = w.heap.size := ⟨_, rfl⟩
  rw [← hB] at HST ⊢
  clear hB
  obtain ⟨s0, s1, s2⟩ := three_cells HST.out.b2
  go_upto_region 30 with (fail)
  obtain ⟨d0, d1, d2, d3⟩ := four_cells HST.out.b1
  have f0 := blk_frozen HST.out.b1 2
  have f1 := blk_frozen HST.out.b1 3
  go_upto_region 32 with (fail)
  obtain ⟨W7, hW7⟩ : ∃ W7, W7 = (W4.setCell ⟨B + 1, 2, none⟩ (.slice none 0 0)).setCell ⟨B + 1, 3, none⟩ (.int .i64 (m1 : Int)) := ⟨_, rfl⟩
  have HST7 := Lib.hid (HST.out.put1 (RV.nil _))
  have HOLD7 := Lib.hid (HST.out.r1.far (two_but W4 (B + 1) 2 3 (.slice none 0 0) (.int .i64 (m1 : Int))) HST.out.b1 (by decide))
  rw [← hW7] at HST7 HOLD7 ⊢
  clear hW7 d0 d1 d2 d3 f0 f1 s0 s1 s2 HST
  have HST8 := Lib.hid HST7.out.drew
  have HOLD8 := Lib.hid (HOLD7.out.below (below_drew (Below.refl _ W7)))
  clear HST7 HOLD7
  go_region_held3 (fun W => W.cell? ⟨B + 1, 0, none⟩ = some (.slice A0 l0.length c0) ∧ W.cell? ⟨B + 1, 1, none⟩ = some (.int .i64 (m0 : Int)) ∧ W.cell? ⟨B + 1, 2, none⟩ = some (.slice none 0 0) ∧ W.cell? ⟨B + 1, 3, none⟩ = some (.int .i64 (m1 : Int)) ∧ W.cell? ⟨B, 1, none⟩ = some p1) (first | with_reducible exact ⟨(four_cells HST8.out.b1).1, (four_cells HST8.out.b1).2.1, (four_cells HST8.out.b1).2.2.1, (four_cells HST8.out.b1).2.2.2, (two_cells HST8.out.b0).2⟩ | with_reducible exact ⟨(four_cells HST9.out.b1).1, (four_cells HST9.out.b1).2.1, (four_cells HST9.out.b1).2.2.1, (four_cells HST9.out.b1).2.2.2, (two_cells HST9.out.b0).2⟩ | with_reducible exact ⟨(four_cells HST10.out.b1).1, (four_cells HST10.out.b1).2.1, (four_cells HST10.out.b1).2.2.1, (four_cells HST10.out.b1).2.2.2, (two_cells HST10.out.b0).2⟩ | with_reducible exact ⟨(four_cells (HST10.out.out (a := (.slice A0 l0.length c0)) (b := .int .i64 (m0 : Int)) (c := (.slice none 0 0)) (d := .int .i64 (m1 : Int))).b1).1, (four_cells (HST10.out.out (a := (.slice A0 l0.length c0)) (b := .int .i64 (m0 : Int)) (c := (.slice none 0 0)) (d := .int .i64 (m1 : Int))).b1).2.1, (four_cells (HST10.out.out (a := (.slice A0 l0.length c0)) (b := .int .i64 (m0 : Int)) (c := (.slice none 0 0)) (d := .int .i64 (m1 : Int))).b1).2.2.1, (four_cells (HST10.out.out (a := (.slice A0 l0.length c0)) (b := .int .i64 (m0 : Int)) (c := (.slice none 0 0)) (d := .int .i64 (m1 : Int))).b1).2.2.2, (two_cells (HST10.out.out (a := (.slice A0 l0.length c0)) (b := .int .i64 (m0 : Int)) (c := (.slice none 0 0)) (d := .int .i64 (m1 : Int))).b0).2⟩ | fail) (first | (go_at_call 21; (with_reducible refine (HQA.out _ HST8.out.q1).mono ?_); rintro e w9 ⟨v9, rfl, ho9, hq9, hb9⟩; (have HST9 := Lib.hid (HST8.out.turn1 hb9 hq9)); (have HOLD9 := Lib.hid (HOLD8.out.but hb9 (fun k hk => HST8.out.q1.chan k hk))); (have hr9 := RV.own ho9); (have HRV9 := Lib.hid hr9); (obtain ⟨A9, c9, rfl, _⟩ := hr9); (clear ho9 hq9 hb9 HST8 HOLD8)) | (go_at_call 28; (with_reducible refine (HSM.out _ _ _ HRV9.out HOLD9.out).mono ?_); rintro e w10 ⟨rfl, hb10⟩; (have HST10 := Lib.hid (HST9.out.below hb10)); (obtain ⟨z0, z1, z2, z3⟩ := four_cells HST10.out.b3); (have f0 := blk_frozen HST10.out.b3 0); (have f1 := blk_frozen HST10.out.b3 1); (have f2 := blk_frozen HST10.out.b3 2); (have f3 := blk_frozen HST10.out.b3 3); (clear hb10 HST9 HOLD9 HRV9)))
  all_goals
    go_wp2_with fail
    refine bodyPost_ret (results_ct rfl _ _ (B + 1 + 1 + 1) 38 #[(.slice A0 l0.length c0), .int .i64 (m0 : Int), (.slice none 0 0), .int .i64 (m1 : Int)] (0, 0) _ rfl (HST10.out.out (a := (.slice A0 l0.length c0)) (b := .int .i64 (m0 : Int)) (c := (.slice none 0 0)) (d := .int .i64 (m1 : Int))).b3 Try.underlying38 rfl (by kernel_rfl)) rfl ?_
    exact ⟨_, _, _, _, rfl, HST10.out.out.q0, HST10.out.out.q1, HST10.out.out.r0, HST10.out.out.r1, HST10.out.out.old⟩
end Go.Proofs.YtfoenpdfmhmkiaaPlay
