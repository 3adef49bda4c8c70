/- An act on two queues, of one kind, on one of them: what is told is what the document tells. Conditions stand with it. -/
import Derived.Test.YtfoenpdfmhmkiaaPlayE
set_option linter.unusedVariables false
set_option linter.unusedSimpArgs false
namespace Go.Proofs.YtfoenpdfmhmkiaaPlay
open Go.RowKit Go.Proofs.YtfoenpdfmhmkiaaW.PrintWords Go.Proofs.YtfoenpdfmhmkiaaW.PrintLast Go.Proofs.YtfoenpdfmhmkiaaW.PrintMore Go.Proofs.YtfoenpdfmhmkiaaW.HKit Go.Proofs.YtfoenpdfmhmkiaaW.Mv Go.Proofs.YtfoenpdfmhmkiaaW.But Go.Proofs.Ytfoenpdfmhmkiaa.PQueuePlays
open Go.Proofs.YtfoenpdfmhmkiaaLone (mv)
set_option maxHeartbeats 8000000 in
set_option maxRecDepth 100000 in
theorem act_31 (w : World) (o0 o1 : Option (Nat × Nat)) (m0 m1 : Nat) (l0 l1 : List Int) (v0 v1 : Value) (K X : Int) (ha : Apart o0 o1) (q0 : QAt w o0 m0 l0) (q1 : QAt w o1 m1 l1) (r0 : RV w v0 l0) (r1 : RV w v1 l1) (hK : 0 ≤ K ∧ K ≤ 255) (hk : K % 5 = 3) :
    Calls Try.prog 13 #[.agg #[qv o0, qv o1], .agg #[v0, .int .i64 (m0 : Int), v1, .int .i64 (m1 : Int)], .agg #[.int .u8 K, .int .i64 X, .bool true]] w (APost w o0 o1 m0 m1) := by
  have hlm0 := q0.most
  have hlm1 := q1.most
  have hkm : K.tmod 5 = 3 := by rw [Int.tmod_eq_emod_of_nonneg hK.1]; exact hk
  obtain ⟨W4, hW4⟩ : ∃ W4, W4 = (((w.alloc (.cells #[qv o0, qv o1] 34)).alloc (.cells #[v0, .int .i64 (m0 : Int), v1, .int .i64 (m1 : Int)] 38)).alloc (.cells #[.int .u8 K, .int .i64 X, .bool true] 43)).alloc (.cells #[.slice none 0 0, .int .i64 0, .slice none 0 0, .int .i64 0] 38) := ⟨_, rfl⟩
  have HST : Hid (AS w W4 o0 o1 m0 m1 l0 l1 l0 l1 w.heap.size (qv o0) (qv o1) v0 v1 (.int .u8 K) (.int .i64 X) (.bool true) (.slice none 0 0) (.int .i64 0) (.slice none 0 0) (.int .i64 0)) := Lib.hid (AS.start w q0 q1 r0 r1 ha hW4)
  obtain ⟨A0, c0, rfl, _⟩ := r0
  obtain ⟨A1, c1, rfl, _⟩ := r1
  have HQ0 := Lib.hid hlm0
  have HQ1 := Lib.hid hlm1
  have HAP := Lib.hid ha
  clear q0 q1 ha hK hk hlm0 hlm1
  obtain ⟨p0, hp0⟩ : ∃ p, p = qv o0 := ⟨_, rfl⟩
  obtain ⟨p1, hp1⟩ : ∃ p, p = qv o1 := ⟨_, rfl⟩
  rw [← hp0, ← hp1] at HST hW4
  rw [← hp0, ← hp1]
  have hrp := fun (W : World) (hW : RV W (.slice A1 l1.length c1) l1) => rpop (.slice A1 l1.length c1) m1 l1 W hW (by have := HQ1.out; omega)
  have hrp2 := fun (W : World) (hW : RV W (.slice A0 l0.length c0) l0) => rpop (.slice A0 l0.length c0) m0 l0 W hW (by have := HQ0.out; omega)
  have hqe := fun (W : World) (hW : QAt W o1 m1 l1) (hW2 : QAt W o0 m0 l0) => either_q o1 o0 m1 m0 l1 l0 W hW hW2 HAP.out.symm
  rw [← hp1, ← hp0] at hqe
  have he0 : ¬ 0 < l1.length → l1 = [] := fun h => List.eq_nil_of_length_eq_zero (by omega)
  obtain ⟨k', hk'⟩ : ∃ k, k = l1.tail := ⟨_, rfl⟩
  obtain ⟨xx, hxx⟩ : ∃ x, x = l1.headD 0 := ⟨_, rfl⟩
  obtain ⟨k2, hk2⟩ : ∃ k, k = l0.tail := ⟨_, rfl⟩
  obtain ⟨x2, hx2⟩ : ∃ x, x = l0.headD 0 := ⟨_, rfl⟩
  rw [← hk', ← hxx] at hrp
  rw [← hk2, ← hx2] at hrp2
  rw [← hk', ← hxx, ← hk2, ← hx2] at hqe
  clear hk' hxx hk2 hx2 he0
  clear hp0 hp1
  by_cases g0 : 0 < l1.length
  · rw [decide_eq_true g0] at hrp
    simp only [if_pos g0] at hqe
    clear g0
    have HRP := Lib.hid hrp
    have HRP2 := Lib.hid hrp2
    have HQE := Lib.hid hqe
    clear hrp hrp2 hqe
    go_enter Try.func13, Try.ntmps13
    go_upto_region 1 with (fail)
    rw [← hW4]
    clear hW4
    obtain ⟨B, hB⟩ : ∃ B, B = w.heap.size := ⟨_, rfl⟩
    rw [← hB] at HST ⊢
    clear hB
    obtain ⟨s0, s1, s2⟩ := three_cells HST.out.b2
    go_upto_region 20 with (fail)
    obtain ⟨d0, d1, d2, d3⟩ := four_cells HST.out.b1
    go_wp2_with fail
    (with_reducible refine (HRP.out _ HST.out.r1).mono ?_)
    rintro e w5 ⟨v', rfl, hr5, hb5⟩
    have HST5 := Lib.hid (HST.out.below hb5)
    have HRV5 := Lib.hid hr5
    obtain ⟨A5, c5, rfl, _⟩ := hr5
    clear hb5 HST HRP d0 d1 d2 d3 s0 s1 s2
    go_upto_region 21 with (fail)
    have HST6 := Lib.hid (HST5.out.alloc (.cells #[.slice A5 k'.length c5, .int .i64 (m1 : Int)] 37))
    have hlt9 := HST5.out.lt
    have HLT9 := Lib.hid hlt9
    have HG9 := Lib.hid (show (w5.alloc (.cells #[.slice A5 k'.length c5, .int .i64 (m1 : Int)] 37)).heap[w5.heap.size]? = some (.cells #[.slice A5 k'.length c5, .int .i64 (m1 : Int)] 37 (0, 0)) from heap_alloc_new w5 _)
    have HRV6 := Lib.hid (HRV5.out.below (below_alloc (Below.refl _ w5) (.cells #[.slice A5 k'.length c5, .int .i64 (m1 : Int)] 37)))
    clear HST5 HRV5 hlt9
    generalize w5.alloc (.cells #[.slice A5 k'.length c5, .int .i64 (m1 : Int)] 37) = W6 at *
    generalize w5.heap.size = G9 at *
    obtain ⟨n0, n1⟩ := two_cells HG9.out
    obtain ⟨d0, d1, d2, d3⟩ := four_cells HST6.out.b1
    have f0 := blk_frozen HST6.out.b1 2
    have f1 := blk_frozen HST6.out.b1 3
    go_upto_region 28 with (fail)
    obtain ⟨W7, hW7⟩ : ∃ W7, W7 = (W6.setCell ⟨B + 1, 2, none⟩ (.slice A5 k'.length c5)).setCell ⟨B + 1, 3, none⟩ (.int .i64 (m1 : Int)) := ⟨_, rfl⟩
    have HST7 := Lib.hid (HST6.out.put1 HRV6.out)
    have HG7 := Lib.hid ((two_but W6 (B + 1) 2 3 (.slice A5 k'.length c5) (.int .i64 (m1 : Int))).heap HG9.out (by have := HLT9.out; omega))
    rw [← hW7] at HST7 HG7 ⊢
    clear hW7 n0 n1 d0 d1 d2 d3 f0 f1 HST6 HG9 HRV6
    clear HG7 HLT9 HRP2
    have HST8 := Lib.hid HST7.out.drew
    clear HST7
    have hw2 : IntKind.i64.wrap (1 - 1) = 0 := by decide
    have hw3 : IntKind.i64.wrap 0 = 0 := by decide
    go_region_held3 (fun W => W.cell? ⟨B, 0, none⟩ = some p0 ∧ W.cell? ⟨B, 1, none⟩ = some p1) (first | with_reducible exact ⟨(two_cells HST8.out.b0).1, (two_cells HST8.out.b0).2⟩ | with_reducible exact ⟨(two_cells HST9.out.b0).1, (two_cells HST9.out.b0).2⟩ | fail) (first | (go_at_call 16; (with_reducible refine (HQE.out _ HST8.out.q1 HST8.out.q0).mono ?_); rintro e w9 ⟨rfl, hq9, hq9', hb9⟩; (have HST9 := Lib.hid (HST8.out.turn (hb9.mono fun k hk => hk.symm) hq9' hq9)); (obtain ⟨d0, d1, d2, d3⟩ := four_cells HST9.out.b1); (obtain ⟨z0, z1, z2, z3⟩ := four_cells HST9.out.b3); (have f0 := blk_frozen HST9.out.b3 0); (have f1 := blk_frozen HST9.out.b3 1); (have f2 := blk_frozen HST9.out.b3 2); (have f3 := blk_frozen HST9.out.b3 3); (clear hq9 hq9' hb9 HST8)))
    have hxx : (xx == xx) = true := beq_self_eq_true xx
    have hx2 : (x2 == x2) = true := beq_self_eq_true x2
    go_wp2_with fail
    refine bodyPost_ret (results_ct rfl _ _ (B + 1 + 1 + 1) 38 #[(.slice A0 l0.length c0), .int .i64 (m0 : Int), (.slice A5 k'.length c5), .int .i64 (m1 : Int)] (0, 0) _ rfl (HST9.out.out (a := (.slice A0 l0.length c0)) (b := .int .i64 (m0 : Int)) (c := (.slice A5 k'.length c5)) (d := .int .i64 (m1 : Int))).b3 Try.underlying38 rfl (by kernel_rfl)) rfl ?_
    exact ⟨_, _, _, _, rfl, HST9.out.out.q0, HST9.out.out.q1, HST9.out.out.r0, HST9.out.out.r1, HST9.out.out.old⟩
  · rw [decide_eq_false g0] at hrp
    simp only [if_neg g0] at hqe
    clear g0
    by_cases g1 : 0 < l0.length
    · rw [decide_eq_true g1] at hrp2
      simp only [if_pos g1] at hqe
      clear g1
      have HRP := Lib.hid hrp
      have HRP2 := Lib.hid hrp2
      have HQE := Lib.hid hqe
      clear hrp hrp2 hqe
      go_enter Try.func13, Try.ntmps13
      go_upto_region 1 with (fail)
      rw [← hW4]
      clear hW4
      obtain ⟨B, hB⟩ : ∃ B, B = w.heap.size := ⟨_, rfl⟩
      rw [← hB] at HST ⊢
      clear hB
      obtain ⟨s0, s1, s2⟩ := three_cells HST.out.b2
      go_upto_region 20 with (fail)
      obtain ⟨d0, d1, d2, d3⟩ := four_cells HST.out.b1
      go_wp2_with fail
      (with_reducible refine (HRP.out _ HST.out.r1).mono ?_)
      rintro e w5 ⟨v', rfl, hr5, hb5⟩
      have HST5 := Lib.hid (HST.out.below hb5)
      have HRV5 := Lib.hid hr5
      obtain ⟨A5, c5, rfl, _⟩ := hr5
      clear hb5 HST HRP d0 d1 d2 d3 s0 s1 s2
      go_upto_region 21 with (fail)
      have HST6 := Lib.hid (HST5.out.alloc (.cells #[.slice A5 k'.length c5, .int .i64 (m1 : Int)] 37))
      have hlt9 := HST5.out.lt
      have HLT9 := Lib.hid hlt9
      have HG9 := Lib.hid (show (w5.alloc (.cells #[.slice A5 k'.length c5, .int .i64 (m1 : Int)] 37)).heap[w5.heap.size]? = some (.cells #[.slice A5 k'.length c5, .int .i64 (m1 : Int)] 37 (0, 0)) from heap_alloc_new w5 _)
      have HRV6 := Lib.hid (HRV5.out.below (below_alloc (Below.refl _ w5) (.cells #[.slice A5 k'.length c5, .int .i64 (m1 : Int)] 37)))
      clear HST5 HRV5 hlt9
      generalize w5.alloc (.cells #[.slice A5 k'.length c5, .int .i64 (m1 : Int)] 37) = W6 at *
      generalize w5.heap.size = G9 at *
      obtain ⟨n0, n1⟩ := two_cells HG9.out
      obtain ⟨d0, d1, d2, d3⟩ := four_cells HST6.out.b1
      have f0 := blk_frozen HST6.out.b1 2
      have f1 := blk_frozen HST6.out.b1 3
      go_upto_region 24 with (fail)
      obtain ⟨W7, hW7⟩ : ∃ W7, W7 = (W6.setCell ⟨B + 1, 2, none⟩ (.slice A5 k'.length c5)).setCell ⟨B + 1, 3, none⟩ (.int .i64 (m1 : Int)) := ⟨_, rfl⟩
      have HST7 := Lib.hid (HST6.out.put1 HRV6.out)
      have HG7 := Lib.hid ((two_but W6 (B + 1) 2 3 (.slice A5 k'.length c5) (.int .i64 (m1 : Int))).heap HG9.out (by have := HLT9.out; omega))
      rw [← hW7] at HST7 HG7 ⊢
      clear hW7 n0 n1 d0 d1 d2 d3 f0 f1 HST6 HG9 HRV6
      obtain ⟨n0, n1⟩ := two_cells HG7.out
      obtain ⟨d0, d1, d2, d3⟩ := four_cells HST7.out.b1
      have hw1 : wrap64 (1 - 1) = 0 := by unfold wrap64; omega
      go_wp2_with fail
      (with_reducible refine (HRP2.out _ HST7.out.r0).mono ?_)
      rintro e w8 ⟨v8, rfl, hr8, hb8⟩
      have HST8 := Lib.hid (HST7.out.below hb8)
      have HG8 := Lib.hid ((But.of_below (fun _ => False) hb8).heap HG7.out id)
      have HRV8 := Lib.hid hr8
      obtain ⟨A8, c8, rfl, _⟩ := hr8
      clear hb8 HST7 HG7 HRP2 d0 d1 d2 d3 n0 n1
      obtain ⟨n0, n1⟩ := two_cells HG8.out
      have f0 := blk_frozen HG8.out 0
      have f1 := blk_frozen HG8.out 1
      go_upto_region 25 with (fail)
      obtain ⟨W9, hW9⟩ : ∃ W9, W9 = (w8.setCell ⟨G9, 0, none⟩ (.slice A8 k2.length c8)).setCell ⟨G9, 1, none⟩ (.int .i64 (m0 : Int)) := ⟨_, rfl⟩
      have HST9 := Lib.hid (HST8.out.box (two_but w8 G9 0 1 (.slice A8 k2.length c8) (.int .i64 (m0 : Int))) HG8.out (by decide) (by decide) HLT9.out)
      have HRV9 := Lib.hid (HRV8.out.far (two_but w8 G9 0 1 (.slice A8 k2.length c8) (.int .i64 (m0 : Int))) HG8.out (by decide))
      have HG9 := Lib.hid (set2_blk (u0 := .slice A8 k2.length c8) (u1 := .int .i64 (m0 : Int)) HG8.out)
      rw [← hW9] at HST9 HRV9 HG9 ⊢
      clear hW9 n0 n1 f0 f1 HST8 HRV8 HG8
      obtain ⟨n0, n1⟩ := two_cells HG9.out
      obtain ⟨d0, d1, d2, d3⟩ := four_cells HST9.out.b1
      have f0 := blk_frozen HST9.out.b1 0
      have f1 := blk_frozen HST9.out.b1 1
      go_upto_region 28 with (fail)
      obtain ⟨W7, hW7⟩ : ∃ W7, W7 = (W9.setCell ⟨B + 1, 0, none⟩ (.slice A8 k2.length c8)).setCell ⟨B + 1, 1, none⟩ (.int .i64 (m0 : Int)) := ⟨_, rfl⟩
      have HST7 := Lib.hid (HST9.out.put0 HRV9.out)
      rw [← hW7] at HST7 ⊢
      clear hW7 n0 n1 d0 d1 d2 d3 f0 f1 HST9 HG9 HRV9
      clear HLT9
      have HST8 := Lib.hid HST7.out.drew
      clear HST7
      have hw2 : IntKind.i64.wrap (1 - 1) = 0 := by decide
      have hw3 : IntKind.i64.wrap 0 = 0 := by decide
      go_region_held3 (fun W => W.cell? ⟨B, 0, none⟩ = some p0 ∧ W.cell? ⟨B, 1, none⟩ = some p1) (first | with_reducible exact ⟨(two_cells HST8.out.b0).1, (two_cells HST8.out.b0).2⟩ | with_reducible exact ⟨(two_cells HST9.out.b0).1, (two_cells HST9.out.b0).2⟩ | fail) (first | (go_at_call 16; (with_reducible refine (HQE.out _ HST8.out.q1 HST8.out.q0).mono ?_); rintro e w9 ⟨rfl, hq9, hq9', hb9⟩; (have HST9 := Lib.hid (HST8.out.turn (hb9.mono fun k hk => hk.symm) hq9' hq9)); (obtain ⟨d0, d1, d2, d3⟩ := four_cells HST9.out.b1); (obtain ⟨z0, z1, z2, z3⟩ := four_cells HST9.out.b3); (have f0 := blk_frozen HST9.out.b3 0); (have f1 := blk_frozen HST9.out.b3 1); (have f2 := blk_frozen HST9.out.b3 2); (have f3 := blk_frozen HST9.out.b3 3); (clear hq9 hq9' hb9 HST8)))
      have hxx : (xx == xx) = true := beq_self_eq_true xx
      have hx2 : (x2 == x2) = true := beq_self_eq_true x2
      go_wp2_with fail
      refine bodyPost_ret (results_ct rfl _ _ (B + 1 + 1 + 1) 38 #[(.slice A8 k2.length c8), .int .i64 (m0 : Int), (.slice A5 k'.length c5), .int .i64 (m1 : Int)] (0, 0) _ rfl (HST9.out.out (a := (.slice A8 k2.length c8)) (b := .int .i64 (m0 : Int)) (c := (.slice A5 k'.length c5)) (d := .int .i64 (m1 : Int))).b3 Try.underlying38 rfl (by kernel_rfl)) rfl ?_
      exact ⟨_, _, _, _, rfl, HST9.out.out.q0, HST9.out.out.q1, HST9.out.out.r0, HST9.out.out.r1, HST9.out.out.old⟩
    · rw [decide_eq_false g1] at hrp2
      simp only [if_neg g1] at hqe
      clear g1
      have HRP := Lib.hid hrp
      have HRP2 := Lib.hid hrp2
      have HQE := Lib.hid hqe
      clear hrp hrp2 hqe
      go_enter Try.func13, Try.ntmps13
      go_upto_region 1 with (fail)
      rw [← hW4]
      clear hW4
      obtain ⟨B, hB⟩ : ∃ B, B = w.heap.size := ⟨_, rfl⟩
      rw [← hB] at HST ⊢
      clear hB
      obtain ⟨s0, s1, s2⟩ := three_cells HST.out.b2
      go_upto_region 20 with (fail)
      obtain ⟨d0, d1, d2, d3⟩ := four_cells HST.out.b1
      go_wp2_with fail
      (with_reducible refine (HRP.out _ HST.out.r1).mono ?_)
      rintro e w5 ⟨v', rfl, hr5, hb5⟩
      have HST5 := Lib.hid (HST.out.below hb5)
      have HRV5 := Lib.hid hr5
      obtain ⟨A5, c5, rfl, _⟩ := hr5
      clear hb5 HST HRP d0 d1 d2 d3 s0 s1 s2
      go_upto_region 21 with (fail)
      have HST6 := Lib.hid (HST5.out.alloc (.cells #[.slice A5 k'.length c5, .int .i64 (m1 : Int)] 37))
      have hlt9 := HST5.out.lt
      have HLT9 := Lib.hid hlt9
      have HG9 := Lib.hid (show (w5.alloc (.cells #[.slice A5 k'.length c5, .int .i64 (m1 : Int)] 37)).heap[w5.heap.size]? = some (.cells #[.slice A5 k'.length c5, .int .i64 (m1 : Int)] 37 (0, 0)) from heap_alloc_new w5 _)
      have HRV6 := Lib.hid (HRV5.out.below (below_alloc (Below.refl _ w5) (.cells #[.slice A5 k'.length c5, .int .i64 (m1 : Int)] 37)))
      clear HST5 HRV5 hlt9
      generalize w5.alloc (.cells #[.slice A5 k'.length c5, .int .i64 (m1 : Int)] 37) = W6 at *
      generalize w5.heap.size = G9 at *
      obtain ⟨n0, n1⟩ := two_cells HG9.out
      obtain ⟨d0, d1, d2, d3⟩ := four_cells HST6.out.b1
      have f0 := blk_frozen HST6.out.b1 2
      have f1 := blk_frozen HST6.out.b1 3
      go_upto_region 24 with (fail)
      obtain ⟨W7, hW7⟩ : ∃ W7, W7 = (W6.setCell ⟨B + 1, 2, none⟩ (.slice A5 k'.length c5)).setCell ⟨B + 1, 3, none⟩ (.int .i64 (m1 : Int)) := ⟨_, rfl⟩
      have HST7 := Lib.hid (HST6.out.put1 HRV6.out)
      have HG7 := Lib.hid ((two_but W6 (B + 1) 2 3 (.slice A5 k'.length c5) (.int .i64 (m1 : Int))).heap HG9.out (by have := HLT9.out; omega))
      rw [← hW7] at HST7 HG7 ⊢
      clear hW7 n0 n1 d0 d1 d2 d3 f0 f1 HST6 HG9 HRV6
      obtain ⟨n0, n1⟩ := two_cells HG7.out
      obtain ⟨d0, d1, d2, d3⟩ := four_cells HST7.out.b1
      have hw1 : wrap64 (1 - 1) = 0 := by unfold wrap64; omega
      go_wp2_with fail
      (with_reducible refine (HRP2.out _ HST7.out.r0).mono ?_)
      rintro e w8 ⟨v8, rfl, hr8, hb8⟩
      have HST8 := Lib.hid (HST7.out.below hb8)
      have HG8 := Lib.hid ((But.of_below (fun _ => False) hb8).heap HG7.out id)
      have HRV8 := Lib.hid hr8
      obtain ⟨A8, c8, rfl, _⟩ := hr8
      clear hb8 HST7 HG7 HRP2 d0 d1 d2 d3 n0 n1
      obtain ⟨n0, n1⟩ := two_cells HG8.out
      have f0 := blk_frozen HG8.out 0
      have f1 := blk_frozen HG8.out 1
      go_upto_region 25 with (fail)
      obtain ⟨W9, hW9⟩ : ∃ W9, W9 = (w8.setCell ⟨G9, 0, none⟩ (.slice A8 k2.length c8)).setCell ⟨G9, 1, none⟩ (.int .i64 (m0 : Int)) := ⟨_, rfl⟩
      have HST9 := Lib.hid (HST8.out.box (two_but w8 G9 0 1 (.slice A8 k2.length c8) (.int .i64 (m0 : Int))) HG8.out (by decide) (by decide) HLT9.out)
      have HRV9 := Lib.hid (HRV8.out.far (two_but w8 G9 0 1 (.slice A8 k2.length c8) (.int .i64 (m0 : Int))) HG8.out (by decide))
      have HG9 := Lib.hid (set2_blk (u0 := .slice A8 k2.length c8) (u1 := .int .i64 (m0 : Int)) HG8.out)
      rw [← hW9] at HST9 HRV9 HG9 ⊢
      clear hW9 n0 n1 f0 f1 HST8 HRV8 HG8
      obtain ⟨n0, n1⟩ := two_cells HG9.out
      obtain ⟨d0, d1, d2, d3⟩ := four_cells HST9.out.b1
      have f0 := blk_frozen HST9.out.b1 0
      have f1 := blk_frozen HST9.out.b1 1
      go_upto_region 28 with (fail)
      obtain ⟨W7, hW7⟩ : ∃ W7, W7 = (W9.setCell ⟨B + 1, 0, none⟩ (.slice A8 k2.length c8)).setCell ⟨B + 1, 1, none⟩ (.int .i64 (m0 : Int)) := ⟨_, rfl⟩
      have HST7 := Lib.hid (HST9.out.put0 HRV9.out)
      rw [← hW7] at HST7 ⊢
      clear hW7 n0 n1 d0 d1 d2 d3 f0 f1 HST9 HG9 HRV9
      clear HLT9
      have HST8 := Lib.hid HST7.out.drew
      clear HST7
      have hw2 : IntKind.i64.wrap (1 - 1) = 0 := by decide
      have hw3 : IntKind.i64.wrap 0 = 0 := by decide
      go_region_held3 (fun W => W.cell? ⟨B, 0, none⟩ = some p0 ∧ W.cell? ⟨B, 1, none⟩ = some p1) (first | with_reducible exact ⟨(two_cells HST8.out.b0).1, (two_cells HST8.out.b0).2⟩ | with_reducible exact ⟨(two_cells HST9.out.b0).1, (two_cells HST9.out.b0).2⟩ | fail) (first | (go_at_call 16; (with_reducible refine (HQE.out _ HST8.out.q1 HST8.out.q0).mono ?_); rintro e w9 ⟨rfl, hq9, hq9', hb9⟩; (have HST9 := Lib.hid (HST8.out.turn (hb9.mono fun k hk => hk.symm) hq9' hq9)); (obtain ⟨d0, d1, d2, d3⟩ := four_cells HST9.out.b1); (obtain ⟨z0, z1, z2, z3⟩ := four_cells HST9.out.b3); (have f0 := blk_frozen HST9.out.b3 0); (have f1 := blk_frozen HST9.out.b3 1); (have f2 := blk_frozen HST9.out.b3 2); (have f3 := blk_frozen HST9.out.b3 3); (clear hq9 hq9' hb9 HST8)))
      have hxx : (xx == xx) = true := beq_self_eq_true xx
      have hx2 : (x2 == x2) = true := beq_self_eq_true x2
      go_wp2_with fail
      refine bodyPost_ret (results_ct rfl _ _ (B + 1 + 1 + 1) 38 #[(.slice A8 k2.length c8), .int .i64 (m0 : Int), (.slice A5 k'.length c5), .int .i64 (m1 : Int)] (0, 0) _ rfl (HST9.out.out (a := (.slice A8 k2.length c8)) (b := .int .i64 (m0 : Int)) (c := (.slice A5 k'.length c5)) (d := .int .i64 (m1 : Int))).b3 Try.underlying38 rfl (by kernel_rfl)) rfl ?_
      exact ⟨_, _, _, _, rfl, HST9.out.out.q0, HST9.out.out.q1, HST9.out.out.r0, HST9.out.out.r1, HST9.out.out.old⟩
end Go.Proofs.YtfoenpdfmhmkiaaPlay
