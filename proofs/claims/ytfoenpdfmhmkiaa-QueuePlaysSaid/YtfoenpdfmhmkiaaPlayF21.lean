/- An act on two queues, of one kind, on one of them: what is told is what the document tells. Conditions stand with it. -/
import Derived.Test.YtfoenpdfmhmkiaaPlayE
set_option linter.unusedVariables false
set_option linter.unusedSimpArgs false
namespace Go.Proofs.YtfoenpdfmhmkiaaPlay
open Go.RowKit Go.Proofs.YtfoenpdfmhmkiaaW.PrintWords Go.Proofs.YtfoenpdfmhmkiaaW.PrintLast Go.Proofs.YtfoenpdfmhmkiaaW.PrintMore Go.Proofs.YtfoenpdfmhmkiaaW.HKit Go.Proofs.YtfoenpdfmhmkiaaW.Mv Go.Proofs.YtfoenpdfmhmkiaaW.But Go.Proofs.Ytfoenpdfmhmkiaa.PQueuePlays
open Go.Proofs.YtfoenpdfmhmkiaaLone (mv)
set_option maxHeartbeats 8000000 in
set_option maxRecDepth 100000 in
theorem act_21 (w : World) (o0 o1 : Option (Nat × Nat)) (m0 m1 : Nat) (l0 l1 : List Int) (v0 v1 : Value) (K X : Int) (ha : Apart o0 o1) (q0 : QAt w o0 m0 l0) (q1 : QAt w o1 m1 l1) (r0 : RV w v0 l0) (r1 : RV w v1 l1) (hK : 0 ≤ K ∧ K ≤ 255) (hk : K % 5 = 2) :
    Calls Try.prog 13 #[.agg #[qv o0, qv o1], .agg #[v0, .int .i64 (m0 : Int), v1, .int .i64 (m1 : Int)], .agg #[.int .u8 K, .int .i64 X, .bool true]] w (APost w o0 o1 m0 m1) := by
  have hlm0 := q0.most
  have hlm1 := q1.most
  have hkm : K.tmod 5 = 2 := by rw [Int.tmod_eq_emod_of_nonneg hK.1]; exact hk
  obtain ⟨W4, hW4⟩ : ∃ W4, W4 = (((w.alloc (.cells #[qv o0, qv o1] 34)).alloc (.cells #[v0, .int .i64 (m0 : Int), v1, .int .i64 (m1 : Int)] 38)).alloc (.cells #[.int .u8 K, .int .i64 X, .bool true] 43)).alloc (.cells #[.slice none 0 0, .int .i64 0, .slice none 0 0, .int .i64 0] 38) := ⟨_, rfl⟩
  have HST : Hid (AS w W4 o0 o1 m0 m1 l0 l1 l0 l1 w.heap.size (qv o0) (qv o1) v0 v1 (.int .u8 K) (.int .i64 X) (.bool true) (.slice none 0 0) (.int .i64 0) (.slice none 0 0) (.int .i64 0)) := Lib.hid (AS.start w q0 q1 r0 r1 ha hW4)
  obtain ⟨A0, c0, rfl, _⟩ := r0
  obtain ⟨A1, c1, rfl, _⟩ := r1
  have HQ0 := Lib.hid hlm0
  have HQ1 := Lib.hid hlm1
  have HAP := Lib.hid ha
  clear q0 q1 ha hK hk hlm0 hlm1
  obtain ⟨p0, hp0⟩ : ∃ p, p = qv o0 := ⟨_, rfl⟩
  obtain ⟨p1, hp1⟩ : ∃ p, p = qv o1 := ⟨_, rfl⟩
  rw [← hp0, ← hp1] at HST hW4
  rw [← hp0, ← hp1]
  obtain ⟨KK, hKK⟩ : ∃ KK, KK = mv X l1.length (m0 - l0.length) := ⟨_, rfl⟩
  have hrm := fun (W : World) (hW : RV W (.slice A1 l1.length c1) l1) (hW2 : RV W (.slice A0 l0.length c0) l0) => rmove (.slice A1 l1.length c1) (.slice A0 l0.length c0) l1 l0 m1 m0 X W hW hW2 (by have := HQ1.out; omega) (by have := HQ0.out; omega) (by have := HQ0.out; omega) KK hKK
  have hqm := fun (W : World) (hW : QAt W o1 m1 l1) (hW2 : QAt W o0 m0 l0) => move_q o1 o0 m1 m0 l1 l0 X W hW hW2 HAP.out.symm KK hKK
  rw [← hp1, ← hp0] at hqm
  obtain ⟨k', hk'⟩ : ∃ k, k = l1.drop KK := ⟨_, rfl⟩
  obtain ⟨k2, hk2⟩ : ∃ k, k = l0 ++ l1.take KK := ⟨_, rfl⟩
  rw [← hk', ← hk2] at hrm hqm
  have HRM := Lib.hid hrm
  have HQM := Lib.hid hqm
  clear hrm hqm hKK hk' hk2
  clear hp0 hp1
  go_enter Try.func13, Try.ntmps13
  go_upto_region 1 with (fail)
  rw [← hW4]
  clear hW4
  obtain ⟨B, hB⟩ : ∃ B, B = w.heap.size := ⟨_, rfl⟩
  rw [← hB] at HST ⊢
  clear hB
  obtain ⟨s0, s1, s2⟩ := three_cells HST.out.b2
  go_upto_region 15 with (fail)
  have HLT := Lib.hid HST.out.lt
  have HST1 := Lib.hid HST.out.drew
  have HST2 := Lib.hid (HST.out.alloc (.cells #[.slice none 0 0, .int .i64 0] 37)).drew
  have HST3 := Lib.hid ((HST.out.alloc (.cells #[.slice none 0 0, .int .i64 0] 37)).alloc (.cells #[.slice none 0 0, .int .i64 0] 37)).drew
  have HNA := Lib.hid (show (W4.alloc (.cells #[.slice none 0 0, .int .i64 0] 37)).drew.heap[W4.heap.size]? = some (.cells #[.slice none 0 0, .int .i64 0] 37 (0, 0)) from heap_alloc_new W4 _)
  have HNA2 := Lib.hid (show ((W4.alloc (.cells #[.slice none 0 0, .int .i64 0] 37)).alloc (.cells #[.slice none 0 0, .int .i64 0] 37)).drew.heap[W4.heap.size]? = some (.cells #[.slice none 0 0, .int .i64 0] 37 (0, 0)) from blk_alloc_ (heap_alloc_new W4 _) _)
  have HNB2 := Lib.hid (show ((W4.alloc (.cells #[.slice none 0 0, .int .i64 0] 37)).alloc (.cells #[.slice none 0 0, .int .i64 0] 37)).drew.heap[W4.heap.size + 1]? = some (.cells #[.slice none 0 0, .int .i64 0] 37 (0, 0)) from blk_new2 W4 _ _)
  have hw1 : IntKind.i64.wrap (1 - 1) = 0 := by decide
  have hw2 : IntKind.i64.wrap 0 = 0 := by decide
  clear s0 s1 s2
  go_region_held3 (fun W => W.cell? ⟨B + 1, 0, none⟩ = some (.slice A0 l0.length c0) ∧ W.cell? ⟨B + 1, 1, none⟩ = some (.int .i64 (m0 : Int)) ∧ W.cell? ⟨B + 1, 2, none⟩ = some (.slice A1 l1.length c1) ∧ W.cell? ⟨B + 1, 3, none⟩ = some (.int .i64 (m1 : Int)) ∧ W.cell? ⟨B + 1 + 1, 1, none⟩ = some (.int .i64 X)) (first | with_reducible exact ⟨(four_cells HST1.out.b1).1, (four_cells HST1.out.b1).2.1, (four_cells HST1.out.b1).2.2.1, (four_cells HST1.out.b1).2.2.2, (three_cells HST1.out.b2).2.1⟩ | with_reducible exact ⟨(four_cells HST2.out.b1).1, (four_cells HST2.out.b1).2.1, (four_cells HST2.out.b1).2.2.1, (four_cells HST2.out.b1).2.2.2, (three_cells HST2.out.b2).2.1⟩ | with_reducible exact ⟨(four_cells HST3.out.b1).1, (four_cells HST3.out.b1).2.1, (four_cells HST3.out.b1).2.2.1, (four_cells HST3.out.b1).2.2.2, (three_cells HST3.out.b2).2.1⟩ | with_reducible exact ⟨(four_cells HST5.out.b1).1, (four_cells HST5.out.b1).2.1, (four_cells HST5.out.b1).2.2.1, (four_cells HST5.out.b1).2.2.2, (three_cells HST5.out.b2).2.1⟩ | with_reducible exact ⟨(four_cells (HST5.out.alloc _).b1).1, (four_cells (HST5.out.alloc _).b1).2.1, (four_cells (HST5.out.alloc _).b1).2.2.1, (four_cells (HST5.out.alloc _).b1).2.2.2, (three_cells (HST5.out.alloc _).b2).2.1⟩ | with_reducible exact ⟨(four_cells ((HST5.out.alloc _).alloc _).b1).1, (four_cells ((HST5.out.alloc _).alloc _).b1).2.1, (four_cells ((HST5.out.alloc _).alloc _).b1).2.2.1, (four_cells ((HST5.out.alloc _).alloc _).b1).2.2.2, (three_cells ((HST5.out.alloc _).alloc _).b2).2.1⟩ | go_keep | fail) (first | (go_at_call 27; (with_reducible refine (HRM.out _ HST1.out.r1 HST1.out.r0).mono ?_); rintro e w5 ⟨va, vb, rfl, hra, hrb, hb5⟩; (have HST5 := Lib.hid (HST1.out.below hb5)); (have HRA := Lib.hid hra); (have HRB := Lib.hid hrb); (obtain ⟨A5, c5, rfl, _⟩ := hra); (obtain ⟨A6, c6, rfl, _⟩ := hrb); (have l5 := HST5.out.lt); (have q1 : w5.heap.size ≠ B := by omega); (have q2 : w5.heap.size ≠ B + 1 := by omega); (have q3 : w5.heap.size ≠ B + 1 + 1 := by omega); (clear l5); (have al0 : ∀ o : Obj, ((w5.alloc (.cells #[.slice none 0 0, .int .i64 0] 37)).alloc o).cell? ⟨w5.heap.size, 0, none⟩ = some (.slice none 0 0) := fun o => blk_cell (blk_alloc_ (heap_alloc_new w5 (.cells #[.slice none 0 0, .int .i64 0] 37)) o) 0); (have al1 : ∀ o : Obj, ((w5.alloc (.cells #[.slice none 0 0, .int .i64 0] 37)).alloc o).cell? ⟨w5.heap.size, 1, none⟩ = some (.int .i64 0) := fun o => blk_cell (blk_alloc_ (heap_alloc_new w5 (.cells #[.slice none 0 0, .int .i64 0] 37)) o) 1); (have al2 : ∀ o : Obj, ((w5.alloc (.cells #[.slice none 0 0, .int .i64 0] 37)).alloc o).frozen? ⟨w5.heap.size, 0, none⟩ = false := fun o => blk_frozen (blk_alloc_ (heap_alloc_new w5 (.cells #[.slice none 0 0, .int .i64 0] 37)) o) 0); (have al3 : ∀ o : Obj, ((w5.alloc (.cells #[.slice none 0 0, .int .i64 0] 37)).alloc o).frozen? ⟨w5.heap.size, 1, none⟩ = false := fun o => blk_frozen (blk_alloc_ (heap_alloc_new w5 (.cells #[.slice none 0 0, .int .i64 0] 37)) o) 1); (have ha := blk_alloc_ (heap_alloc_new w5 (.cells #[.slice none 0 0, .int .i64 0] 37)) (.cells #[.slice none 0 0, .int .i64 0] 37)); (have hb := blk_new2 w5 (.cells #[.slice none 0 0, .int .i64 0] 37) (.cells #[.slice none 0 0, .int .i64 0] 37)); (have na0 := blk_cell ha 0); (have na1 := blk_cell ha 1); (have fna0 := blk_frozen ha 0); (have fna1 := blk_frozen ha 1); (simp only [List.getElem?_toArray, List.getElem?_cons_zero, List.getElem?_cons_succ] at na0 na1); (have nnna := Nat.ne_of_gt (blk_lt ha)); (have nmna := Nat.ne_of_lt (blk_lt ha)); (have nb0 := blk_cell hb 0); (have nb1 := blk_cell hb 1); (have fnb0 := blk_frozen hb 0); (have fnb1 := blk_frozen hb 1); (simp only [List.getElem?_toArray, List.getElem?_cons_zero, List.getElem?_cons_succ] at nb0 nb1); (have nnnb := Nat.ne_of_gt (blk_lt hb)); (have nmnb := Nat.ne_of_lt (blk_lt hb)); (clear nnna nmna nnnb nmnb ha hb); (clear hb5)) | (go_at_call 27; (with_reducible refine (HRM.out _ HST2.out.r1 HST2.out.r0).mono ?_); rintro e w5 ⟨va, vb, rfl, hra, hrb, hb5⟩; (have HST5 := Lib.hid (HST2.out.below hb5)); (have HRA := Lib.hid hra); (have HRB := Lib.hid hrb); (obtain ⟨A5, c5, rfl, _⟩ := hra); (obtain ⟨A6, c6, rfl, _⟩ := hrb); (have l5 := HST5.out.lt); (have q1 : w5.heap.size ≠ B := by omega); (have q2 : w5.heap.size ≠ B + 1 := by omega); (have q3 : w5.heap.size ≠ B + 1 + 1 := by omega); (clear l5); (have l4 := HLT.out); (have q4 : W4.heap.size ≠ B := by omega); (have q5 : W4.heap.size ≠ B + 1 := by omega); (have q6 : W4.heap.size ≠ B + 1 + 1 := by omega); (clear l4); (have hna := (But.of_below (fun _ => False) hb5).heap HNA.out id); (have HNA5 := Lib.hid hna); (have nnx := Nat.ne_of_gt (blk_lt hna)); (have nmx := Nat.ne_of_lt (blk_lt hna)); (have al0 : ∀ o : Obj, (w5.alloc o).cell? ⟨W4.heap.size, 0, none⟩ = some (.slice none 0 0) := fun o => blk_cell (blk_alloc_ hna o) 0); (have al1 : ∀ o : Obj, (w5.alloc o).cell? ⟨W4.heap.size, 1, none⟩ = some (.int .i64 0) := fun o => blk_cell (blk_alloc_ hna o) 1); (have al2 : ∀ o : Obj, (w5.alloc o).frozen? ⟨W4.heap.size, 0, none⟩ = false := fun o => blk_frozen (blk_alloc_ hna o) 0); (have al3 : ∀ o : Obj, (w5.alloc o).frozen? ⟨W4.heap.size, 1, none⟩ = false := fun o => blk_frozen (blk_alloc_ hna o) 1); (have ha := blk_alloc_ hna (.cells #[.slice none 0 0, .int .i64 0] 37)); (have hb := heap_alloc_new w5 (.cells #[.slice none 0 0, .int .i64 0] 37)); (have na0 := blk_cell ha 0); (have na1 := blk_cell ha 1); (have fna0 := blk_frozen ha 0); (have fna1 := blk_frozen ha 1); (simp only [List.getElem?_toArray, List.getElem?_cons_zero, List.getElem?_cons_succ] at na0 na1); (have nnna := Nat.ne_of_gt (blk_lt ha)); (have nmna := Nat.ne_of_lt (blk_lt ha)); (have nb0 := blk_cell hb 0); (have nb1 := blk_cell hb 1); (have fnb0 := blk_frozen hb 0); (have fnb1 := blk_frozen hb 1); (simp only [List.getElem?_toArray, List.getElem?_cons_zero, List.getElem?_cons_succ] at nb0 nb1); (have nnnb := Nat.ne_of_gt (blk_lt hb)); (have nmnb := Nat.ne_of_lt (blk_lt hb)); (clear nnna nmna nnnb nmnb ha hb hna); (clear hb5)) | (go_at_call 27; (with_reducible refine (HRM.out _ HST3.out.r1 HST3.out.r0).mono ?_); rintro e w5 ⟨va, vb, rfl, hra, hrb, hb5⟩; (have HST5 := Lib.hid (HST3.out.below hb5)); (have HRA := Lib.hid hra); (have HRB := Lib.hid hrb); (obtain ⟨A5, c5, rfl, _⟩ := hra); (obtain ⟨A6, c6, rfl, _⟩ := hrb); (have l5 := HST5.out.lt); (have q1 : w5.heap.size ≠ B := by omega); (have q2 : w5.heap.size ≠ B + 1 := by omega); (have q3 : w5.heap.size ≠ B + 1 + 1 := by omega); (clear l5); (have l4 := HLT.out); (have q4 : W4.heap.size ≠ B := by omega); (have q5 : W4.heap.size ≠ B + 1 := by omega); (have q6 : W4.heap.size ≠ B + 1 + 1 := by omega); (clear l4); (have hna := (But.of_below (fun _ => False) hb5).heap HNA2.out id); (have hnb := (But.of_below (fun _ => False) hb5).heap HNB2.out id); (have HNA5 := Lib.hid hna); (have HNB5 := Lib.hid hnb); (have na0 := blk_cell hna 0); (have na1 := blk_cell hna 1); (have fna0 := blk_frozen hna 0); (have fna1 := blk_frozen hna 1); (simp only [List.getElem?_toArray, List.getElem?_cons_zero, List.getElem?_cons_succ] at na0 na1); (have nnna := Nat.ne_of_gt (blk_lt hna)); (have nmna := Nat.ne_of_lt (blk_lt hna)); (have nb0 := blk_cell hnb 0); (have nb1 := blk_cell hnb 1); (have fnb0 := blk_frozen hnb 0); (have fnb1 := blk_frozen hnb 1); (simp only [List.getElem?_toArray, List.getElem?_cons_zero, List.getElem?_cons_succ] at nb0 nb1); (have nnnb := Nat.ne_of_gt (blk_lt hnb)); (have nmnb := Nat.ne_of_lt (blk_lt hnb)); (clear hna hnb); (clear hb5)))
  have HMS : Hid (MS w (((w5.alloc (.cells #[.slice A5 k'.length c5, .int .i64 (m1 : Int)] 37)).alloc (.cells #[.slice A6 k2.length c6, .int .i64 (m0 : Int)] 37))) o0 o1 m0 m1 l0 l1 l0 l1 B p0 p1 (.slice A0 l0.length c0) (.slice A1 l1.length c1) (.int .u8 K) (.int .i64 X) (.bool true) (.slice none 0 0) (.int .i64 0) (.slice none 0 0) (.int .i64 0) (.slice A5 k'.length c5) (.slice A6 k2.length c6) k' k2 w5.heap.size (w5.heap.size + 1) #[.slice A5 k'.length c5, .int .i64 (m1 : Int)] #[.slice A6 k2.length c6, .int .i64 (m0 : Int)]) := Lib.hid (MS.mk2 HST5.out HRA.out HRB.out)
  generalize ((w5.alloc (.cells #[.slice A5 k'.length c5, .int .i64 (m1 : Int)] 37)).alloc (.cells #[.slice A6 k2.length c6, .int .i64 (m0 : Int)] 37)) = W6 at HMS ⊢
  generalize (w5.heap.size + 1) = GB at HMS ⊢
  generalize w5.heap.size = GA at HMS ⊢
  rotate_left
  have HMS : Hid (MS w (((w5.alloc (.cells #[.slice A6 k2.length c6, .int .i64 (m0 : Int)] 37)).alloc (.cells #[.slice A5 k'.length c5, .int .i64 (m1 : Int)] 37))) o0 o1 m0 m1 l0 l1 l0 l1 B p0 p1 (.slice A0 l0.length c0) (.slice A1 l1.length c1) (.int .u8 K) (.int .i64 X) (.bool true) (.slice none 0 0) (.int .i64 0) (.slice none 0 0) (.int .i64 0) (.slice A5 k'.length c5) (.slice A6 k2.length c6) k' k2 (w5.heap.size + 1) w5.heap.size #[.slice A5 k'.length c5, .int .i64 (m1 : Int)] #[.slice A6 k2.length c6, .int .i64 (m0 : Int)]) := Lib.hid (MS.mk2' HST5.out HRA.out HRB.out)
  generalize ((w5.alloc (.cells #[.slice A6 k2.length c6, .int .i64 (m0 : Int)] 37)).alloc (.cells #[.slice A5 k'.length c5, .int .i64 (m1 : Int)] 37)) = W6 at HMS ⊢
  generalize (w5.heap.size + 1) = GA at HMS ⊢
  generalize w5.heap.size = GB at HMS ⊢
  rotate_left
  have HMS : Hid (MS w (((((((w5.alloc (.cells #[.slice none 0 0, .int .i64 0] 37)).setCell ⟨W4.heap.size, 0, none⟩ (.slice A5 k'.length c5))).setCell ⟨W4.heap.size, 1, none⟩ (.int .i64 (m1 : Int))).setCell ⟨w5.heap.size, 0, none⟩ (.slice A6 k2.length c6))).setCell ⟨w5.heap.size, 1, none⟩ (.int .i64 (m0 : Int))) o0 o1 m0 m1 l0 l1 l0 l1 B p0 p1 (.slice A0 l0.length c0) (.slice A1 l1.length c1) (.int .u8 K) (.int .i64 X) (.bool true) (.slice none 0 0) (.int .i64 0) (.slice none 0 0) (.int .i64 0) (.slice A5 k'.length c5) (.slice A6 k2.length c6) k' k2 W4.heap.size w5.heap.size #[.slice A5 k'.length c5, .int .i64 (m1 : Int)] #[.slice A6 k2.length c6, .int .i64 (m0 : Int)]) := Lib.hid (((MS.mk1 (cb := #[.slice none 0 0, .int .i64 0]) HST5.out HRA.out HRB.out HNA5.out HLT.out).setA).setB)
  generalize ((((((w5.alloc (.cells #[.slice none 0 0, .int .i64 0] 37)).setCell ⟨W4.heap.size, 0, none⟩ (.slice A5 k'.length c5))).setCell ⟨W4.heap.size, 1, none⟩ (.int .i64 (m1 : Int))).setCell ⟨w5.heap.size, 0, none⟩ (.slice A6 k2.length c6))).setCell ⟨w5.heap.size, 1, none⟩ (.int .i64 (m0 : Int)) = W6 at HMS ⊢
  generalize W4.heap.size = GA at HMS ⊢
  generalize w5.heap.size = GB at HMS ⊢
  rotate_left
  have HMS : Hid (MS w ((((((w5.setCell ⟨W4.heap.size, 0, none⟩ (.slice A5 k'.length c5))).setCell ⟨W4.heap.size, 1, none⟩ (.int .i64 (m1 : Int))).setCell ⟨(W4.heap.size + 1), 0, none⟩ (.slice A6 k2.length c6))).setCell ⟨(W4.heap.size + 1), 1, none⟩ (.int .i64 (m0 : Int))) o0 o1 m0 m1 l0 l1 l0 l1 B p0 p1 (.slice A0 l0.length c0) (.slice A1 l1.length c1) (.int .u8 K) (.int .i64 X) (.bool true) (.slice none 0 0) (.int .i64 0) (.slice none 0 0) (.int .i64 0) (.slice A5 k'.length c5) (.slice A6 k2.length c6) k' k2 W4.heap.size (W4.heap.size + 1) #[.slice A5 k'.length c5, .int .i64 (m1 : Int)] #[.slice A6 k2.length c6, .int .i64 (m0 : Int)]) := Lib.hid (((MS.mk HST5.out HRA.out HRB.out HNA5.out HNB5.out (by omega) HLT.out (Nat.lt_succ_of_lt HLT.out)).setA).setB)
  generalize (((((w5.setCell ⟨W4.heap.size, 0, none⟩ (.slice A5 k'.length c5))).setCell ⟨W4.heap.size, 1, none⟩ (.int .i64 (m1 : Int))).setCell ⟨(W4.heap.size + 1), 0, none⟩ (.slice A6 k2.length c6))).setCell ⟨(W4.heap.size + 1), 1, none⟩ (.int .i64 (m0 : Int)) = W6 at HMS ⊢
  generalize (W4.heap.size + 1) = GB at HMS ⊢
  generalize W4.heap.size = GA at HMS ⊢
  rotate_left
  have HMS : Hid (MS w ((((w5.alloc (.cells #[.slice A5 k'.length c5, .int .i64 (m1 : Int)] 37)).setCell ⟨W4.heap.size, 0, none⟩ (.slice A6 k2.length c6))).setCell ⟨W4.heap.size, 1, none⟩ (.int .i64 (m0 : Int))) o0 o1 m0 m1 l0 l1 l0 l1 B p0 p1 (.slice A0 l0.length c0) (.slice A1 l1.length c1) (.int .u8 K) (.int .i64 X) (.bool true) (.slice none 0 0) (.int .i64 0) (.slice none 0 0) (.int .i64 0) (.slice A5 k'.length c5) (.slice A6 k2.length c6) k' k2 w5.heap.size W4.heap.size #[.slice A5 k'.length c5, .int .i64 (m1 : Int)] #[.slice A6 k2.length c6, .int .i64 (m0 : Int)]) := Lib.hid ((MS.mk1' HST5.out HRA.out HRB.out HNA5.out HLT.out).setB)
  generalize (((w5.alloc (.cells #[.slice A5 k'.length c5, .int .i64 (m1 : Int)] 37)).setCell ⟨W4.heap.size, 0, none⟩ (.slice A6 k2.length c6))).setCell ⟨W4.heap.size, 1, none⟩ (.int .i64 (m0 : Int)) = W6 at HMS ⊢
  generalize w5.heap.size = GA at HMS ⊢
  generalize W4.heap.size = GB at HMS ⊢
  rotate_left
  have HMS : Hid (MS w ((((((w5.setCell ⟨(W4.heap.size + 1), 0, none⟩ (.slice A5 k'.length c5))).setCell ⟨(W4.heap.size + 1), 1, none⟩ (.int .i64 (m1 : Int))).setCell ⟨W4.heap.size, 0, none⟩ (.slice A6 k2.length c6))).setCell ⟨W4.heap.size, 1, none⟩ (.int .i64 (m0 : Int))) o0 o1 m0 m1 l0 l1 l0 l1 B p0 p1 (.slice A0 l0.length c0) (.slice A1 l1.length c1) (.int .u8 K) (.int .i64 X) (.bool true) (.slice none 0 0) (.int .i64 0) (.slice none 0 0) (.int .i64 0) (.slice A5 k'.length c5) (.slice A6 k2.length c6) k' k2 (W4.heap.size + 1) W4.heap.size #[.slice A5 k'.length c5, .int .i64 (m1 : Int)] #[.slice A6 k2.length c6, .int .i64 (m0 : Int)]) := Lib.hid (((MS.mk HST5.out HRA.out HRB.out HNB5.out HNA5.out (by omega) (Nat.lt_succ_of_lt HLT.out) HLT.out).setA).setB)
  generalize (((((w5.setCell ⟨(W4.heap.size + 1), 0, none⟩ (.slice A5 k'.length c5))).setCell ⟨(W4.heap.size + 1), 1, none⟩ (.int .i64 (m1 : Int))).setCell ⟨W4.heap.size, 0, none⟩ (.slice A6 k2.length c6))).setCell ⟨W4.heap.size, 1, none⟩ (.int .i64 (m0 : Int)) = W6 at HMS ⊢
  generalize (W4.heap.size + 1) = GA at HMS ⊢
  generalize W4.heap.size = GB at HMS ⊢
  rotate_left
  all_goals (try clear al0)
  all_goals (try clear al1)
  all_goals (try clear al2)
  all_goals (try clear al3)
  all_goals (try clear na0)
  all_goals (try clear na1)
  all_goals (try clear fna0)
  all_goals (try clear fna1)
  all_goals (try clear nb0)
  all_goals (try clear nb1)
  all_goals (try clear fnb0)
  all_goals (try clear fnb1)
  all_goals (try clear nnx)
  all_goals (try clear nmx)
  all_goals (try clear nnna)
  all_goals (try clear nmna)
  all_goals (try clear nnnb)
  all_goals (try clear nmnb)
  all_goals (try clear q1)
  all_goals (try clear q2)
  all_goals (try clear q3)
  all_goals (try clear q4)
  all_goals (try clear q5)
  all_goals (try clear q6)
  all_goals (try clear HNA5)
  all_goals (try clear HNB5)
  all_goals (try clear HST5)
  all_goals (try clear HRA)
  all_goals (try clear HRB)
  all_goals (try clear HST)
  all_goals (try clear HST1)
  all_goals (try clear HST2)
  all_goals (try clear HST3)
  all_goals (try clear HNA)
  all_goals (try clear HNA2)
  all_goals (try clear HNB2)
  all_goals (try clear HLT)
  all_goals
    have hs0 := HMS.out.four (But.refl _ W6)
    have hsa := HMS.out.four (two_but W6 (B + 1) 0 1 (.slice A6 k2.length c6) (.int .i64 (m0 : Int)))
    have hsb := HMS.out.four (two_but W6 (B + 1) 2 3 (.slice A5 k'.length c5) (.int .i64 (m1 : Int)))
    have hsab := HMS.out.four ((two_but W6 (B + 1) 0 1 (.slice A6 k2.length c6) (.int .i64 (m0 : Int))).trans (two_but _ (B + 1) 2 3 (.slice A5 k'.length c5) (.int .i64 (m1 : Int))))
    have hsba := HMS.out.four ((two_but W6 (B + 1) 2 3 (.slice A5 k'.length c5) (.int .i64 (m1 : Int))).trans (two_but _ (B + 1) 0 1 (.slice A6 k2.length c6) (.int .i64 (m0 : Int))))
    have HS0 := Lib.hid hs0
    have HSA := Lib.hid hsa
    have HSB := Lib.hid hsb
    have HSAB := Lib.hid hsab
    have HSBA := Lib.hid hsba
    clear hs0 hsa hsb hsab hsba HRM
    obtain ⟨d0, d1, d2, d3⟩ := four_cells HMS.out.st.b1
    have f0 := blk_frozen HMS.out.st.b1 0
    have f1 := blk_frozen HMS.out.st.b1 1
    have f2 := blk_frozen HMS.out.st.b1 2
    have f3 := blk_frozen HMS.out.st.b1 3
    go_upto_region 16 with (fail)
    go_region_held3 (fun W => W.cell? ⟨GA, 0, none⟩ = some (.slice A5 k'.length c5) ∧ W.cell? ⟨GA, 1, none⟩ = some (.int .i64 (m1 : Int)) ∧ W.cell? ⟨GB, 0, none⟩ = some (.slice A6 k2.length c6) ∧ W.cell? ⟨GB, 1, none⟩ = some (.int .i64 (m0 : Int))) (first | with_reducible exact HS0.out | with_reducible exact HSA.out | with_reducible exact HSB.out | with_reducible exact HSAB.out | with_reducible exact HSBA.out | fail) (fail)
    all_goals (first | (obtain ⟨W7, hW7⟩ : ∃ W7, W7 = ((((W6.setCell ⟨B + 1, 0, none⟩ (.slice A6 k2.length c6)).setCell ⟨B + 1, 1, none⟩ (.int .i64 (m0 : Int))).setCell ⟨B + 1, 2, none⟩ (.slice A5 k'.length c5)).setCell ⟨B + 1, 3, none⟩ (.int .i64 (m1 : Int))).drew := ⟨_, rfl⟩; rw [← hW7]; have HST7 := Lib.hid HMS.out.swap.done01.drew; rw [← hW7] at HST7) | (obtain ⟨W7, hW7⟩ : ∃ W7, W7 = ((((W6.setCell ⟨B + 1, 2, none⟩ (.slice A5 k'.length c5)).setCell ⟨B + 1, 3, none⟩ (.int .i64 (m1 : Int))).setCell ⟨B + 1, 0, none⟩ (.slice A6 k2.length c6)).setCell ⟨B + 1, 1, none⟩ (.int .i64 (m0 : Int))).drew := ⟨_, rfl⟩; rw [← hW7]; have HST7 := Lib.hid HMS.out.swap.done10.drew; rw [← hW7] at HST7))
    all_goals
      clear hW7 d0 d1 d2 d3 f0 f1 f2 f3 HMS HS0 HSA HSB HSAB HSBA
      have HST8 := Lib.hid HST7.out.drew
      clear HST7
      go_upto_region 17 with (fail)
      have hKK : ((KK : Int) == (KK : Int)) = true := beq_self_eq_true _
      go_region_held3 (fun W => W.cell? ⟨B + 1, 0, none⟩ = some (.slice A6 k2.length c6) ∧ W.cell? ⟨B + 1, 1, none⟩ = some (.int .i64 (m0 : Int)) ∧ W.cell? ⟨B + 1, 2, none⟩ = some (.slice A5 k'.length c5) ∧ W.cell? ⟨B + 1, 3, none⟩ = some (.int .i64 (m1 : Int)) ∧ W.cell? ⟨B, 0, none⟩ = some p0 ∧ W.cell? ⟨B, 1, none⟩ = some p1 ∧ W.cell? ⟨B + 1 + 1, 1, none⟩ = some (.int .i64 X)) (first | with_reducible exact ⟨(four_cells HST8.out.b1).1, (four_cells HST8.out.b1).2.1, (four_cells HST8.out.b1).2.2.1, (four_cells HST8.out.b1).2.2.2, (two_cells HST8.out.b0).1, (two_cells HST8.out.b0).2, (three_cells HST8.out.b2).2.1⟩ | with_reducible exact ⟨(four_cells HST9.out.b1).1, (four_cells HST9.out.b1).2.1, (four_cells HST9.out.b1).2.2.1, (four_cells HST9.out.b1).2.2.2, (two_cells HST9.out.b0).1, (two_cells HST9.out.b0).2, (three_cells HST9.out.b2).2.1⟩ | with_reducible exact ⟨(four_cells (HST9.out.out (a := (.slice A6 k2.length c6)) (b := .int .i64 (m0 : Int)) (c := (.slice A5 k'.length c5)) (d := .int .i64 (m1 : Int))).b1).1, (four_cells (HST9.out.out (a := (.slice A6 k2.length c6)) (b := .int .i64 (m0 : Int)) (c := (.slice A5 k'.length c5)) (d := .int .i64 (m1 : Int))).b1).2.1, (four_cells (HST9.out.out (a := (.slice A6 k2.length c6)) (b := .int .i64 (m0 : Int)) (c := (.slice A5 k'.length c5)) (d := .int .i64 (m1 : Int))).b1).2.2.1, (four_cells (HST9.out.out (a := (.slice A6 k2.length c6)) (b := .int .i64 (m0 : Int)) (c := (.slice A5 k'.length c5)) (d := .int .i64 (m1 : Int))).b1).2.2.2, (two_cells (HST9.out.out (a := (.slice A6 k2.length c6)) (b := .int .i64 (m0 : Int)) (c := (.slice A5 k'.length c5)) (d := .int .i64 (m1 : Int))).b0).1, (two_cells (HST9.out.out (a := (.slice A6 k2.length c6)) (b := .int .i64 (m0 : Int)) (c := (.slice A5 k'.length c5)) (d := .int .i64 (m1 : Int))).b0).2, (three_cells (HST9.out.out (a := (.slice A6 k2.length c6)) (b := .int .i64 (m0 : Int)) (c := (.slice A5 k'.length c5)) (d := .int .i64 (m1 : Int))).b2).2.1⟩ | fail) (first | (go_at_call 20; (with_reducible refine (HQM.out _ HST8.out.q1 HST8.out.q0).mono ?_); rintro e w9 ⟨rfl, hq9, hq9', hb9⟩; (have HST9 := Lib.hid (HST8.out.turn (hb9.mono fun k hk => hk.symm) hq9' hq9)); (obtain ⟨z0, z1, z2, z3⟩ := four_cells HST9.out.b3); (have f0 := blk_frozen HST9.out.b3 0); (have f1 := blk_frozen HST9.out.b3 1); (have f2 := blk_frozen HST9.out.b3 2); (have f3 := blk_frozen HST9.out.b3 3); (clear hq9 hq9' hb9 HST8)))
      all_goals
        go_wp2_with fail
        refine bodyPost_ret (results_ct rfl _ _ (B + 1 + 1 + 1) 38 #[(.slice A6 k2.length c6), .int .i64 (m0 : Int), (.slice A5 k'.length c5), .int .i64 (m1 : Int)] (0, 0) _ rfl (HST9.out.out (a := (.slice A6 k2.length c6)) (b := .int .i64 (m0 : Int)) (c := (.slice A5 k'.length c5)) (d := .int .i64 (m1 : Int))).b3 Try.underlying38 rfl (by kernel_rfl)) rfl ?_
        exact ⟨_, _, _, _, rfl, HST9.out.out.q0, HST9.out.out.q1, HST9.out.out.r0, HST9.out.out.r1, HST9.out.out.old⟩
end Go.Proofs.YtfoenpdfmhmkiaaPlay
