/- The document's queue: Push where there is room: for any list that fits. -/
import Derived.Test.YtfoenpdfmhmkiaaPlayB
set_option linter.unusedVariables false
set_option linter.unusedSimpArgs false
namespace Go.Proofs.YtfoenpdfmhmkiaaPlay
open Go.RowKit Go.Proofs.YtfoenpdfmhmkiaaW.PrintWords Go.Proofs.YtfoenpdfmhmkiaaW.PrintLast Go.Proofs.YtfoenpdfmhmkiaaW.PrintMore Go.Proofs.YtfoenpdfmhmkiaaW.HKit Go.Proofs.YtfoenpdfmhmkiaaW.But Go.Proofs.Ytfoenpdfmhmkiaa.PQueuePlays
theorem far_blk {W0 W w1 : World} {row : Option Nat} (hb : Below W0.heap.size W0 W) (hgr : W.grownBy w1 row) (hrow : ∀ g, row = some g → W0.heap.size ≤ g) {g : Nat} {o : Obj} (hc : W0.heap[g]? = some o) : w1.heap[g]? = some o := by
  have hlt := blk_lt hc
  exact blk_grown ((But.of_below (fun _ => False) hb).heap hc (fun h => h)) hgr (fun e => by have := hrow _ e.symm; omega)
theorem one_C {W : World} {g : Nat} {x : Int} (h : W.heap[g]? = some (.cells #[.int .i64 x] 3 (0, 0))) : Kd.C (Kd.int .i64) W (some ⟨g, 0, none⟩) 1 [x] := by
  refine Kd.C_of_reads (enc := Value.int .i64) (d := (0 : Int)) (h1 := fun _ => rfl) ⟨rfl, by decide, fun _ => ⟨_, rfl, fun j hj => ?_⟩⟩
  obtain rfl : j = 0 := by omega
  have := blk_cell h 0
  simpa [Addr.add] using this
theorem row_ge {g B : Nat} {row : Option Nat} (h : row = some g) (hB : B ≤ g) : ∀ k, row = some k → B ≤ k := by
  rintro k hk
  rw [h] at hk
  injection hk with hk
  omega
theorem blk_alloc_ {W : World} {g : Nat} {o : Obj} (h : W.heap[g]? = some o) (o' : Obj) : (W.alloc o').heap[g]? = some o := (But.of_below (fun _ => False) (below_alloc (Below.refl _ W) o')).heap h (fun h => h)
theorem blk_new2 (W : World) (o o' : Obj) : ((W.alloc o).alloc o').heap[W.heap.size + 1]? = some o' := by
  have h := heap_alloc_new (W.alloc o) o'
  rwa [show (W.alloc o).heap.size = W.heap.size + 1 by simp] at h
theorem own_alloc {W : World} {B n : Nat} {v : Value} {xs : List Value} (h : W.ownsRow B 3 1 v n xs) (o : Obj) : (W.alloc o).ownsRow B 3 1 v n xs := (But.of_below (fun _ => False) (below_alloc (Below.refl _ W) o)).own h (fun _ _ h => h)
set_option maxHeartbeats 8000000 in
set_option maxRecDepth 100000 in
/-- The document's Push where there is room. -/
theorem rpush_room (A : Option Addr) (c : Nat) (x : Int) (l : List Int) (m : Int) (w : World) (hr : Kd.C (Kd.int .i64) w A l.length l) (hc : l.length ≤ c) (hn : l.length ≤ 100000) (hm : (l.length : Int) < m) :
    Calls Try.prog 25 #[.agg #[.slice A l.length c, .int .i64 m], .int .i64 x] w fun e w' => ∃ v, e = .returned (.tuple #[.agg #[v, .int .i64 m], .bool true]) ∧ w'.ownsRow w.heap.size 3 1 v (l ++ [x]).length (nums .i64 (l ++ [x])) ∧ Below w.heap.size w w' := by
  have HR := Lib.hid hr
  have hd1 : decide (m ≤ (l.length : Int)) = false := decide_eq_false (by omega)
  have hln : (l ++ [x]).length = l.length + 1 := by simp
  have HLN := Lib.hid hln
  clear hm hr hln
  obtain ⟨W2, hW2⟩ : ∃ W2, W2 = (w.alloc (.cells #[.slice A l.length c, .int .i64 m] 37)).alloc (.cells #[.slice none 0 0, .int .i64 0] 37) := ⟨_, rfl⟩
  obtain ⟨hb2, hg, hz⟩ := two_allocs hW2
  go_enter Try.func25, Try.ntmps25
  go_upto_region 3 with (fail)
  rw [← hW2]
  clear hW2
  have hg1 : W2.drew.heap[w.heap.size]? = some (.cells #[.slice A l.length c, .int .i64 m] 37 (0, 0)) := hg
  have hs0 := blk_cell hg1 0
  have hs1 := blk_cell hg1 1
  simp only [List.getElem?_toArray, List.getElem?_cons_zero, List.getElem?_cons_succ] at hs0 hs1
  have hz1 : W2.drew.heap[w.heap.size + 1]? = some (.cells #[.slice none 0 0, .int .i64 0] 37 (0, 0)) := hz
  have hb1 : Below w.heap.size w W2.drew := below_drew hb2
  have HB := Lib.hid hb1
  have HZ := Lib.hid hz1
  have HG := Lib.hid hg1
  have HS0 := Lib.hid hs0
  have HS1 := Lib.hid hs1
  clear hb2 hg hz hb1 hz1 hg1
  have k1 : ∀ o : Obj, Below W2.drew.heap.size W2.drew (W2.drew.alloc o) := fun o => below_alloc (Below.refl _ _) o
  have k2 : ∀ o o' : Obj, Below W2.drew.heap.size W2.drew ((W2.drew.alloc o).alloc o') := fun o o' => Below.alloc (k1 o) (by simp) o'
  have K1 := Lib.hid k1
  have K2 := Lib.hid k2
  clear k1 k2
  go_region_held3 (fun W => W.cell? ⟨w.heap.size, 0, none⟩ = some (.slice A l.length c) ∧ W.cell? ⟨w.heap.size, 1, none⟩ = some (.int .i64 m)) (first | exact ⟨hs0, hs1⟩ | exact ⟨pw_cell_below (K1.out _) hs0, pw_cell_below (K1.out _) hs1⟩ | exact ⟨pw_cell_below (K2.out _ _) hs0, pw_cell_below (K2.out _ _) hs1⟩ | exact ⟨e0', e1'⟩ | exact ⟨set2_cell (by simp) e0', set2_cell (by simp) e1'⟩ | exact ⟨e0, e1⟩ | exact ⟨pw_cell_below (below_alloc (Below.refl _ _) _) e0, pw_cell_below (below_alloc (Below.refl _ _) _) e1⟩) (first | (((refine step_append_row (W := W2.drew.alloc (.cells #[] 3)) w.heap.size rfl (.tmp 13) (.tmp 15) 35 3 .i64 8 rfl Try.underlying35 info3 (by decide) (.slice (some ⟨W2.heap.size, 0, none⟩) 0 0) [] l A l.length c (by rfl) (by rfl) (own_lit [] (heap_alloc_new W2.drew (.cells #[] 3)) (Nat.le_trans HB.out.size (Nat.le_refl _)) (by decide)) (Kd.C_below HR.out (HB.out.trans (Below.mono (K1.out _) HB.out.size))) (HB.out.trans (Below.mono (K1.out _) HB.out.size)) (Nat.le_trans HB.out.size (Below.size (K1.out _))) (by simp; omega) (fun v1 w1 h1 hb hgr hat => ?_)); (have hg' := far_blk (K1.out _) hgr (row_ge rfl (Nat.le_refl _)) HG.out); (have hz' := far_blk (K1.out _) hgr (row_ge rfl (Nat.le_refl _)) HZ.out); (have e0 := blk_cell hg' 0); (have e1 := blk_cell hg' 1); (simp only [List.getElem?_toArray, List.getElem?_cons_zero, List.getElem?_cons_succ] at e0 e1); (have HZ1 := Lib.hid hz'); (have HG1 := Lib.hid hg'); (have HO1 := Lib.hid h1); (have HB1 := Lib.hid hb); (obtain ⟨A1, c1, rfl, _⟩ := own_reads h1); (clear h1 hb hgr hat hz' hg' HZ HB HG HR K1 K2))) | (((refine step_append_row (W := (W2.drew.alloc (.cells #[] 3)).alloc (.cells #[.int .i64 x] 3)) w.heap.size rfl (.tmp 13) (.tmp 15) 35 3 .i64 8 rfl Try.underlying35 info3 (by decide) (.slice (some ⟨W2.heap.size, 0, none⟩) 0 0) [] l A l.length c (by rfl) (by rfl) (own_lit [] (blk_alloc_ (heap_alloc_new W2.drew (.cells #[] 3)) (.cells #[.int .i64 x] 3)) (Nat.le_trans HB.out.size (Nat.le_refl _)) (by decide)) (Kd.C_below HR.out (HB.out.trans (Below.mono (K2.out _ _) HB.out.size))) (HB.out.trans (Below.mono (K2.out _ _) HB.out.size)) (Nat.le_trans HB.out.size (Below.size (K2.out _ _))) (by simp; omega) (fun v1 w1 h1 hb hgr hat => ?_)); (have hg' := far_blk (K2.out _ _) hgr (row_ge rfl (Nat.le_refl _)) HG.out); (have hz' := far_blk (K2.out _ _) hgr (row_ge rfl (Nat.le_refl _)) HZ.out); (have e0 := blk_cell hg' 0); (have e1 := blk_cell hg' 1); (simp only [List.getElem?_toArray, List.getElem?_cons_zero, List.getElem?_cons_succ] at e0 e1); (have hx1 := blk_grown (g := W2.heap.size + 1) (o := .cells #[.int .i64 x] 3 (0, 0)) (blk_new2 W2.drew (.cells #[] 3) (.cells #[.int .i64 x] 3)) hgr (by simp [Value.ownBlock])); (have HX1 := Lib.hid hx1); (clear hx1); (have HZ1 := Lib.hid hz'); (have HG1 := Lib.hid hg'); (have HO1 := Lib.hid h1); (have HB1 := Lib.hid hb); (obtain ⟨A1, c1, rfl, _⟩ := own_reads h1); (clear h1 hb hgr hat hz' hg' HZ HB HG HR K1 K2))) | (((refine step_append_row (W := (W2.drew.alloc (.cells #[.int .i64 x] 3)).alloc (.cells #[] 3)) w.heap.size rfl (.tmp 13) (.tmp 15) 35 3 .i64 8 rfl Try.underlying35 info3 (by decide) (.slice (some ⟨W2.heap.size + 1, 0, none⟩) 0 0) [] l A l.length c (by rfl) (by rfl) (own_lit [] (blk_new2 W2.drew (.cells #[.int .i64 x] 3) (.cells #[] 3)) (Nat.le_trans HB.out.size (Nat.le_succ _)) (by decide)) (Kd.C_below HR.out (HB.out.trans (Below.mono (K2.out _ _) HB.out.size))) (HB.out.trans (Below.mono (K2.out _ _) HB.out.size)) (Nat.le_trans HB.out.size (Below.size (K2.out _ _))) (by simp; omega) (fun v1 w1 h1 hb hgr hat => ?_)); (have hg' := far_blk (K2.out _ _) hgr (row_ge rfl (Nat.le_succ _)) HG.out); (have hz' := far_blk (K2.out _ _) hgr (row_ge rfl (Nat.le_succ _)) HZ.out); (have e0 := blk_cell hg' 0); (have e1 := blk_cell hg' 1); (simp only [List.getElem?_toArray, List.getElem?_cons_zero, List.getElem?_cons_succ] at e0 e1); (have hx1 := blk_grown (g := W2.heap.size) (o := .cells #[.int .i64 x] 3 (0, 0)) (blk_alloc_ (heap_alloc_new W2.drew (.cells #[.int .i64 x] 3)) (.cells #[] 3)) hgr (by simp [Value.ownBlock])); (have HX1 := Lib.hid hx1); (clear hx1); (have HZ1 := Lib.hid hz'); (have HG1 := Lib.hid hg'); (have HO1 := Lib.hid h1); (have HB1 := Lib.hid hb); (obtain ⟨A1, c1, rfl, _⟩ := own_reads h1); (clear h1 hb hgr hat hz' hg' HZ HB HG HR K1 K2))) | (((refine step_append_row (W := w1.alloc (.cells #[.int .i64 x] 3)) w.heap.size rfl (.tmp 16) (.tmp 18) 35 3 .i64 8 rfl Try.underlying35 info3 (by decide) (.slice A1 ([] ++ l).length c1) l [x] (some ⟨w1.heap.size, 0, none⟩) 1 1 (by rfl) (by rfl) (own_alloc HO1.out _) (one_C (heap_alloc_new w1 (.cells #[.int .i64 x] 3))) (HB1.out.trans (Below.mono (below_alloc (Below.refl _ w1) (.cells #[.int .i64 x] 3)) HB1.out.size)) (Below.size (HB1.out.trans (Below.mono (below_alloc (Below.refl _ w1) (.cells #[.int .i64 x] 3)) HB1.out.size))) (by omega) (fun v2 w2 h2 hb2 hgr2 hat2 => ?_)); (have hg2 := blk_grown (blk_alloc_ HG1.out (.cells #[.int .i64 x] 3)) hgr2 (own_ne (own_alloc HO1.out _) (blk_alloc_ HG1.out (.cells #[.int .i64 x] 3)) (by decide))); (have hz2 := blk_grown (blk_alloc_ HZ1.out (.cells #[.int .i64 x] 3)) hgr2 (own_ne (own_alloc HO1.out _) (blk_alloc_ HZ1.out (.cells #[.int .i64 x] 3)) (by decide))); (have e0' := blk_cell hg2 0); (have e1' := blk_cell hg2 1); (simp only [List.getElem?_toArray, List.getElem?_cons_zero, List.getElem?_cons_succ] at e0' e1'); (have z0 := blk_cell hz2 0); (have z1 := blk_cell hz2 1); (simp only [List.getElem?_toArray, List.getElem?_cons_zero, List.getElem?_cons_succ] at z0 z1); (have f0 := blk_frozen hz2 0); (have f1 := blk_frozen hz2 1); (have HZ2 := Lib.hid hz2); (have HO2 := Lib.hid h2); (have HB2 := Lib.hid hb2); (obtain ⟨A2, c2, rfl, _⟩ := own_reads h2); (clear h2 hb2 hgr2 hat2 hz2 hg2 HO1 HB1 HZ1 HG1))) | (((refine step_append_row (W := w1) w.heap.size rfl (.tmp 16) (.tmp 18) 35 3 .i64 8 rfl Try.underlying35 info3 (by decide) (.slice A1 ([] ++ l).length c1) l [x] (some ⟨W2.heap.size + 1, 0, none⟩) 1 1 (by rfl) (by rfl) HO1.out (one_C HX1.out) HB1.out (Below.size HB1.out) (by omega) (fun v2 w2 h2 hb2 hgr2 hat2 => ?_)); (have hg2 := blk_grown HG1.out hgr2 (own_ne HO1.out HG1.out (by decide))); (have hz2 := blk_grown HZ1.out hgr2 (own_ne HO1.out HZ1.out (by decide))); (have e0' := blk_cell hg2 0); (have e1' := blk_cell hg2 1); (simp only [List.getElem?_toArray, List.getElem?_cons_zero, List.getElem?_cons_succ] at e0' e1'); (have z0 := blk_cell hz2 0); (have z1 := blk_cell hz2 1); (simp only [List.getElem?_toArray, List.getElem?_cons_zero, List.getElem?_cons_succ] at z0 z1); (have f0 := blk_frozen hz2 0); (have f1 := blk_frozen hz2 1); (have HZ2 := Lib.hid hz2); (have HO2 := Lib.hid h2); (have HB2 := Lib.hid hb2); (obtain ⟨A2, c2, rfl, _⟩ := own_reads h2); (clear h2 hb2 hgr2 hat2 hz2 hg2 HO1 HB1 HZ1 HG1 HX1))) | (((refine step_append_row (W := w1) w.heap.size rfl (.tmp 16) (.tmp 18) 35 3 .i64 8 rfl Try.underlying35 info3 (by decide) (.slice A1 ([] ++ l).length c1) l [x] (some ⟨W2.heap.size, 0, none⟩) 1 1 (by rfl) (by rfl) HO1.out (one_C HX1.out) HB1.out (Below.size HB1.out) (by omega) (fun v2 w2 h2 hb2 hgr2 hat2 => ?_)); (have hg2 := blk_grown HG1.out hgr2 (own_ne HO1.out HG1.out (by decide))); (have hz2 := blk_grown HZ1.out hgr2 (own_ne HO1.out HZ1.out (by decide))); (have e0' := blk_cell hg2 0); (have e1' := blk_cell hg2 1); (simp only [List.getElem?_toArray, List.getElem?_cons_zero, List.getElem?_cons_succ] at e0' e1'); (have z0 := blk_cell hz2 0); (have z1 := blk_cell hz2 1); (simp only [List.getElem?_toArray, List.getElem?_cons_zero, List.getElem?_cons_succ] at z0 z1); (have f0 := blk_frozen hz2 0); (have f1 := blk_frozen hz2 1); (have HZ2 := Lib.hid hz2); (have HO2 := Lib.hid h2); (have HB2 := Lib.hid hb2); (obtain ⟨A2, c2, rfl, _⟩ := own_reads h2); (clear h2 hb2 hgr2 hat2 hz2 hg2 HO1 HB1 HZ1 HG1 HX1))))
  all_goals
    go_wp2_with fail
    refine bodyPost_ret (results_ct rfl _ _ (w.heap.size + 1) 37 #[.slice A2 (l.length + 1) c2, .int .i64 m] (0, 0) _ rfl (set2_blk HZ2.out) Try.underlying37 rfl (by kernel_rfl)) rfl ?_
    have h := set2_own (u0 := .slice A2 (l.length + 1) c2) (u1 := .int .i64 m) HO2.out HZ2.out (by decide)
    rw [HLN.out] at h
    rw [HLN.out]
    exact ⟨_, rfl, h, set2_below HB2.out (Nat.le_succ _)⟩
end Go.Proofs.YtfoenpdfmhmkiaaPlay
