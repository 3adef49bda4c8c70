/- Take, with what it turns: each way walked once; then one contract over the document's words. -/
import Derived.Test.YtddchfjdekfekaaHand
import Derived.Test.YtddchfjdekfekaaRws
set_option linter.unusedVariables false
set_option linter.unusedSimpArgs false
namespace Go.Proofs.Ytddchfjdekfekaa.Hand
open Go.RowKit Go.Proofs.YtddchfjdekfekaaW.PrintWords Go.Proofs.YtddchfjdekfekaaW.PrintLast Go.Proofs.YtddchfjdekfekaaW.PrintMore Go.Proofs.YtddchfjdekfekaaW.HKit Go.Proofs.YtddchfjdekfekaaW.Mv Go.Proofs.YtddchfjdekfekaaW.Rws
/-- A sink's block, its row; both lie in F. -/
def SinkV (w : World) (B : Nat) (F : Nat → Prop) (g : Nat) (v : Value) (xs : List Int) (room : Int) (bound : Bool) : Prop :=
  w.heap[g]? = some (.cells #[v, .int .i64 room, .bool bound] 45 (0, 0)) ∧ B ≤ g ∧ w.ownsRow B 5 1 v xs.length (nums .u8 xs) ∧ F g ∧ (∀ q, v.ownBlock = some q → F q) ∧ ∀ q, F q → q < w.heap.size
theorem take_close {w w1 w2 : World} {B g : Nat} {F : Nat → Prop} {v v1 : Value} {xs zs : List Int} {room room' : Int} {bound : Bool} (hS : SinkV w B F g v xs room bound) (ho : w1.ownsRow B 5 1 v1 zs.length (nums .u8 zs)) (hgr : w.grownBy w1 v.ownBlock)
    (hat : v1.ownBlock = v.ownBlock ∨ ∃ b, v1.ownBlock = some b ∧ w.heap.size ≤ b) (hz : w2.heap.size = w1.heap.size) (hne : ∀ q, q ≠ g → w2.heap[q]? = w1.heap[q]?) (hg2 : w2.heap[g]? = some (.cells #[v1, .int .i64 room', .bool bound] 45 (0, 0))) :
    ∃ F', (∃ v2, SinkV w2 B F' g v2 zs room' bound) ∧ Moved w w2 F F' := by
  obtain ⟨hg, hB, hown, f1, f2, f3⟩ := hS
  have hsz := hgr.size
  have hg1 : w1.heap[g]? = w.heap[g]? := hgr.block g (blk_lt hg) (own_ne hown hg (by decide))
  have hv1g : some g ≠ v1.ownBlock := own_ne ho (hg1.trans hg) (by decide)
  refine ⟨fun q => F q ∨ v1.ownBlock = some q, ⟨v1, hg2, hB, own_stays ho fun q hq => hne q fun e => hv1g (by rw [hq, e]), .inl f1, fun q hq => .inr hq, ?_⟩, by omega, ?_, ?_⟩
  · rintro q (hq | hq)
    · have := f3 q hq; omega
    · have := own_lt ho q hq; omega
  · intro i hi hn
    exact (hne i fun e => hn (e ▸ f1)).trans (hgr.block i hi fun e => hn (f2 i e.symm))
  · rintro q (hq | hq)
    · exact .inl hq
    · rcases hat with hat | ⟨b, hat, hb⟩
      · exact .inl (f2 q (hat.symm.trans hq))
      · rw [hat] at hq
        injection hq with hq
        exact .inr (by omega)
set_option maxHeartbeats 4000000 in
set_option maxRecDepth 100000 in
theorem takeF_free (g : Nat) (F : Nat → Prop) (v : Value) (A : Option Addr) (n c : Nat) (xs ys : List Int) (room : Int) (w : World) (B : Nat) (hS : SinkV w B F g v xs room false) (hr : Kd.C (Kd.int .u8) w A n ys) (hc : n ≤ c) (hlen : xs.length + n ≤ 140737488355328) :
    Calls Try.prog 10 #[.pointer (some ⟨g, 0, none⟩), .slice A n c] w fun e w' => ∃ F', e = .returned (.tuple #[.int .i64 (n : Int), .int .u8 0]) ∧ (∃ v2, SinkV w' B F' g v2 (xs ++ ys) room false) ∧ Moved w w' F F' ∧ Below B w w' := by
  have HS := Aside0.mk hS
  have HCl := Aside0.mk (fun w1 w2 v1 zs room' => take_close (w1 := w1) (w2 := w2) (v1 := v1) (zs := zs) (room' := room') hS)
  obtain ⟨hg, hBg, hown, _, _, _⟩ := hS
  have hB : B ≤ w.heap.size := Nat.le_of_lt (Nat.lt_of_le_of_lt hBg (blk_lt hg))
  have hn : n ≤ 9223372036854775807 := hr.2.1
  have c0 : w.cell? ⟨g, 0, none⟩ = some v := by rw [blk_cell hg]; rfl
  have c1 : w.cell? ⟨g, 1, none⟩ = some (.int .i64 room) := by rw [blk_cell hg]; rfl
  have c2 : w.cell? ⟨g, 2, none⟩ = some (.bool false) := by rw [blk_cell hg]; rfl
  have f0 : w.frozen? ⟨g, 0, none⟩ = false := blk_frozen hg 0
  have hd : decide ((n : Int) < (n : Int)) = false := decide_eq_false (by omega)
  have HG := Aside0.mk hg
  have HO := Aside0.mk hown
  have HR := Aside0.mk hr
  clear hg hown hr
  go_enter Try.func10, Try.ntmps10
  go_wp2_with fail
  go_region_law (refine step_append_row (W := w.drew) B rfl (.tmp 31) (.tmp 34) 27 5 .u8 1 rfl Try.underlying27 byteInfo (by decide) v xs ys A n c (by simp [Act.eval, Act.put]) (by simp [Act.eval, Act.put]) HO.out HR.out (Below.refl B w.drew) hB (by omega) (fun v1 w1 h1 hb hgr hat => ?_); have hg1 := blk_grown (w := w.drew) HG.out hgr (own_ne (w := w.drew) HO.out HG.out (by decide)); obtain ⟨A1, c1', rfl, _⟩ := own_reads h1; have d0 := blk_cell hg1 0; have d1 := blk_cell hg1 1; have d2 := blk_cell hg1 2; have e0 := blk_frozen hg1 0; have e1 := blk_frozen hg1 1; have HW1 := Aside0.mk h1; have HG1 := Aside0.mk hg1; have HB1 := Aside0.mk hb; have HGR := Aside0.mk hgr; have HAT := Aside0.mk hat; clear h1 hg1 hb hgr hat c0 c1 c2 f0; simp only [List.getElem?_toArray, List.getElem?_cons_zero, List.getElem?_cons_succ] at d0 d1 d2)
  go_wp2_with fail
  go_ret2
  have hbw : Below B w w1 := ⟨HB1.out.os, HB1.out.tape, HB1.out.output, HB1.out.size, HB1.out.block⟩
  have hgw : w.grownBy w1 v.ownBlock := ⟨HGR.out.os, HGR.out.tape, HGR.out.output, HGR.out.size, HGR.out.block⟩
  obtain ⟨F', hS', hM'⟩ := HCl.out w1 _ _ (xs ++ ys) _ HW1.out hgw HAT.out (by simp [World.setCell]) (fun q hq => Below.heap_setCell w1 ⟨g, 0, none⟩ _ q hq) (blk_set HG1.out 0 _)
  refine ⟨F', rfl, ?_, ?_, ?_⟩
  · simpa using hS'
  · simpa using hM'
  · exact Below.setCell hbw (show B ≤ (⟨g, 0, none⟩ : Addr).block from hBg) _
set_option maxHeartbeats 4000000 in
set_option maxRecDepth 100000 in
theorem takeF_full (g : Nat) (F : Nat → Prop) (v : Value) (A : Option Addr) (n c : Nat) (xs ys : List Int) (room : Int) (hr0 : (n : Int) ≤ room) (hr1 : room ≤ 9223372036854775807) (w : World) (B : Nat) (hS : SinkV w B F g v xs room true) (hr : Kd.C (Kd.int .u8) w A n ys) (hc : n ≤ c) (hlen : xs.length + n ≤ 140737488355328) :
    Calls Try.prog 10 #[.pointer (some ⟨g, 0, none⟩), .slice A n c] w fun e w' => ∃ F', e = .returned (.tuple #[.int .i64 (n : Int), .int .u8 0]) ∧ (∃ v2, SinkV w' B F' g v2 (xs ++ ys) (room - n) true) ∧ Moved w w' F F' ∧ Below B w w' := by
  have HS := Aside0.mk hS
  have HCl := Aside0.mk (fun w1 w2 v1 zs room' => take_close (w1 := w1) (w2 := w2) (v1 := v1) (zs := zs) (room' := room') hS)
  obtain ⟨hg, hBg, hown, _, _, _⟩ := hS
  have hB : B ≤ w.heap.size := Nat.le_of_lt (Nat.lt_of_le_of_lt hBg (blk_lt hg))
  have hn : n ≤ 9223372036854775807 := hr.2.1
  have c0 : w.cell? ⟨g, 0, none⟩ = some v := by rw [blk_cell hg]; rfl
  have c1 : w.cell? ⟨g, 1, none⟩ = some (.int .i64 room) := by rw [blk_cell hg]; rfl
  have c2 : w.cell? ⟨g, 2, none⟩ = some (.bool true) := by rw [blk_cell hg]; rfl
  have f0 : w.frozen? ⟨g, 0, none⟩ = false := blk_frozen hg 0
  have hd : decide ((n : Int) < (n : Int)) = false := decide_eq_false (by omega)
  have hd1 : decide (room < (n : Int)) = false := decide_eq_false (by omega)
  have HG := Aside0.mk hg
  have HO := Aside0.mk hown
  have HR := Aside0.mk hr
  clear hg hown hr
  go_enter Try.func10, Try.ntmps10
  go_wp2_with fail
  go_region_law (refine step_append_row (W := w.drew) B rfl (.tmp 31) (.tmp 34) 27 5 .u8 1 rfl Try.underlying27 byteInfo (by decide) v xs ys A n c (by simp [Act.eval, Act.put]) (by simp [Act.eval, Act.put]) HO.out HR.out (Below.refl B w.drew) hB (by omega) (fun v1 w1 h1 hb hgr hat => ?_); have hg1 := blk_grown (w := w.drew) HG.out hgr (own_ne (w := w.drew) HO.out HG.out (by decide)); obtain ⟨A1, c1', rfl, _⟩ := own_reads h1; have d0 := blk_cell hg1 0; have d1 := blk_cell hg1 1; have d2 := blk_cell hg1 2; have e0 := blk_frozen hg1 0; have e1 := blk_frozen hg1 1; have HW1 := Aside0.mk h1; have HG1 := Aside0.mk hg1; have HB1 := Aside0.mk hb; have HGR := Aside0.mk hgr; have HAT := Aside0.mk hat; clear h1 hg1 hb hgr hat c0 c1 c2 f0; simp only [List.getElem?_toArray, List.getElem?_cons_zero, List.getElem?_cons_succ] at d0 d1 d2)
  go_wp2_with fail
  go_ret2
  have hbw : Below B w w1 := ⟨HB1.out.os, HB1.out.tape, HB1.out.output, HB1.out.size, HB1.out.block⟩
  have hgw : w.grownBy w1 v.ownBlock := ⟨HGR.out.os, HGR.out.tape, HGR.out.output, HGR.out.size, HGR.out.block⟩
  obtain ⟨F', hS', hM'⟩ := HCl.out w1 _ _ (xs ++ ys) _ HW1.out hgw HAT.out (by simp [World.setCell]) (fun q hq => (Below.heap_setCell _ ⟨g, 1, none⟩ _ q hq).trans (Below.heap_setCell w1 ⟨g, 0, none⟩ _ q hq)) (blk_set (blk_set HG1.out 0 _) 1 _)
  refine ⟨F', rfl, ?_, ?_, ?_⟩
  · simpa using hS'
  · simpa using hM'
  · exact Below.setCell (Below.setCell hbw (show B ≤ (⟨g, 0, none⟩ : Addr).block from hBg) _) (show B ≤ (⟨g, 1, none⟩ : Addr).block from hBg) _
set_option maxHeartbeats 4000000 in
set_option maxRecDepth 100000 in
theorem takeF_short (g : Nat) (F : Nat → Prop) (v : Value) (A : Option Addr) (n c : Nat) (xs ys : List Int) (m : Nat) (hr0 : m < n) (w : World) (B : Nat) (hS : SinkV w B F g v xs (m : Int) true) (hr : Kd.C (Kd.int .u8) w A n ys) (hc : n ≤ c) (hlen : xs.length + n ≤ 140737488355328) :
    Calls Try.prog 10 #[.pointer (some ⟨g, 0, none⟩), .slice A n c] w fun e w' => ∃ F', e = .returned (.tuple #[.int .i64 (m : Int), .int .u8 14]) ∧ (∃ v2, SinkV w' B F' g v2 (xs ++ ys.take m) 0 true) ∧ Moved w w' F F' ∧ Below B w w' := by
  have HS := Aside0.mk hS
  have HCl := Aside0.mk (fun w1 w2 v1 zs room' => take_close (w1 := w1) (w2 := w2) (v1 := v1) (zs := zs) (room' := room') hS)
  obtain ⟨hg, hBg, hown, _, _, _⟩ := hS
  have hB : B ≤ w.heap.size := Nat.le_of_lt (Nat.lt_of_le_of_lt hBg (blk_lt hg))
  have hn : n ≤ 9223372036854775807 := hr.2.1
  have c0 : w.cell? ⟨g, 0, none⟩ = some v := by rw [blk_cell hg]; rfl
  have c1 : w.cell? ⟨g, 1, none⟩ = some (.int .i64 (m : Int)) := by rw [blk_cell hg]; rfl
  have c2 : w.cell? ⟨g, 2, none⟩ = some (.bool true) := by rw [blk_cell hg]; rfl
  have f0 : w.frozen? ⟨g, 0, none⟩ = false := blk_frozen hg 0
  have hd : decide ((m : Int) < (n : Int)) = true := decide_eq_true (by omega)
  have HT := Aside0.mk (C_firsts hr (Nat.le_of_lt hr0))
  have hmn : m ≤ n := by omega
  have hmc : m ≤ c := by omega
  have HG := Aside0.mk hg
  have HO := Aside0.mk hown
  have HR := Aside0.mk hr
  clear hg hown hr
  go_enter Try.func10, Try.ntmps10
  go_wp2_with fail
  go_region_law (refine step_append_row (W := w.drew) B rfl (.tmp 31) (.tmp 34) 27 5 .u8 1 rfl Try.underlying27 byteInfo (by decide) v xs (ys.take m) A m c (by simp [Act.eval, Act.put]) (by simp [Act.eval, Act.put]) HO.out HT.out (Below.refl B w.drew) hB (by omega) (fun v1 w1 h1 hb hgr hat => ?_); have hg1 := blk_grown (w := w.drew) HG.out hgr (own_ne (w := w.drew) HO.out HG.out (by decide)); obtain ⟨A1, c1', rfl, _⟩ := own_reads h1; have d0 := blk_cell hg1 0; have d1 := blk_cell hg1 1; have d2 := blk_cell hg1 2; have e0 := blk_frozen hg1 0; have e1 := blk_frozen hg1 1; have HW1 := Aside0.mk h1; have HG1 := Aside0.mk hg1; have HB1 := Aside0.mk hb; have HGR := Aside0.mk hgr; have HAT := Aside0.mk hat; clear h1 hg1 hb hgr hat c0 c1 c2 f0; simp only [List.getElem?_toArray, List.getElem?_cons_zero, List.getElem?_cons_succ] at d0 d1 d2)
  go_wp2_with fail
  go_ret2
  have hbw : Below B w w1 := ⟨HB1.out.os, HB1.out.tape, HB1.out.output, HB1.out.size, HB1.out.block⟩
  have hgw : w.grownBy w1 v.ownBlock := ⟨HGR.out.os, HGR.out.tape, HGR.out.output, HGR.out.size, HGR.out.block⟩
  obtain ⟨F', hS', hM'⟩ := HCl.out w1 _ _ (xs ++ (ys.take m)) _ HW1.out hgw HAT.out (by simp [World.setCell]) (fun q hq => (Below.heap_setCell _ ⟨g, 1, none⟩ _ q hq).trans (Below.heap_setCell w1 ⟨g, 0, none⟩ _ q hq)) (blk_set (blk_set HG1.out 0 _) 1 _)
  refine ⟨F', rfl, ?_, ?_, ?_⟩
  · simpa using hS'
  · simpa using hM'
  · exact Below.setCell (Below.setCell hbw (show B ≤ (⟨g, 0, none⟩ : Addr).block from hBg) _) (show B ≤ (⟨g, 1, none⟩ : Addr).block from hBg) _
end Go.Proofs.Ytddchfjdekfekaa.Hand
