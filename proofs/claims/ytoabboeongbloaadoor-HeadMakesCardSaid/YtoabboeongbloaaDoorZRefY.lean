/- The document's Make of a header: its walk. -/
import Derived.Test.YtoabboeongbloaaDoorZRefW
import Derived.Test.YtoabboeongbloaaDoorZPutP
import Derived.Test.YtoabboeongbloaaDoorZPutN
import Derived.Test.YtoabboeongbloaaDoorZRefG
set_option linter.unusedVariables false
set_option linter.unusedSimpArgs false
namespace Go.Proofs.YtoabboeongbloaaDoor.RefM
open Go.RowKit Go.Proofs.YtoabboeongbloaaDoorW.PrintWords Go.Proofs.YtoabboeongbloaaDoorW.PrintLast Go.Proofs.YtoabboeongbloaaDoorW.PrintMore Go.Proofs.YtoabboeongbloaaDoorW.Mv Go.Proofs.YtoabboeongbloaaDoorW.HKit Go.Proofs.YtoabboeongbloaaDoorW.But Go.Proofs.YtoabboeongbloaaDoor.HeadA Go.Proofs.YtoabboeongbloaaDoor.PHeadGets Go.Proofs.YtoabboeongbloaaDoor.PM Go.Proofs.YtoabboeongbloaaDoor.SumP Go.Proofs.YtoabboeongbloaaDoor.Sums Go.Proofs.YtoabboeongbloaaDoor.Maker Go.Proofs.YtoabboeongbloaaDoor.GetW Go.Proofs.YtoabboeongbloaaDoor.RefG Go.Proofs.YtoabboeongbloaaDoor.Fmt
set_option maxHeartbeats 2000000 in
set_option maxRecDepth 100000 in
theorem rnumbers_calls (w : World) : Calls Tryd.prog 31 #[] w fun e w' => e = .returned (.agg #[.int .i64 100, .int .i64 8, .int .i64 108, .int .i64 8, .int .i64 116, .int .i64 8, .int .i64 124, .int .i64 12, .int .i64 136, .int .i64 12, .int .i64 329, .int .i64 8, .int .i64 337, .int .i64 8]) ∧ Below w.heap.size w w' := by
  go_enter Tryd.func31, Tryd.ntmps31
  go_wp2_with fail
  refine bodyPost_ret (results_cell_row rfl _ _ w.heap.size 71 _ (0, 0) _ rfl (heap_alloc_new w _) Tryd.underlying71 rfl (by kernel_rfl)) rfl ?_
  exact ⟨rfl, (Below.refl _ w).alloc (Nat.le_refl _) _⟩
def ordC : Array Value := #[.int .i64 100, .int .i64 0, .int .i64 1, .int .i64 2, .int .i64 3, .int .i64 4, .int .i64 101, .int .i64 102, .int .i64 103, .int .i64 5, .int .i64 6, .int .i64 104]
def MO (w W : World) (R B O : Nat) (r : Raw) (xs : List Int) : Prop := MSt w W R B r xs ∧ W.heap[O]? = some (.cells ordC 3 (0, 0)) ∧ B < O
theorem MO.below {w W W' : World} {R B O : Nat} {r : Raw} {xs : List Int} (h : MO w W R B O r xs) (hb : Below W.heap.size W W') : MO w W' R B O r xs :=
  ⟨h.1.below hb, (But.of_below (fun _ => False) hb).heap h.2.1 (fun h => h), h.2.2⟩
theorem MO.drew {w W : World} {R B O : Nat} {r : Raw} {xs : List Int} (h : MO w W R B O r xs) : MO w W.drew R B O r xs := ⟨h.1.drew, h.2⟩
theorem MO.old {w W : World} {R B O : Nat} {r : Raw} {xs : List Int} (h : MO w W R B O r xs) : Below w.heap.size w W := h.1.1
theorem MO.row {w W : World} {R B O : Nat} {r : Raw} {xs : List Int} (h : MO w W R B O r xs) (ys : List Int) (hl : ys.length = 512) : MO w (W.setRow B (nums .u8 ys).toArray) R B O r ys := by
  refine ⟨h.1.row ys hl, (But.setRow (F := fun k => k = B) W B _ rfl).heap h.2.1 (by have := h.2.2; omega), h.2.2⟩
theorem ord_cells {w W : World} {R B O : Nat} {r : Raw} {xs : List Int} (h : MO w W R B O r xs) : W.cell? ⟨O, 0, none⟩ = some (.int .i64 100) ∧ W.cell? ⟨O, 1, none⟩ = some (.int .i64 0) ∧ W.cell? ⟨O, 2, none⟩ = some (.int .i64 1) ∧ W.cell? ⟨O, 3, none⟩ = some (.int .i64 2) ∧ W.cell? ⟨O, 4, none⟩ = some (.int .i64 3) ∧ W.cell? ⟨O, 5, none⟩ = some (.int .i64 4) ∧ W.cell? ⟨O, 6, none⟩ = some (.int .i64 101) ∧ W.cell? ⟨O, 7, none⟩ = some (.int .i64 102) ∧ W.cell? ⟨O, 8, none⟩ = some (.int .i64 103) ∧ W.cell? ⟨O, 9, none⟩ = some (.int .i64 5) ∧ W.cell? ⟨O, 10, none⟩ = some (.int .i64 6) ∧ W.cell? ⟨O, 11, none⟩ = some (.int .i64 104) := by
  have h1 := h.2.1
  refine ⟨?_, ?_, ?_, ?_, ?_, ?_, ?_, ?_, ?_, ?_, ?_, ?_⟩ <;> simp [World.cell?, h1, ordC]
theorem rput_text' (s : ByteArray) (n : Nat) (a : Int) (w : World) (ha : a = n) (hs : s.size ≤ 100000) : Calls Tryd.prog 30 #[.string s, .int .i64 a] w fun e w' => ∃ A c, e = .returned (.tuple #[.slice A (Txt.putOf s n).1.length c, .int .i64 (Txt.putOf s n).2]) ∧ (Txt.putOf s n).1.length ≤ c ∧ Kd.C (Kd.int .u8) w' A (Txt.putOf s n).1.length (Txt.putOf s n).1 ∧ Below w.heap.size w w' := by
  subst ha
  exact rput_text s n w hs
theorem rput_num' (a : Int) (n : Nat) (b : Int) (wide : Bool) (w : World) (hb : b = n) (h2 : 2 ≤ n) (hn : n ≤ 32) (h0 : -9223372036854775808 ≤ a) (h1 : a ≤ 9223372036854775807) : Calls Tryd.prog 32 #[.int .i64 a, .int .i64 b, .bool wide] w fun e w' => ∃ A c, e = .returned (.tuple #[.slice A (NumP.putOf a n wide).1.length c, .int .i64 (NumP.putOf a n wide).2]) ∧ (NumP.putOf a n wide).1.length ≤ c ∧ Kd.C (Kd.int .u8) w' A (NumP.putOf a n wide).1.length (NumP.putOf a n wide).1 ∧ Below w.heap.size w w' := by
  subst hb
  exact rput_num a n wide w h2 hn h0 h1
def LRel (w : World) (R B O : Nat) (r : Raw) (wide dev : Bool) (n : Nat) (v : Value) (wr : World) : Prop := ∃ (i : Nat) (z : Int) (xs : List Int), v = .int .i64 z ∧ z = i ∧ n + i = 12 ∧ foldR r wide dev (headR r, 0) i = (xs, 0) ∧ MO w wr R B O r xs
theorem cut_at (B f : Nat) (hf : f < 512) : ∀ W : World, (Instr.slice 25 (.slice (some ⟨B, 0, none⟩) 512 512) (some (.int .i64 (f : Int))) none none).run Tryd.prog W = .ok (.slice (some ⟨B, f, none⟩) (512 - f) (512 - f)) W := by
  intro W
  obtain ⟨i, hi, hz, hsz, _⟩ := info_parts HeadA.info5
  have hel : Tryd.prog.elem 25 = 5 := by simp [Program.elem, Tryd.underlying25]
  have hu : Tryd.prog.underlying 25 = some (.slice (Tryd.prog.elem 25)) := by rw [hel]; exact Tryd.underlying25
  rw [run_slice_l W 25 (some ⟨B, 0, none⟩) 512 512 hu .i64 (f : Int) (by omega) (by omega), hel]
  simp [sizeOf, typeInfo, hi, hsz, sliced, Result.andThen, Addr.add]
  rw [if_neg (by omega)]
  cases f <;> rfl
end Go.Proofs.YtoabboeongbloaaDoor.RefM
