/- The document's Make of a header: its walk. -/
import Derived.Test.YtoabboeongbloaaDoorZRefM
import Derived.Test.YtoabboeongbloaaDoorZPutP
import Derived.Test.YtoabboeongbloaaDoorZPutN
import Derived.Test.YtoabboeongbloaaDoorZRefG
set_option linter.unusedVariables false
set_option linter.unusedSimpArgs false
namespace Go.Proofs.YtoabboeongbloaaDoor.RefM
open Go.RowKit Go.Proofs.YtoabboeongbloaaDoorW.PrintWords Go.Proofs.YtoabboeongbloaaDoorW.PrintLast Go.Proofs.YtoabboeongbloaaDoorW.PrintMore Go.Proofs.YtoabboeongbloaaDoorW.Mv Go.Proofs.YtoabboeongbloaaDoorW.HKit Go.Proofs.YtoabboeongbloaaDoorW.But Go.Proofs.YtoabboeongbloaaDoor.HeadA Go.Proofs.YtoabboeongbloaaDoor.PHeadGets Go.Proofs.YtoabboeongbloaaDoor.PM Go.Proofs.YtoabboeongbloaaDoor.SumP Go.Proofs.YtoabboeongbloaaDoor.Sums Go.Proofs.YtoabboeongbloaaDoor.Maker Go.Proofs.YtoabboeongbloaaDoor.GetW Go.Proofs.YtoabboeongbloaaDoor.RefG Go.Proofs.YtoabboeongbloaaDoor.Fmt
/-- The state: the header's block R, the bytes' block B. -/
def MSt (w W : World) (R B : Nat) (r : Raw) (xs : List Int) : Prop := Below w.heap.size w W ∧ W.heap[R]? = some (.cells (refC r) 34 (0, 0)) ∧ W.heap[B]? = some (.cells (nums .u8 xs).toArray 5 (0, 0)) ∧ xs.length = 512 ∧ w.heap.size ≤ R ∧ R < B
theorem MSt.below {w W W' : World} {R B : Nat} {r : Raw} {xs : List Int} (h : MSt w W R B r xs) (hb : Below W.heap.size W W') : MSt w W' R B r xs := by
  obtain ⟨h1, h2, h3, h4⟩ := h
  have hB := But.of_below (fun _ => False) hb
  exact ⟨h1.trans (hb.mono h1.size), hB.heap h2 (fun h => h), hB.heap h3 (fun h => h), h4⟩
theorem MSt.drew {w W : World} {R B : Nat} {r : Raw} {xs : List Int} (h : MSt w W R B r xs) : MSt w W.drew R B r xs := ⟨Below.drew h.1, h.2⟩
theorem MSt.row {w W : World} {R B : Nat} {r : Raw} {xs : List Int} (h : MSt w W R B r xs) (ys : List Int) (hl : ys.length = 512) : MSt w (W.setRow B (nums .u8 ys).toArray) R B r ys := by
  obtain ⟨h1, h2, h3, h4, h5, h6⟩ := h
  have hB : But (fun k => k = B) W (W.setRow B (nums .u8 ys).toArray) := But.setRow _ _ _ rfl
  exact ⟨h1.trans (hB.below (fun k hk => by omega) h1.size), hB.heap h2 (by omega), setRow_heap_at W B _ _ 5 (0, 0) h3, hl, h5, h6⟩
theorem MSt.cell {w W : World} {R B : Nat} {r : Raw} {xs : List Int} (h : MSt w W R B r xs) (i : Nat) (v : Int) : MSt w (W.setCell ⟨B, i, none⟩ (.int .u8 v)) R B r (xs.set i v) := by
  obtain ⟨h1, h2, h3, h4, h5, h6⟩ := h
  have hB : But (fun k => k = B) W (W.setCell ⟨B, i, none⟩ (.int .u8 v)) := But.setCell _ _ _ rfl
  refine ⟨h1.setCell (by show w.heap.size ≤ B; omega) _, hB.heap h2 (by omega), ?_, by rw [List.length_set]; exact h4, h5, h6⟩
  simp [World.setCell, Array.getElem?_modify, h3, nums, List.map_set]
theorem MSt.C {w W : World} {R B : Nat} {r : Raw} {xs : List Int} (h : MSt w W R B r xs) : Kd.C (Kd.int .u8) W (some ⟨B, 0, none⟩) 512 xs := by
  have h4 := h.2.2.2.1
  have := block_C h.2.2.1 (by omega)
  rwa [h4] at this
/-- A slice copied over a place of the bytes, as one equation. -/
theorem copy_at {w W : World} {R B : Nat} {r : Raw} {xs : List Int} (h : MSt w W R B r xs) (f n cap : Nat) (A : Option Addr) (c : Nat) (ys : List Int) (hC : Kd.C (Kd.int .u8) W A ys.length ys) (hn : ys.length ≤ n) (hf : f + ys.length ≤ 512) :
    (Builtin.copy_ #[25, 25] 3 #[.slice (some ⟨B, f, none⟩) n cap, .slice A ys.length c]).run Tryd.prog W = .ok (goInt ys.length) (W.setRow B (nums .u8 (splice xs f ys)).toArray) := by
  obtain ⟨h1, h2, h3, h4, h5, h6⟩ := h
  by_cases h0 : ys.length = 0
  · obtain rfl : ys = [] := List.eq_nil_of_length_eq_zero h0
    have hrun := run_copy_none (P := Tryd.prog) W 25 25 3 5 (some ⟨B, f, none⟩) A n cap 0 c Tryd.underlying25 (by kernel_rfl) (by simp)
    have e1 : splice xs f ([] : List Int) = xs := by simp [splice]
    rw [e1, setRow_self W B _ 5 (0, 0) h3]
    exact hrun
  · obtain ⟨ad, rfl, hsrc⟩ := C_src hC (by omega)
    have hrun := run_copy_row (P := Tryd.prog) W 25 25 3 5 B f n cap ad ys.length c (nums .u8 xs).toArray 5 (nums .u8 ys) Tryd.underlying25 (by kernel_rfl) h3 (by simp only [nums, List.length_map]; exact (Nat.min_eq_left hn).symm) hsrc (by simp [nums]; omega) (one_nums ys)
    rw [hrun]
    have e1 : (nums .u8 ys).length = ys.length := by simp [nums]
    rw [e1, ← splice_nums]
    simp [splice, e1]
theorem rput_text (s : ByteArray) (n : Int) (w : World) (hs : s.size ≤ 100000) : Calls Tryd.prog 30 #[.string s, .int .i64 n] w fun e w' => ∃ A c, e = .returned (.tuple #[.slice A (Txt.putOf s n).1.length c, .int .i64 (Txt.putOf s n).2]) ∧ (Txt.putOf s n).1.length ≤ c ∧ Kd.C (Kd.int .u8) w' A (Txt.putOf s n).1.length (Txt.putOf s n).1 ∧ Below w.heap.size w w' := by
  obtain ⟨k, hk⟩ := (PutP.refput_ev s n hs).rounds
  refine (oakumref02_Put.calls k s n _ _ w hk).mono ?_
  rintro e w' ⟨v, rfl, hV, hb⟩
  obtain ⟨A, c, rfl⟩ := Kd.V_slice hV
  obtain ⟨_, h2, h3⟩ := Kd.V_reads' hV
  exact ⟨A, c, rfl, h2, h3, hb⟩
theorem rput_num (a : Int) (n : Nat) (wide : Bool) (w : World) (h2 : 2 ≤ n) (hn : n ≤ 32) (h0 : -9223372036854775808 ≤ a) (h1 : a ≤ 9223372036854775807) : Calls Tryd.prog 32 #[.int .i64 a, .int .i64 n, .bool wide] w fun e w' => ∃ A c, e = .returned (.tuple #[.slice A (NumP.putOf a n wide).1.length c, .int .i64 (NumP.putOf a n wide).2]) ∧ (NumP.putOf a n wide).1.length ≤ c ∧ Kd.C (Kd.int .u8) w' A (NumP.putOf a n wide).1.length (NumP.putOf a n wide).1 ∧ Below w.heap.size w w' := by
  obtain ⟨k, hk⟩ := (PutN.rput_ev a n wide h2 hn h0 h1).rounds
  refine (oakumref01_Put.calls k a n wide _ _ w hk).mono ?_
  rintro e w' ⟨v, rfl, hV, hb⟩
  obtain ⟨A, c, rfl, hc, hC⟩ := Kd.R_reads hV
  exact ⟨A, c, rfl, hc, hC, hb⟩
theorem ite_bytes {p : Prop} [Decidable p] {a b : List Int × Int} (ha : Bytes a.1) (hb : Bytes b.1) : Bytes (if p then a else b).1 := by
  split
  · exact ha
  · exact hb
theorem step_bytes (r : Raw) (wide dev : Bool) (st : List Int × Int) (h : Bytes st.1) (j : Nat) : Bytes (stepR r wide dev st j).1 := by
  unfold stepR
  split
  · exact bytes_mText h _ _ _
  · exact bytes_mNum h _ _ _ _ _
  · exact bytes_mNum h _ _ _ _ _
  · exact bytes_mNum h _ _ _ _ _
  · exact bytes_mNum h _ _ _ _ _
  · exact bytes_mNum h _ _ _ _ _
  · exact bytes_mText h _ _ _
  · exact ite_bytes h (bytes_mText h _ _ _)
  · exact ite_bytes h (bytes_mText h _ _ _)
  · exact ite_bytes h (bytes_mNum h _ _ _ _ _)
  · exact ite_bytes h (bytes_mNum h _ _ _ _ _)
  · exact ite_bytes (bytes_mText h _ _ _) h
theorem fold_bytes (r : Raw) (wide dev : Bool) (st : List Int × Int) (h : Bytes st.1) : ∀ j, Bytes (foldR r wide dev st j).1
  | 0 => h
  | j + 1 => step_bytes r wide dev _ (fold_bytes r wide dev st h j) j
theorem head_bytes1 (r : Raw) (z : List Int) (h0 : Bytes z) : Bytes (if r.mark = 1 then splice z 257 ustarP else if r.mark = 2 then splice z 257 ustarG else z) := by
  split
  · exact bytes_splice h0 bytes_uP
  · split
    · exact bytes_splice h0 bytes_uG
    · exact h0
theorem zero_set (v : Int) (hv : 0 ≤ v ∧ v ≤ 255) (z : List Int) (hz : Bytes z) : Bytes (z.set 156 v) := bytes_set hz 156 v hv
theorem head_bytes (r : Raw) (hfl : 0 ≤ r.flag ∧ r.flag ≤ 255) : Bytes (headR r) := head_bytes1 r _ (zero_set r.flag hfl _ (bytes_rep 512))
end Go.Proofs.YtoabboeongbloaaDoor.RefM
