/- head.Get: its walk. -/
import Derived.Test.YtoabboeongbloaaDoorMK
import Derived.Laws.ResultCell
set_option linter.unusedVariables false
set_option linter.unusedSimpArgs false
namespace Go.Proofs.YtoabboeongbloaaDoor.GetW
open Go.RowKit Go.Proofs.YtoabboeongbloaaDoorW.PrintWords Go.Proofs.YtoabboeongbloaaDoorW.PrintLast Go.Proofs.YtoabboeongbloaaDoorW.PrintMore Go.Proofs.YtoabboeongbloaaDoorW.Mv Go.Proofs.YtoabboeongbloaaDoorW.HKit Go.Proofs.YtoabboeongbloaaDoorW.But Go.Proofs.YtoabboeongbloaaDoor.HeadA Go.Proofs.YtoabboeongbloaaDoor.PHeadGets Go.Proofs.YtoabboeongbloaaDoor.SumP Go.Proofs.YtoabboeongbloaaDoor.Sums Go.Proofs.YtoabboeongbloaaDoor.Maker
def rawZ : Raw := ⟨0, 0, ⟨#[]⟩, ⟨#[]⟩, ⟨#[]⟩, ⟨#[]⟩, ⟨#[]⟩, 0, 0, 0, 0, 0, 0, 0⟩
/-- What Get tells. -/
def txt (l : List Int) (f s : Nat) : ByteArray := Txt.getOf (HeadA.part l f s)
def rawOf (l : List Int) : Raw :=
  { mark := markOf l, flag := rd l 156, name := txt l 0 100, link := txt l 157 100, pre := if markOf l = 1 then txt l 345 155 else ⟨#[]⟩, user := if markOf l = 0 then ⟨#[]⟩ else txt l 265 32, group := if markOf l = 0 then ⟨#[]⟩ else txt l 297 32, mode := 0, uid := 0, gid := 0, size := 0, time := 0, major := 0, minor := 0 }
def getR (l : List Int) : Raw × Int := if checkOf l = 0 then (if knownB (rd l 156) = true then (rawOf l, 0) else (rawZ, 9)) else (rawZ, checkOf l)
/-- The state of the walk: the result's block T, the header's block R, the spans in S and behind. -/
def GSt (w W : World) (T R S : Nat) (x : Raw) : Prop := Below w.heap.size w W ∧ W.heap[T]? = some (.cells (rawC rawZ) 23 (0, 0)) ∧ Bun W R S x ∧ w.heap.size ≤ T ∧ w.heap.size ≤ R ∧ T < R ∧ R < S
theorem GSt.below {w W W' : World} {T R S : Nat} {x : Raw} (h : GSt w W T R S x) (hb : Below W.heap.size W W') : GSt w W' T R S x := by
  obtain ⟨h1, h2, ⟨b0, b1, b2, b3, b4, b5⟩, h4, h5, h6, h7⟩ := h
  have hB := But.of_below (fun _ => False) hb

  exact ⟨h1.trans (hb.mono h1.size), hB.heap h2 (fun h => h), ⟨hB.heap b0 (fun h => h), hB.heap b1 (fun h => h), hB.heap b2 (fun h => h), hB.heap b3 (fun h => h), hB.heap b4 (fun h => h), hB.heap b5 (fun h => h)⟩, h4, h5, h6, h7⟩
theorem gst_set {w W : World} {T R S : Nat} {x y : Raw} (h : GSt w W T R S x) (i : Nat) (v : Value) (hy : (rawC x).setIfInBounds i v = rawC y) : GSt w (W.setCell ⟨R, i, none⟩ v) T R S y := by
  obtain ⟨h1, h2, ⟨b0, b1, b2, b3, b4, b5⟩, h4, h5, h6, h7⟩ := h
  have hB : But (· = R) W (W.setCell ⟨R, i, none⟩ v) := But.setCell _ _ _ rfl
  refine ⟨h1.setCell h5 v, hB.heap h2 (by omega), ⟨?_, hB.heap b1 (by omega), hB.heap b2 (by omega), hB.heap b3 (by omega), hB.heap b4 (by omega), hB.heap b5 (by omega)⟩, h4, h5, h6, h7⟩
  simp [World.setCell, Array.getElem?_modify, b0, ← hy]
def rw0 (m f : Int) (a b p u g : ByteArray) : Raw := ⟨m, f, a, b, p, u, g, 0, 0, 0, 0, 0, 0, 0⟩
theorem GSt.set2 {w W : World} {T R S : Nat} {m f : Int} {a b p u g : ByteArray} (h : GSt w W T R S (rw0 m f a b p u g)) (s : ByteArray) : GSt w (W.setCell ⟨R, 2, none⟩ (.string s)) T R S (rw0 m f s b p u g) := gst_set h 2 _ (by simp [rawC, rw0])
theorem GSt.set3 {w W : World} {T R S : Nat} {m f : Int} {a b p u g : ByteArray} (h : GSt w W T R S (rw0 m f a b p u g)) (s : ByteArray) : GSt w (W.setCell ⟨R, 3, none⟩ (.string s)) T R S (rw0 m f a s p u g) := gst_set h 3 _ (by simp [rawC, rw0])
theorem GSt.set4 {w W : World} {T R S : Nat} {m f : Int} {a b p u g : ByteArray} (h : GSt w W T R S (rw0 m f a b p u g)) (s : ByteArray) : GSt w (W.setCell ⟨R, 4, none⟩ (.string s)) T R S (rw0 m f a b s u g) := gst_set h 4 _ (by simp [rawC, rw0])
theorem GSt.set5 {w W : World} {T R S : Nat} {m f : Int} {a b p u g : ByteArray} (h : GSt w W T R S (rw0 m f a b p u g)) (s : ByteArray) : GSt w (W.setCell ⟨R, 5, none⟩ (.string s)) T R S (rw0 m f a b p s g) := gst_set h 5 _ (by simp [rawC, rw0])
theorem GSt.set6 {w W : World} {T R S : Nat} {m f : Int} {a b p u g : ByteArray} (h : GSt w W T R S (rw0 m f a b p u g)) (s : ByteArray) : GSt w (W.setCell ⟨R, 6, none⟩ (.string s)) T R S (rw0 m f a b p u s) := gst_set h 6 _ (by simp [rawC, rw0])
set_option maxHeartbeats 1000000 in
theorem raw_set {w : World} {T : Nat} {x : Raw} (h : w.heap[T]? = some (.cells (rawC x) 23 (0, 0))) (a0 a1 a2 a3 a4 a5 a6 a7 a8 a9 a10 a11 a12 a13 : Value) : ((((((((((((((w.setCell ⟨T, 0, none⟩ a0).setCell ⟨T, 1, none⟩ a1).setCell ⟨T, 2, none⟩ a2).setCell ⟨T, 3, none⟩ a3).setCell ⟨T, 4, none⟩ a4).setCell ⟨T, 5, none⟩ a5).setCell ⟨T, 6, none⟩ a6).setCell ⟨T, 7, none⟩ a7).setCell ⟨T, 8, none⟩ a8).setCell ⟨T, 9, none⟩ a9).setCell ⟨T, 10, none⟩ a10).setCell ⟨T, 11, none⟩ a11).setCell ⟨T, 12, none⟩ a12).setCell ⟨T, 13, none⟩ a13).heap[T]? = some (.cells #[a0, a1, a2, a3, a4, a5, a6, a7, a8, a9, a10, a11, a12, a13] 23 (0, 0)) := by
  unfold rawC at h
  have h0 := heap_setCell_same _ T 0 _ 23 a0 h
  simp only [List.setIfInBounds_toArray, List.set_cons_zero, List.set_cons_succ] at h0
  have h1 := heap_setCell_same _ T 1 _ 23 a1 h0
  simp only [List.setIfInBounds_toArray, List.set_cons_zero, List.set_cons_succ] at h1
  have h2 := heap_setCell_same _ T 2 _ 23 a2 h1
  simp only [List.setIfInBounds_toArray, List.set_cons_zero, List.set_cons_succ] at h2
  have h3 := heap_setCell_same _ T 3 _ 23 a3 h2
  simp only [List.setIfInBounds_toArray, List.set_cons_zero, List.set_cons_succ] at h3
  have h4 := heap_setCell_same _ T 4 _ 23 a4 h3
  simp only [List.setIfInBounds_toArray, List.set_cons_zero, List.set_cons_succ] at h4
  have h5 := heap_setCell_same _ T 5 _ 23 a5 h4
  simp only [List.setIfInBounds_toArray, List.set_cons_zero, List.set_cons_succ] at h5
  have h6 := heap_setCell_same _ T 6 _ 23 a6 h5
  simp only [List.setIfInBounds_toArray, List.set_cons_zero, List.set_cons_succ] at h6
  have h7 := heap_setCell_same _ T 7 _ 23 a7 h6
  simp only [List.setIfInBounds_toArray, List.set_cons_zero, List.set_cons_succ] at h7
  have h8 := heap_setCell_same _ T 8 _ 23 a8 h7
  simp only [List.setIfInBounds_toArray, List.set_cons_zero, List.set_cons_succ] at h8
  have h9 := heap_setCell_same _ T 9 _ 23 a9 h8
  simp only [List.setIfInBounds_toArray, List.set_cons_zero, List.set_cons_succ] at h9
  have h10 := heap_setCell_same _ T 10 _ 23 a10 h9
  simp only [List.setIfInBounds_toArray, List.set_cons_zero, List.set_cons_succ] at h10
  have h11 := heap_setCell_same _ T 11 _ 23 a11 h10
  simp only [List.setIfInBounds_toArray, List.set_cons_zero, List.set_cons_succ] at h11
  have h12 := heap_setCell_same _ T 12 _ 23 a12 h11
  simp only [List.setIfInBounds_toArray, List.set_cons_zero, List.set_cons_succ] at h12
  have h13 := heap_setCell_same _ T 13 _ 23 a13 h12
  simp only [List.setIfInBounds_toArray, List.set_cons_zero, List.set_cons_succ] at h13
  exact h13
set_option maxHeartbeats 1000000 in
theorem raw_set_but (w : World) (T : Nat) (a0 a1 a2 a3 a4 a5 a6 a7 a8 a9 a10 a11 a12 a13 : Value) : But (fun k => k = T) w ((((((((((((((w.setCell ⟨T, 0, none⟩ a0).setCell ⟨T, 1, none⟩ a1).setCell ⟨T, 2, none⟩ a2).setCell ⟨T, 3, none⟩ a3).setCell ⟨T, 4, none⟩ a4).setCell ⟨T, 5, none⟩ a5).setCell ⟨T, 6, none⟩ a6).setCell ⟨T, 7, none⟩ a7).setCell ⟨T, 8, none⟩ a8).setCell ⟨T, 9, none⟩ a9).setCell ⟨T, 10, none⟩ a10).setCell ⟨T, 11, none⟩ a11).setCell ⟨T, 12, none⟩ a12).setCell ⟨T, 13, none⟩ a13) := by
  have h0 := But.setCell (F := fun k => k = T) w ⟨T, 0, none⟩ a0 rfl
  have h1 := But.setCell (F := fun k => k = T) (w.setCell ⟨T, 0, none⟩ a0) ⟨T, 1, none⟩ a1 rfl
  have h2 := But.setCell (F := fun k => k = T) ((w.setCell ⟨T, 0, none⟩ a0).setCell ⟨T, 1, none⟩ a1) ⟨T, 2, none⟩ a2 rfl
  have h3 := But.setCell (F := fun k => k = T) (((w.setCell ⟨T, 0, none⟩ a0).setCell ⟨T, 1, none⟩ a1).setCell ⟨T, 2, none⟩ a2) ⟨T, 3, none⟩ a3 rfl
  have h4 := But.setCell (F := fun k => k = T) ((((w.setCell ⟨T, 0, none⟩ a0).setCell ⟨T, 1, none⟩ a1).setCell ⟨T, 2, none⟩ a2).setCell ⟨T, 3, none⟩ a3) ⟨T, 4, none⟩ a4 rfl
  have h5 := But.setCell (F := fun k => k = T) (((((w.setCell ⟨T, 0, none⟩ a0).setCell ⟨T, 1, none⟩ a1).setCell ⟨T, 2, none⟩ a2).setCell ⟨T, 3, none⟩ a3).setCell ⟨T, 4, none⟩ a4) ⟨T, 5, none⟩ a5 rfl
  have h6 := But.setCell (F := fun k => k = T) ((((((w.setCell ⟨T, 0, none⟩ a0).setCell ⟨T, 1, none⟩ a1).setCell ⟨T, 2, none⟩ a2).setCell ⟨T, 3, none⟩ a3).setCell ⟨T, 4, none⟩ a4).setCell ⟨T, 5, none⟩ a5) ⟨T, 6, none⟩ a6 rfl
  have h7 := But.setCell (F := fun k => k = T) (((((((w.setCell ⟨T, 0, none⟩ a0).setCell ⟨T, 1, none⟩ a1).setCell ⟨T, 2, none⟩ a2).setCell ⟨T, 3, none⟩ a3).setCell ⟨T, 4, none⟩ a4).setCell ⟨T, 5, none⟩ a5).setCell ⟨T, 6, none⟩ a6) ⟨T, 7, none⟩ a7 rfl
  have h8 := But.setCell (F := fun k => k = T) ((((((((w.setCell ⟨T, 0, none⟩ a0).setCell ⟨T, 1, none⟩ a1).setCell ⟨T, 2, none⟩ a2).setCell ⟨T, 3, none⟩ a3).setCell ⟨T, 4, none⟩ a4).setCell ⟨T, 5, none⟩ a5).setCell ⟨T, 6, none⟩ a6).setCell ⟨T, 7, none⟩ a7) ⟨T, 8, none⟩ a8 rfl
  have h9 := But.setCell (F := fun k => k = T) (((((((((w.setCell ⟨T, 0, none⟩ a0).setCell ⟨T, 1, none⟩ a1).setCell ⟨T, 2, none⟩ a2).setCell ⟨T, 3, none⟩ a3).setCell ⟨T, 4, none⟩ a4).setCell ⟨T, 5, none⟩ a5).setCell ⟨T, 6, none⟩ a6).setCell ⟨T, 7, none⟩ a7).setCell ⟨T, 8, none⟩ a8) ⟨T, 9, none⟩ a9 rfl
  have h10 := But.setCell (F := fun k => k = T) ((((((((((w.setCell ⟨T, 0, none⟩ a0).setCell ⟨T, 1, none⟩ a1).setCell ⟨T, 2, none⟩ a2).setCell ⟨T, 3, none⟩ a3).setCell ⟨T, 4, none⟩ a4).setCell ⟨T, 5, none⟩ a5).setCell ⟨T, 6, none⟩ a6).setCell ⟨T, 7, none⟩ a7).setCell ⟨T, 8, none⟩ a8).setCell ⟨T, 9, none⟩ a9) ⟨T, 10, none⟩ a10 rfl
  have h11 := But.setCell (F := fun k => k = T) (((((((((((w.setCell ⟨T, 0, none⟩ a0).setCell ⟨T, 1, none⟩ a1).setCell ⟨T, 2, none⟩ a2).setCell ⟨T, 3, none⟩ a3).setCell ⟨T, 4, none⟩ a4).setCell ⟨T, 5, none⟩ a5).setCell ⟨T, 6, none⟩ a6).setCell ⟨T, 7, none⟩ a7).setCell ⟨T, 8, none⟩ a8).setCell ⟨T, 9, none⟩ a9).setCell ⟨T, 10, none⟩ a10) ⟨T, 11, none⟩ a11 rfl
  have h12 := But.setCell (F := fun k => k = T) ((((((((((((w.setCell ⟨T, 0, none⟩ a0).setCell ⟨T, 1, none⟩ a1).setCell ⟨T, 2, none⟩ a2).setCell ⟨T, 3, none⟩ a3).setCell ⟨T, 4, none⟩ a4).setCell ⟨T, 5, none⟩ a5).setCell ⟨T, 6, none⟩ a6).setCell ⟨T, 7, none⟩ a7).setCell ⟨T, 8, none⟩ a8).setCell ⟨T, 9, none⟩ a9).setCell ⟨T, 10, none⟩ a10).setCell ⟨T, 11, none⟩ a11) ⟨T, 12, none⟩ a12 rfl
  have h13 := But.setCell (F := fun k => k = T) (((((((((((((w.setCell ⟨T, 0, none⟩ a0).setCell ⟨T, 1, none⟩ a1).setCell ⟨T, 2, none⟩ a2).setCell ⟨T, 3, none⟩ a3).setCell ⟨T, 4, none⟩ a4).setCell ⟨T, 5, none⟩ a5).setCell ⟨T, 6, none⟩ a6).setCell ⟨T, 7, none⟩ a7).setCell ⟨T, 8, none⟩ a8).setCell ⟨T, 9, none⟩ a9).setCell ⟨T, 10, none⟩ a10).setCell ⟨T, 11, none⟩ a11).setCell ⟨T, 12, none⟩ a12) ⟨T, 13, none⟩ a13 rfl
  exact (((((((((((((h0.trans h1).trans h2).trans h3).trans h4).trans h5).trans h6).trans h7).trans h8).trans h9).trans h10).trans h11).trans h12).trans h13)
theorem C_at {w : World} {A : Option Addr} {n : Nat} {l : List Int} (h : Kd.C (Kd.int .u8) w A n l) (i : Int) (h0 : 0 ≤ i) (h1 : i < n) : ∃ ad, A = some ad ∧ w.cell? (ad.add i.toNat) = some (.int .u8 (rd l i)) :=
  ReadsInt.at_ (Kd.reads_of_C (enc := Value.int .u8) (d := (0 : Int)) (h1 := fun _ => rfl) h) i h0 h1
theorem maker_lt2 {w : World} {k : Nat} {o : Obj} (h : w.heap[k]? = some o) : k < w.heap.size := by
  by_cases hl : k < w.heap.size
  · exact hl
  · rw [Array.getElem?_eq_none (by omega)] at h; cases h
theorem of_at (A : Option Addr) (c n : Nat) (a b : Int) (f s : Nat) (w : World) (ha : a = f) (hb : b = s) (hs : f + s ≤ n) (hc : n ≤ c) (hn : (n : Int) ≤ 1000000) :
    Calls Tryd.prog 36 #[.agg #[.int .i64 a, .int .i64 b], .slice A n c] w fun e w' => e = .returned (.slice (cutAt A c f) s (c - f)) ∧ Below w.heap.size w w' := by
  subst ha hb
  refine (of_calls A c n f s w hs hc hn).mono ?_
  rintro e w1 ⟨rfl, rfl⟩
  exact ⟨rfl, (Below.refl _ w).alloc (Nat.le_refl _) _⟩
theorem GSt.old {w W : World} {T R S : Nat} {x : Raw} (h : GSt w W T R S x) : Below w.heap.size w W := h.1
theorem GSt.self {w W : World} {T R S : Nat} {x : Raw} (h : GSt w W T R S x) : GSt w W T R S x := h
theorem gst_facts {w W : World} {T R S : Nat} {x : Raw} (h : GSt w W T R S x) (i : Nat) : W.frozen? ⟨R, i, none⟩ = false := maker_free h.2.2.1.1 i
theorem gst_spans {w W : World} {T R S : Nat} {x : Raw} (h : GSt w W T R S x) : (W.cell? ⟨S, 0, none⟩ = some (.int .i64 0) ∧ W.cell? ⟨S, 1, none⟩ = some (.int .i64 100)) ∧ (W.cell? ⟨S + 1, 0, none⟩ = some (.int .i64 157) ∧ W.cell? ⟨S + 1, 1, none⟩ = some (.int .i64 100)) ∧ (W.cell? ⟨S + 1 + 1, 0, none⟩ = some (.int .i64 265) ∧ W.cell? ⟨S + 1 + 1, 1, none⟩ = some (.int .i64 32)) ∧ (W.cell? ⟨S + 1 + 1 + 1, 0, none⟩ = some (.int .i64 297) ∧ W.cell? ⟨S + 1 + 1 + 1, 1, none⟩ = some (.int .i64 32)) ∧ (W.cell? ⟨S + 1 + 1 + 1 + 1, 0, none⟩ = some (.int .i64 345) ∧ W.cell? ⟨S + 1 + 1 + 1 + 1, 1, none⟩ = some (.int .i64 155)) := by
  obtain ⟨_, _, ⟨_, b1, b2, b3, b4, b5⟩, _⟩ := h
  exact ⟨two_cells b1, two_cells b2, two_cells b3, two_cells b4, two_cells b5⟩
theorem gst_ab {w W : World} {T R S : Nat} {x : Raw} (h : GSt w W T R S x) : W.cell? ⟨S, 0, none⟩ = some (.int .i64 0) ∧ W.cell? ⟨S, 1, none⟩ = some (.int .i64 100) ∧ W.cell? ⟨S + 1, 0, none⟩ = some (.int .i64 157) ∧ W.cell? ⟨S + 1, 1, none⟩ = some (.int .i64 100) := ⟨(gst_spans h).1.1, (gst_spans h).1.2, (gst_spans h).2.1.1, (gst_spans h).2.1.2⟩
theorem gst_cd {w W : World} {T R S : Nat} {x : Raw} (h : GSt w W T R S x) : W.cell? ⟨S + 1 + 1, 0, none⟩ = some (.int .i64 265) ∧ W.cell? ⟨S + 1 + 1, 1, none⟩ = some (.int .i64 32) ∧ W.cell? ⟨S + 1 + 1 + 1, 0, none⟩ = some (.int .i64 297) ∧ W.cell? ⟨S + 1 + 1 + 1, 1, none⟩ = some (.int .i64 32) := ⟨(gst_spans h).2.2.1.1, (gst_spans h).2.2.1.2, (gst_spans h).2.2.2.1.1, (gst_spans h).2.2.2.1.2⟩
theorem GSt.drew {w W : World} {T R S : Nat} {x : Raw} (h : GSt w W T R S x) : GSt w W.drew T R S x := ⟨Below.drew h.1, h.2⟩
theorem gst_free {w W : World} {T R S : Nat} {x : Raw} (h : GSt w W T R S x) (i : Nat) : W.frozen? ⟨R, i, none⟩ = false := maker_free h.2.2.1.1 i
theorem get_at (A : Option Addr) (c n : Nat) (l : List Int) (w : World) (hr : Kd.C (Kd.int .u8) w A n l) (hl : l.length = n) (hc : n ≤ c) :
    Calls Tryd.prog 35 #[.slice A n c] w fun e w' => e = .returned (.string (Txt.getOf l)) ∧ w' = w := by
  subst hl
  refine (Txt.get_calls A c l w hr hc).mono ?_
  rintro e w1 ⟨rfl, rfl⟩
  exact ⟨rfl, rfl⟩
theorem results_cell_tmp_row {P : Program} {fn : Func} {p u : Tmp} {ty : TypeId} (h : fn.results = #[.cell p ty, .tmp u]) (tmps : Array Value) (w : World) (g : Nat) (t : TypeId) (cs : Array Value) (fr : Nat × Nat) (d : TypeDesc)
    (hp : tmps.getD p undef = .pointer (some ⟨g, 0, none⟩)) (hg : w.heap[g]? = some (.cells cs t fr))
    (hu : P.underlying ty = some d) (hd : (match d with | .struct _ | .array _ _ => true | _ => false) = true) (hi : (P.info? ty).map (·.size) = some cs.size) :
    (results fn tmps).run P w = .ok (.tuple #[.agg cs, tmps.getD u undef]) w := by
  rw [results_cell_tmp h tmps P w, hp]
  simp [asAddr, Result.andThen, run_loadVar_row w g t ty cs fr d hg hu hd hi]
end Go.Proofs.YtoabboeongbloaaDoor.GetW
/- head.Get: its walk. -/
set_option linter.unusedVariables false
set_option linter.unusedSimpArgs false
namespace Go.Proofs.YtoabboeongbloaaDoor.GetW
open Go.RowKit Go.Proofs.YtoabboeongbloaaDoorW.PrintWords Go.Proofs.YtoabboeongbloaaDoorW.PrintLast Go.Proofs.YtoabboeongbloaaDoorW.PrintMore Go.Proofs.YtoabboeongbloaaDoorW.Mv Go.Proofs.YtoabboeongbloaaDoorW.HKit Go.Proofs.YtoabboeongbloaaDoorW.But Go.Proofs.YtoabboeongbloaaDoor.HeadA Go.Proofs.YtoabboeongbloaaDoor.PHeadGets Go.Proofs.YtoabboeongbloaaDoor.SumP Go.Proofs.YtoabboeongbloaaDoor.Sums Go.Proofs.YtoabboeongbloaaDoor.Maker
set_option maxHeartbeats 2000000 in
set_option maxRecDepth 100000 in
theorem get_bad (A : Option Addr) (c : Nat) (l : List Int) (w : World) (hb : Bytes l) (hr : Kd.C (Kd.int .u8) w A l.length l) (hc : l.length ≤ c) (he : ¬ checkOf l = 0) :
    Calls Tryd.prog 12 #[.slice A l.length c] w fun e w' => e = .returned (.tuple #[.agg (rawC rawZ), .int .u8 (checkOf l)]) ∧ Below w.heap.size w w' := by
  obtain ⟨wa, hwa⟩ : ∃ wa, wa = w.alloc (.cells (rawC rawZ) 23) := ⟨_, rfl⟩
  have hb0 : Below w.heap.size w wa := by rw [hwa]; exact (Below.refl _ w).alloc (Nat.le_refl _) _
  have hz0 : wa.heap[w.heap.size]? = some (.cells (rawC rawZ) 23 (0, 0)) := by rw [hwa]; exact heap_alloc_new w _
  have hck := check_is A c l wa hb (Kd.C_below hr hb0) hc
  have hwa' := hwa.symm
  unfold rawC rawZ at hwa'
  dsimp only at hwa'
  generalize checkOf l = ec at *
  have d1 : (ec != 0) = true := bne_iff_ne.2 he
  have HCK := Lib.hid hck
  have HB0 := Lib.hid hb0
  have HZ0 := Lib.hid hz0
  have HWA := Lib.hid hwa'
  clear he hr hck hb0 hz0 hwa hwa'
  go_enter Tryd.func12, Tryd.ntmps12
  go_upto_region 1 with (fail)
  rw [HWA.out]
  go_wp2_with fail
  (with_reducible refine HCK.out.mono ?_)
  rintro e w1 ⟨rfl, hb1⟩
  have HB1 := Lib.hid (HB0.out.trans (hb1.mono HB0.out.size))
  have hz1 := (But.of_below (fun _ => False) hb1).heap HZ0.out (fun h => h)
  have hfz := maker_free hz1 0
  obtain ⟨r0, r1, r2, r3, r4, r5, r6, r7, r8, r9, r10, r11, r12, r13⟩ := raw_cells hz1
  have z0 : w1.frozen? ⟨w.heap.size, 0, none⟩ = false := maker_free hz1 0
  have z1 : w1.frozen? ⟨w.heap.size, 1, none⟩ = false := maker_free hz1 1
  have z2 : w1.frozen? ⟨w.heap.size, 2, none⟩ = false := maker_free hz1 2
  have z3 : w1.frozen? ⟨w.heap.size, 3, none⟩ = false := maker_free hz1 3
  have z4 : w1.frozen? ⟨w.heap.size, 4, none⟩ = false := maker_free hz1 4
  have z5 : w1.frozen? ⟨w.heap.size, 5, none⟩ = false := maker_free hz1 5
  have z6 : w1.frozen? ⟨w.heap.size, 6, none⟩ = false := maker_free hz1 6
  have z7 : w1.frozen? ⟨w.heap.size, 7, none⟩ = false := maker_free hz1 7
  have z8 : w1.frozen? ⟨w.heap.size, 8, none⟩ = false := maker_free hz1 8
  have z9 : w1.frozen? ⟨w.heap.size, 9, none⟩ = false := maker_free hz1 9
  have z10 : w1.frozen? ⟨w.heap.size, 10, none⟩ = false := maker_free hz1 10
  have z11 : w1.frozen? ⟨w.heap.size, 11, none⟩ = false := maker_free hz1 11
  have z12 : w1.frozen? ⟨w.heap.size, 12, none⟩ = false := maker_free hz1 12
  have z13 : w1.frozen? ⟨w.heap.size, 13, none⟩ = false := maker_free hz1 13
  have HZ1 := Lib.hid hz1
  clear HWA HCK hb1 hz1 hfz
  go_wp2_with fail
  refine bodyPost_ret (results_cell_tmp_row (p := 2) (u := 3) rfl _ _ w.heap.size 23 _ (0, 0) _ rfl (raw_set HZ1.out _ _ _ _ _ _ _ _ _ _ _ _ _ _) Tryd.underlying23 rfl (by kernel_rfl)) rfl ?_
  exact ⟨rfl, HB1.out.trans ((raw_set_but w1 w.heap.size _ _ _ _ _ _ _ _ _ _ _ _ _ _).below (fun k h => by omega) HB1.out.size)⟩
set_option maxHeartbeats 2000000 in
set_option maxRecDepth 100000 in
theorem get_flag (ad : Addr) (c : Nat) (l : List Int) (w : World) (hb : Bytes l) (hl : l.length = 512) (hr : Kd.C (Kd.int .u8) w (some ad) l.length l) (hc : l.length ≤ c) (he : checkOf l = 0) (hk : knownB (rd l 156) = false) :
    Calls Tryd.prog 12 #[.slice (some ad) l.length c] w fun e w' => e = .returned (.tuple #[.agg (rawC rawZ), .int .u8 9]) ∧ Below w.heap.size w w' := by
  obtain ⟨wa, hwa⟩ : ∃ wa, wa = w.alloc (.cells (rawC rawZ) 23) := ⟨_, rfl⟩
  have hb0 : Below w.heap.size w wa := by rw [hwa]; exact (Below.refl _ w).alloc (Nat.le_refl _) _
  have hz0 : wa.heap[w.heap.size]? = some (.cells (rawC rawZ) 23 (0, 0)) := by rw [hwa]; exact heap_alloc_new w _
  have hck := check_is (some ad) c l wa hb (Kd.C_below hr hb0) hc
  have hwa' := hwa.symm
  unfold rawC rawZ at hwa'
  dsimp only at hwa'
  rw [he] at hck
  have hkn := fun W => head_known.calls (rd l 156) _ W (known_f (rd l 156))
  rw [hk] at hkn
  have HK := Lib.hid hkn
  have HR := Lib.hid hr
  have HL := Lib.hid hl
  have HCK := Lib.hid hck
  have HB0 := Lib.hid hb0
  have HZ0 := Lib.hid hz0
  have HWA := Lib.hid hwa'
  have hlb : (156 : Int) < (l.length : Int) := by omega
  clear he hr hck hb0 hz0 hwa hwa' hl hk hkn
  go_enter Tryd.func12, Tryd.ntmps12
  go_upto_region 1 with (fail)
  rw [HWA.out]
  go_wp2_with fail
  (with_reducible refine HCK.out.mono ?_)
  rintro e w1 ⟨rfl, hb1⟩
  have HB1 := Lib.hid (HB0.out.trans (hb1.mono HB0.out.size))
  have HZ1 := Lib.hid ((But.of_below (fun _ => False) hb1).heap HZ0.out (fun h => h))
  clear HWA HCK hb1 HB0 HZ0
  go_upto_region 4 with (fail)
  have HR1 := Lib.hid (Kd.C_below HR.out HB1.out)
  obtain ⟨ad', had, h156⟩ := C_at HR1.out 156 (by decide) (by omega)
  cases had
  have h156' : w1.cell? ⟨ad.block, ad.off + 156, none⟩ = some (.int .u8 (rd l 156)) := by simpa [Addr.add] using h156
  clear h156
  have hS : ∀ W : World, Below w1.heap.size w1 W → (W.cell? ⟨ad.block, ad.off + 156, none⟩ = some (.int .u8 (rd l 156)) ∧ Hid (Kd.C (Kd.int .u8) W (some ad) l.length l)) := fun W hW => ⟨pw_cell_below hW h156', Lib.hid (Kd.C_below HR1.out hW)⟩
  have HS := Lib.hid hS
  clear hS
  go_region_held3 (fun W => W.cell? ⟨ad.block, ad.off + 156, none⟩ = some (.int .u8 (rd l 156)) ∧ Hid (Kd.C (Kd.int .u8) W (some ad) l.length l)) (first | assumption | exact HS.out _ (by (first | exact Below.drew (Below.refl _ w1) | exact ((Below.refl _ w1).alloc (Nat.le_refl _) _).drew))) (first | ((go_at_call 34); (refine (HeadA.mark_calls (some ad) c l _ (HS.out _ (by (first | exact Below.drew (Below.refl _ w1) | exact ((Below.refl _ w1).alloc (Nat.le_refl _) _).drew))).2.out hc (by have := HL.out; omega)).mono ?_); (rintro e w4 ⟨rfl, rfl⟩)))
  all_goals
    obtain ⟨W4, hW4⟩ : ∃ W4, W4 = (w1.alloc (.cells #[.int .i64 (markOf l), .int .u8 (rd l 156), .string ⟨#[]⟩, .string ⟨#[]⟩, .string ⟨#[]⟩, .string ⟨#[]⟩, .string ⟨#[]⟩, .int .i64 0, .int .i64 0, .int .i64 0, .int .i64 0, .int .i64 0, .int .i64 0, .int .i64 0] 23)).drew := ⟨_, rfl⟩
    have HRW := Lib.hid (show W4.heap[w1.heap.size]? = some (.cells (rawC { rawZ with mark := markOf l, flag := rd l 156 }) 23 (0, 0)) by rw [hW4]; exact heap_alloc_new w1 _)
    have HB4 := Lib.hid (show Below w1.heap.size w1 W4 by rw [hW4]; exact ((Below.refl _ w1).alloc (Nat.le_refl _) _).drew)
    obtain ⟨r0, r1, r2, r3, r4, r5, r6, r7, r8, r9, r10, r11, r12, r13⟩ := raw_cells HRW.out
    dsimp only at r0 r1
    clear r2 r3 r4 r5 r6 r7 r8 r9 r10 r11 r12 r13
    go_upto_region 5 with (fail)
    rw [← hW4]
    clear hW4 h156' HS HR HR1
    go_wp2_with fail
    (with_reducible refine (HK.out _).mono ?_)
    rintro e w5 ⟨rfl, hd⟩
    have HB5 := Lib.hid (HB1.out.trans ((HB4.out.trans (hd.below.mono HB4.out.size)).mono HB1.out.size))
    have HZ5 := Lib.hid ((But.of_below (fun _ => False) (HB4.out.trans (hd.below.mono HB4.out.size))).heap HZ1.out (fun h => h))
    obtain ⟨r0, r1, r2, r3, r4, r5, r6, r7, r8, r9, r10, r11, r12, r13⟩ := raw_cells HZ5.out
    have z0 : w5.frozen? ⟨w.heap.size, 0, none⟩ = false := maker_free HZ5.out 0
    have z1 : w5.frozen? ⟨w.heap.size, 1, none⟩ = false := maker_free HZ5.out 1
    have z2 : w5.frozen? ⟨w.heap.size, 2, none⟩ = false := maker_free HZ5.out 2
    have z3 : w5.frozen? ⟨w.heap.size, 3, none⟩ = false := maker_free HZ5.out 3
    have z4 : w5.frozen? ⟨w.heap.size, 4, none⟩ = false := maker_free HZ5.out 4
    have z5 : w5.frozen? ⟨w.heap.size, 5, none⟩ = false := maker_free HZ5.out 5
    have z6 : w5.frozen? ⟨w.heap.size, 6, none⟩ = false := maker_free HZ5.out 6
    have z7 : w5.frozen? ⟨w.heap.size, 7, none⟩ = false := maker_free HZ5.out 7
    have z8 : w5.frozen? ⟨w.heap.size, 8, none⟩ = false := maker_free HZ5.out 8
    have z9 : w5.frozen? ⟨w.heap.size, 9, none⟩ = false := maker_free HZ5.out 9
    have z10 : w5.frozen? ⟨w.heap.size, 10, none⟩ = false := maker_free HZ5.out 10
    have z11 : w5.frozen? ⟨w.heap.size, 11, none⟩ = false := maker_free HZ5.out 11
    have z12 : w5.frozen? ⟨w.heap.size, 12, none⟩ = false := maker_free HZ5.out 12
    have z13 : w5.frozen? ⟨w.heap.size, 13, none⟩ = false := maker_free HZ5.out 13
    clear HK hd HB4 HRW
    go_wp2_with fail
    refine bodyPost_ret (results_cell_tmp_row (p := 2) (u := 3) rfl _ _ w.heap.size 23 _ (0, 0) _ rfl (raw_set HZ5.out _ _ _ _ _ _ _ _ _ _ _ _ _ _) Tryd.underlying23 rfl (by kernel_rfl)) rfl ?_
    exact ⟨rfl, HB5.out.trans ((raw_set_but w5 w.heap.size _ _ _ _ _ _ _ _ _ _ _ _ _ _).below (fun k h => by omega) HB5.out.size)⟩
set_option maxHeartbeats 2000000 in
set_option maxRecDepth 100000 in
theorem get_goes (ad : Addr) (c : Nat) (l : List Int) (w : World) (hb : Bytes l) (hl : l.length = 512) (hr : Kd.C (Kd.int .u8) w (some ad) l.length l) (hc : l.length ≤ c) (he : checkOf l = 0) (hk : knownB (rd l 156) = true) :
    Calls Tryd.prog 12 #[.slice (some ad) l.length c] w fun e w' => e = .returned (.tuple #[.agg (rawC (rawOf l)), .int .u8 0]) ∧ Below w.heap.size w w' := by
  obtain ⟨wa, hwa⟩ : ∃ wa, wa = w.alloc (.cells (rawC rawZ) 23) := ⟨_, rfl⟩
  have hb0 : Below w.heap.size w wa := by rw [hwa]; exact (Below.refl _ w).alloc (Nat.le_refl _) _
  have hz0 : wa.heap[w.heap.size]? = some (.cells (rawC rawZ) 23 (0, 0)) := by rw [hwa]; exact heap_alloc_new w _
  have hck := check_is (some ad) c l wa hb (Kd.C_below hr hb0) hc
  have hwa' := hwa.symm
  unfold rawC rawZ at hwa'
  dsimp only at hwa'
  rw [he] at hck
  have hkn := fun W => head_known.calls (rd l 156) _ W (known_f (rd l 156))
  rw [hk] at hkn
  have HK := Lib.hid hkn
  have hsp := fun W => head_spans.calls 0 100 157 100 265 32 297 32 345 155 W rfl
  have HSP := Lib.hid hsp
  have HRD := Lib.hid hr
  have hlr := fun (f s : Nat) (h : f + s ≤ 512) => part_len l f s (by omega)
  have HLR := Lib.hid hlr
  have HR := Lib.hid hr
  have HL := Lib.hid hl
  have HCK := Lib.hid hck
  have HB0 := Lib.hid hb0
  have HZ0 := Lib.hid hz0
  have HWA := Lib.hid hwa'
  have hlb : (156 : Int) < (l.length : Int) := by omega
  clear he hr hck hb0 hz0 hwa hwa' hl hk hkn hsp hlr
  go_enter Tryd.func12, Tryd.ntmps12
  go_upto_region 1 with (fail)
  rw [HWA.out]
  go_wp2_with fail
  (with_reducible refine HCK.out.mono ?_)
  rintro e w1 ⟨rfl, hb1⟩
  have HB1 := Lib.hid (HB0.out.trans (hb1.mono HB0.out.size))
  have HZ1 := Lib.hid ((But.of_below (fun _ => False) hb1).heap HZ0.out (fun h => h))
  clear HWA HCK hb1 HB0 HZ0
  go_upto_region 4 with (fail)
  have HR1 := Lib.hid (Kd.C_below HR.out HB1.out)
  obtain ⟨ad', had, h156⟩ := C_at HR1.out 156 (by decide) (by omega)
  cases had
  have h156' : w1.cell? ⟨ad.block, ad.off + 156, none⟩ = some (.int .u8 (rd l 156)) := by simpa [Addr.add] using h156
  clear h156
  have hS : ∀ W : World, Below w1.heap.size w1 W → (W.cell? ⟨ad.block, ad.off + 156, none⟩ = some (.int .u8 (rd l 156)) ∧ Hid (Kd.C (Kd.int .u8) W (some ad) l.length l)) := fun W hW => ⟨pw_cell_below hW h156', Lib.hid (Kd.C_below HR1.out hW)⟩
  have HS := Lib.hid hS
  clear hS
  go_region_held3 (fun W => W.cell? ⟨ad.block, ad.off + 156, none⟩ = some (.int .u8 (rd l 156)) ∧ Hid (Kd.C (Kd.int .u8) W (some ad) l.length l)) (first | assumption | exact HS.out _ (by (first | exact Below.drew (Below.refl _ w1) | exact ((Below.refl _ w1).alloc (Nat.le_refl _) _).drew))) (first | ((go_at_call 34); (refine (HeadA.mark_calls (some ad) c l _ (HS.out _ (by (first | exact Below.drew (Below.refl _ w1) | exact ((Below.refl _ w1).alloc (Nat.le_refl _) _).drew))).2.out hc (by have := HL.out; omega)).mono ?_); (rintro e w4 ⟨rfl, rfl⟩)))
  all_goals
    obtain ⟨W4, hW4⟩ : ∃ W4, W4 = (w1.alloc (.cells #[.int .i64 (markOf l), .int .u8 (rd l 156), .string ⟨#[]⟩, .string ⟨#[]⟩, .string ⟨#[]⟩, .string ⟨#[]⟩, .string ⟨#[]⟩, .int .i64 0, .int .i64 0, .int .i64 0, .int .i64 0, .int .i64 0, .int .i64 0, .int .i64 0] 23)).drew := ⟨_, rfl⟩
    have HRW := Lib.hid (show W4.heap[w1.heap.size]? = some (.cells (rawC { rawZ with mark := markOf l, flag := rd l 156 }) 23 (0, 0)) by rw [hW4]; exact heap_alloc_new w1 _)
    have HB4 := Lib.hid (show Below w1.heap.size w1 W4 by rw [hW4]; exact ((Below.refl _ w1).alloc (Nat.le_refl _) _).drew)
    obtain ⟨r0, r1, r2, r3, r4, r5, r6, r7, r8, r9, r10, r11, r12, r13⟩ := raw_cells HRW.out
    dsimp only at r0 r1
    clear r2 r3 r4 r5 r6 r7 r8 r9 r10 r11 r12 r13
    go_upto_region 5 with (fail)
    rw [← hW4]
    have hszr : w1.heap.size < W4.heap.size := (maker_lt2 HRW.out)
    clear hW4 h156' HS HR HR1
    go_wp2_with fail
    (with_reducible refine (HK.out _).mono ?_)
    rintro e w5 ⟨rfl, hd⟩
    have hb15 := HB4.out.trans (hd.below.mono HB4.out.size)
    have HB5 := Lib.hid (HB1.out.trans (hb15.mono HB1.out.size))
    have HZ5 := Lib.hid ((But.of_below (fun _ => False) hb15).heap HZ1.out (fun h => h))
    have HRW5 := Lib.hid ((But.of_below (fun _ => False) hd.below).heap HRW.out (fun h => h))
    have HSZ := Lib.hid (show w.heap.size < w1.heap.size ∧ w1.heap.size < w5.heap.size from ⟨maker_lt2 HZ1.out, Nat.lt_of_lt_of_le hszr hd.below.size⟩)
    clear HK hd HB4 HRW hb15 hszr HB1 HZ1 r0 r1
    go_wp2_with fail
    (with_reducible refine (HSP.out _).mono ?_)
    rintro e w6 ⟨rfl, hb6⟩
    go_upto_region 8 with (fail)
    obtain ⟨W7, hW7⟩ : ∃ W7, W7 = (((((w6.alloc (.cells #[.int .i64 0, .int .i64 100] 60)).alloc (.cells #[.int .i64 157, .int .i64 100] 60)).alloc (.cells #[.int .i64 265, .int .i64 32] 60)).alloc (.cells #[.int .i64 297, .int .i64 32] 60)).alloc (.cells #[.int .i64 345, .int .i64 155] 60)) := ⟨_, rfl⟩
    rw [← hW7]
    obtain ⟨b7, n0, n1, n2, n3, n4⟩ := five_allocs hW7
    have b57 : Below w5.heap.size w5 W7 := hb6.trans (b7.mono hb6.size)
    have HST : Hid (GSt w W7 w.heap.size w1.heap.size w6.heap.size { rawZ with mark := markOf l, flag := rd l 156 }) := Lib.hid ⟨HB5.out.trans (b57.mono HB5.out.size), (But.of_below (fun _ => False) b57).heap HZ5.out (fun h => h), ⟨(But.of_below (fun _ => False) b57).heap HRW5.out (fun h => h), n0, n1, n2, n3, n4⟩, Nat.le_refl _, Nat.le_of_lt HSZ.out.1, HSZ.out.1, Nat.lt_of_lt_of_le HSZ.out.2 hb6.size⟩
    clear hb6 b7 n0 n1 n2 n3 n4 b57 hW7 HSZ HRW5 HZ5 HB5 HSP
    generalize w1.heap.size = R at *
    generalize w6.heap.size = S at *
    generalize w.heap.size = T at *
    have HST := Lib.hid (show GSt w W7 T R S (rw0 (markOf l) (rd l 156) ⟨#[]⟩ ⟨#[]⟩ ⟨#[]⟩ ⟨#[]⟩ ⟨#[]⟩) from HST.out)
    have HRAW := Lib.hid (show rawOf l = { rawOf l with mark := markOf l } from rfl)
    have hrw : rawOf l = rw0 (markOf l) (rd l 156) (txt l 0 100) (txt l 157 100) (if markOf l = 1 then txt l 345 155 else ⟨#[]⟩) (if markOf l = 0 then ⟨#[]⟩ else txt l 265 32) (if markOf l = 0 then ⟨#[]⟩ else txt l 297 32) := rfl
    clear HRAW
    have HRW9 := Lib.hid hrw
    clear hrw
    generalize markOf l = mk at *
    have hof : ∀ W : World, Calls Tryd.prog 36 #[.agg #[.int .i64 0, .int .i64 100], .slice (some ad) l.length c] W fun e w' => e = .returned (.slice (cutAt (some ad) c 0) 100 c) ∧ Below W.heap.size W w' := fun W => of_at (some ad) c l.length 0 100 0 100 W rfl rfl (by have := HL.out; omega) hc (by have := HL.out; omega)
    have OF1 := Lib.hid hof
    have hgt := fun (W : World) (hW : Below w.heap.size w W) => get_at (cutAt (some ad) c 0) c 100 (HeadA.part l 0 100) W (cut_C (f := 0) (s := 100) (Kd.C_below HRD.out hW) (by have := HL.out; omega) hc) (HLR.out _ _ (by omega)) (by have := HL.out; omega)
    have GT1 := Lib.hid hgt
    clear hof hgt
    have hof : ∀ W : World, Calls Tryd.prog 36 #[.agg #[.int .i64 157, .int .i64 100], .slice (some ad) l.length c] W fun e w' => e = .returned (.slice (cutAt (some ad) c 157) 100 (c - 157)) ∧ Below W.heap.size W w' := fun W => of_at (some ad) c l.length 157 100 157 100 W rfl rfl (by have := HL.out; omega) hc (by have := HL.out; omega)
    have OF2 := Lib.hid hof
    have hgt := fun (W : World) (hW : Below w.heap.size w W) => get_at (cutAt (some ad) c 157) (c - 157) 100 (HeadA.part l 157 100) W (cut_C (f := 157) (s := 100) (Kd.C_below HRD.out hW) (by have := HL.out; omega) hc) (HLR.out _ _ (by omega)) (by have := HL.out; omega)
    have GT2 := Lib.hid hgt
    clear hof hgt
    have HST := Lib.hid HST.out.drew
    go_region_held3 (fun W => W.cell? ⟨S, 0, none⟩ = some (.int .i64 0) ∧ W.cell? ⟨S, 1, none⟩ = some (.int .i64 100) ∧ W.cell? ⟨S + 1, 0, none⟩ = some (.int .i64 157) ∧ W.cell? ⟨S + 1, 1, none⟩ = some (.int .i64 100)) (first | assumption | (with_reducible first | exact gst_ab HST.out | exact gst_ab (HST.out.set2 _) | exact gst_ab (HST.out.set3 _) | exact gst_ab ((HST.out.set2 _).set3 _) | exact gst_ab ((HST.out.set3 _).set2 _))) (first | ((go_at_call 36); (first | (with_reducible refine (OF1.out _).mono ?_) | (with_reducible refine (OF2.out _).mono ?_)); (rintro e w5 ⟨rfl, hb5⟩); (have HST2 := Lib.hid (GSt.below (by (with_reducible first | exact GSt.self HST.out | exact GSt.self (HST.out.set2 _) | exact GSt.self (HST.out.set3 _) | exact GSt.self ((HST.out.set2 _).set3 _) | exact GSt.self ((HST.out.set3 _).set2 _))) hb5)); (clear hb5); (have HST := Lib.hid HST2.out); (have fz1 := gst_facts HST.out 2); (have fz2 := gst_facts HST.out 3); (have fc1 := (raw_cells HST.out.2.2.1.1).2.2); (dsimp only [rw0] at fc1); (obtain ⟨fc2, fc3, fc4, fc5, fc6, _⟩ := fc1); (clear HST2)) | ((go_at_call 35); (first | (with_reducible refine (GT1.out _ (by (with_reducible first | exact GSt.old HST.out | exact GSt.old (HST.out.set2 _) | exact GSt.old (HST.out.set3 _) | exact GSt.old ((HST.out.set2 _).set3 _) | exact GSt.old ((HST.out.set3 _).set2 _)))).mono ?_) | (with_reducible refine (GT2.out _ (by (with_reducible first | exact GSt.old HST.out | exact GSt.old (HST.out.set2 _) | exact GSt.old (HST.out.set3 _) | exact GSt.old ((HST.out.set2 _).set3 _) | exact GSt.old ((HST.out.set3 _).set2 _)))).mono ?_)); (rintro e w5 ⟨rfl, rfl⟩)))
    go_upto_region 9 with (fail)
    obtain ⟨W8, hW8⟩ : ∃ W, W = (w5.setCell ⟨R, 2, none⟩ (.string (Txt.getOf (HeadA.part l 0 100)))).setCell ⟨R, 3, none⟩ (.string (Txt.getOf (HeadA.part l 157 100))) := ⟨_, rfl⟩
    have HST9 : Hid (GSt w W8 T R S (rw0 mk (rd l 156) (txt l 0 100) (txt l 157 100) ⟨#[]⟩ ⟨#[]⟩ ⟨#[]⟩)) := Lib.hid (by rw [hW8]; exact (HST.out.set2 _).set3 _)
    clear HST fz1 fz2 fc2 fc3 fc4 fc5 fc6
    have HST := Lib.hid HST9.out
    clear HST9
    rw [← hW8]
    clear hW8
    clear OF1 OF2 GT1 GT2
    have fc1 := (raw_cells HST.out.2.2.1.1)
    dsimp only [rw0] at fc1
    obtain ⟨r0, r1, r2, r3, r4, r5, r6, r7, r8, r9, r10, r11, r12, r13⟩ := fc1
    by_cases hm0 : mk = 0
    · have d3 : (mk != 0) = false := bne_eq_false_iff_eq.2 hm0
      have d4 : (mk == 1) = false := beq_eq_false_iff_ne.2 (by omega)
      have HRAW := Lib.hid (show rawOf l = rw0 mk (rd l 156) (txt l 0 100) (txt l 157 100) ⟨#[]⟩ ⟨#[]⟩ ⟨#[]⟩ by rw [HRW9.out, if_pos hm0, if_pos hm0, if_neg (by omega)])
      clear hm0 HRW9
      have HZ := Lib.hid HST.out.2.1
      obtain ⟨t0, t1, t2, t3, t4, t5, t6, t7, t8, t9, t10, t11, t12, t13⟩ := raw_cells HZ.out
      have z0 : W8.frozen? ⟨T, 0, none⟩ = false := maker_free HZ.out 0
      have z1 : W8.frozen? ⟨T, 1, none⟩ = false := maker_free HZ.out 1
      have z2 : W8.frozen? ⟨T, 2, none⟩ = false := maker_free HZ.out 2
      have z3 : W8.frozen? ⟨T, 3, none⟩ = false := maker_free HZ.out 3
      have z4 : W8.frozen? ⟨T, 4, none⟩ = false := maker_free HZ.out 4
      have z5 : W8.frozen? ⟨T, 5, none⟩ = false := maker_free HZ.out 5
      have z6 : W8.frozen? ⟨T, 6, none⟩ = false := maker_free HZ.out 6
      have z7 : W8.frozen? ⟨T, 7, none⟩ = false := maker_free HZ.out 7
      have z8 : W8.frozen? ⟨T, 8, none⟩ = false := maker_free HZ.out 8
      have z9 : W8.frozen? ⟨T, 9, none⟩ = false := maker_free HZ.out 9
      have z10 : W8.frozen? ⟨T, 10, none⟩ = false := maker_free HZ.out 10
      have z11 : W8.frozen? ⟨T, 11, none⟩ = false := maker_free HZ.out 11
      have z12 : W8.frozen? ⟨T, 12, none⟩ = false := maker_free HZ.out 12
      have z13 : W8.frozen? ⟨T, 13, none⟩ = false := maker_free HZ.out 13
      have HRT := Lib.hid (show ¬ R = T by have := HST.out.2.2.2.2.2.1; omega)
      have hnrt : ¬ T = R := by have := HST.out.2.2.2.2.2.1; omega
      go_wp2_with fail
      refine bodyPost_ret (results_cell_tmp_row (p := 2) (u := 3) rfl _ _ T 23 _ (0, 0) _ rfl (raw_set HZ.out _ _ _ _ _ _ _ _ _ _ _ _ _ _) Tryd.underlying23 rfl (by kernel_rfl)) rfl ?_
      exact ⟨by rw [HRAW.out]; rfl, HST.out.1.trans ((raw_set_but W8 T _ _ _ _ _ _ _ _ _ _ _ _ _ _).below (fun k h => by have := HST.out.2.2.2.1; omega) HST.out.1.size)⟩
    · have d3 : (mk != 0) = true := bne_iff_ne.2 hm0
      go_upto_region 10 with (fail)
      clear r0 r1 r2 r3 r4 r5 r6 r7 r8 r9 r10 r11 r12 r13
      have hof : ∀ W : World, Calls Tryd.prog 36 #[.agg #[.int .i64 265, .int .i64 32], .slice (some ad) l.length c] W fun e w' => e = .returned (.slice (cutAt (some ad) c 265) 32 (c - 265)) ∧ Below W.heap.size W w' := fun W => of_at (some ad) c l.length 265 32 265 32 W rfl rfl (by have := HL.out; omega) hc (by have := HL.out; omega)
      have OF1 := Lib.hid hof
      have hgt := fun (W : World) (hW : Below w.heap.size w W) => get_at (cutAt (some ad) c 265) (c - 265) 32 (HeadA.part l 265 32) W (cut_C (f := 265) (s := 32) (Kd.C_below HRD.out hW) (by have := HL.out; omega) hc) (HLR.out _ _ (by omega)) (by have := HL.out; omega)
      have GT1 := Lib.hid hgt
      clear hof hgt
      have hof : ∀ W : World, Calls Tryd.prog 36 #[.agg #[.int .i64 297, .int .i64 32], .slice (some ad) l.length c] W fun e w' => e = .returned (.slice (cutAt (some ad) c 297) 32 (c - 297)) ∧ Below W.heap.size W w' := fun W => of_at (some ad) c l.length 297 32 297 32 W rfl rfl (by have := HL.out; omega) hc (by have := HL.out; omega)
      have OF2 := Lib.hid hof
      have hgt := fun (W : World) (hW : Below w.heap.size w W) => get_at (cutAt (some ad) c 297) (c - 297) 32 (HeadA.part l 297 32) W (cut_C (f := 297) (s := 32) (Kd.C_below HRD.out hW) (by have := HL.out; omega) hc) (HLR.out _ _ (by omega)) (by have := HL.out; omega)
      have GT2 := Lib.hid hgt
      clear hof hgt
      have HST := Lib.hid HST.out.drew
      go_region_held3 (fun W => W.cell? ⟨S + 1 + 1, 0, none⟩ = some (.int .i64 265) ∧ W.cell? ⟨S + 1 + 1, 1, none⟩ = some (.int .i64 32) ∧ W.cell? ⟨S + 1 + 1 + 1, 0, none⟩ = some (.int .i64 297) ∧ W.cell? ⟨S + 1 + 1 + 1, 1, none⟩ = some (.int .i64 32)) (first | assumption | (with_reducible first | exact gst_cd HST.out | exact gst_cd (HST.out.set5 _) | exact gst_cd (HST.out.set6 _) | exact gst_cd ((HST.out.set5 _).set6 _) | exact gst_cd ((HST.out.set6 _).set5 _))) (first | ((go_at_call 36); (first | (with_reducible refine (OF1.out _).mono ?_) | (with_reducible refine (OF2.out _).mono ?_)); (rintro e w5 ⟨rfl, hb5⟩); (have HST2 := Lib.hid (GSt.below (by (with_reducible first | exact GSt.self HST.out | exact GSt.self (HST.out.set5 _) | exact GSt.self (HST.out.set6 _) | exact GSt.self ((HST.out.set5 _).set6 _) | exact GSt.self ((HST.out.set6 _).set5 _))) hb5)); (clear hb5); (have HST := Lib.hid HST2.out); (have fz1 := gst_facts HST.out 5); (have fz2 := gst_facts HST.out 6); (have fc1 := (raw_cells HST.out.2.2.1.1).2.2); (dsimp only [rw0] at fc1); (obtain ⟨fc2, fc3, fc4, fc5, fc6, _⟩ := fc1); (clear HST2)) | ((go_at_call 35); (first | (with_reducible refine (GT1.out _ (by (with_reducible first | exact GSt.old HST.out | exact GSt.old (HST.out.set5 _) | exact GSt.old (HST.out.set6 _) | exact GSt.old ((HST.out.set5 _).set6 _) | exact GSt.old ((HST.out.set6 _).set5 _)))).mono ?_) | (with_reducible refine (GT2.out _ (by (with_reducible first | exact GSt.old HST.out | exact GSt.old (HST.out.set5 _) | exact GSt.old (HST.out.set6 _) | exact GSt.old ((HST.out.set5 _).set6 _) | exact GSt.old ((HST.out.set6 _).set5 _)))).mono ?_)); (rintro e w5 ⟨rfl, rfl⟩)))
      go_upto_region 11 with (fail)
      obtain ⟨W9, hW9⟩ : ∃ W, W = (w5.setCell ⟨R, 5, none⟩ (.string (Txt.getOf (HeadA.part l 265 32)))).setCell ⟨R, 6, none⟩ (.string (Txt.getOf (HeadA.part l 297 32))) := ⟨_, rfl⟩
      have HST9 : Hid (GSt w W9 T R S (rw0 mk (rd l 156) (txt l 0 100) (txt l 157 100) ⟨#[]⟩ (txt l 265 32) (txt l 297 32))) := Lib.hid (by rw [hW9]; exact (HST.out.set5 _).set6 _)
      clear HST fz1 fz2 fc2 fc3 fc4 fc5 fc6
      have HST := Lib.hid HST9.out
      clear HST9
      rw [← hW9]
      clear hW9
      clear OF1 OF2 GT1 GT2
      have fc1 := (raw_cells HST.out.2.2.1.1)
      dsimp only [rw0] at fc1
      obtain ⟨r0, r1, r2, r3, r4, r5, r6, r7, r8, r9, r10, r11, r12, r13⟩ := fc1
      by_cases hm1 : mk = 1
      · have d4 : (mk == 1) = true := beq_iff_eq.2 hm1
        have HRAW := Lib.hid (show rawOf l = rw0 mk (rd l 156) (txt l 0 100) (txt l 157 100) (txt l 345 155) (txt l 265 32) (txt l 297 32) by rw [HRW9.out, if_neg hm0, if_neg hm0, if_pos hm1])
        clear hm0 hm1 HRW9
        obtain ⟨u4, v4⟩ := (gst_spans HST.out).2.2.2.2
        have hof : ∀ W : World, Calls Tryd.prog 36 #[.agg #[.int .i64 345, .int .i64 155], .slice (some ad) l.length c] W fun e w' => e = .returned (.slice (cutAt (some ad) c 345) 155 (c - 345)) ∧ Below W.heap.size W w' := fun W => of_at (some ad) c l.length 345 155 345 155 W rfl rfl (by have := HL.out; omega) hc (by have := HL.out; omega)
        have OF1 := Lib.hid hof
        have hgt := fun (W : World) (hW : Below w.heap.size w W) => get_at (cutAt (some ad) c 345) (c - 345) 155 (HeadA.part l 345 155) W (cut_C (f := 345) (s := 155) (Kd.C_below HRD.out hW) (by have := HL.out; omega) hc) (HLR.out _ _ (by omega)) (by have := HL.out; omega)
        have GT1 := Lib.hid hgt
        clear hof hgt
        go_wp2_with fail
        (with_reducible refine (OF1.out _).mono ?_)
        rintro e wA ⟨rfl, hbA⟩
        have HST9 := Lib.hid (HST.out.below hbA)
        clear HST hbA r0 r1 r2 r3 r4 r5 r6 r7 r8 r9 r10 r11 r12 r13 OF1 u4 v4
        have HST := Lib.hid HST9.out
        clear HST9
        have fc1 := (raw_cells HST.out.2.2.1.1)
        dsimp only [rw0] at fc1
        obtain ⟨r0, r1, r2, r3, r4, r5, r6, r7, r8, r9, r10, r11, r12, r13⟩ := fc1
        have fz1 := gst_facts HST.out 4
        go_wp2_with fail
        (with_reducible refine (GT1.out _ HST.out.old).mono ?_)
        rintro e wB ⟨rfl, rfl⟩
        clear GT1
        go_upto_region 13 with (fail)
        obtain ⟨W10, hW10⟩ : ∃ W, W = (wB.setCell ⟨R, 4, none⟩ (.string (Txt.getOf (HeadA.part l 345 155)))) := ⟨_, rfl⟩
        have HST9 : Hid (GSt w W10 T R S (rw0 mk (rd l 156) (txt l 0 100) (txt l 157 100) (txt l 345 155) (txt l 265 32) (txt l 297 32))) := Lib.hid (by rw [hW10]; exact (HST.out.set4 _))
        rw [← hW10]
        clear hW10 HST fz1 r0 r1 r2 r3 r4 r5 r6 r7 r8 r9 r10 r11 r12 r13
        have HST := Lib.hid HST9.out
        clear HST9
        have fc1 := (raw_cells HST.out.2.2.1.1)
        dsimp only [rw0] at fc1
        obtain ⟨r0, r1, r2, r3, r4, r5, r6, r7, r8, r9, r10, r11, r12, r13⟩ := fc1
        have HZ := Lib.hid HST.out.2.1
        obtain ⟨t0, t1, t2, t3, t4, t5, t6, t7, t8, t9, t10, t11, t12, t13⟩ := raw_cells HZ.out
        have z0 : W10.frozen? ⟨T, 0, none⟩ = false := maker_free HZ.out 0
        have z1 : W10.frozen? ⟨T, 1, none⟩ = false := maker_free HZ.out 1
        have z2 : W10.frozen? ⟨T, 2, none⟩ = false := maker_free HZ.out 2
        have z3 : W10.frozen? ⟨T, 3, none⟩ = false := maker_free HZ.out 3
        have z4 : W10.frozen? ⟨T, 4, none⟩ = false := maker_free HZ.out 4
        have z5 : W10.frozen? ⟨T, 5, none⟩ = false := maker_free HZ.out 5
        have z6 : W10.frozen? ⟨T, 6, none⟩ = false := maker_free HZ.out 6
        have z7 : W10.frozen? ⟨T, 7, none⟩ = false := maker_free HZ.out 7
        have z8 : W10.frozen? ⟨T, 8, none⟩ = false := maker_free HZ.out 8
        have z9 : W10.frozen? ⟨T, 9, none⟩ = false := maker_free HZ.out 9
        have z10 : W10.frozen? ⟨T, 10, none⟩ = false := maker_free HZ.out 10
        have z11 : W10.frozen? ⟨T, 11, none⟩ = false := maker_free HZ.out 11
        have z12 : W10.frozen? ⟨T, 12, none⟩ = false := maker_free HZ.out 12
        have z13 : W10.frozen? ⟨T, 13, none⟩ = false := maker_free HZ.out 13
        have HRT := Lib.hid (show ¬ R = T by have := HST.out.2.2.2.2.2.1; omega)
        have hnrt : ¬ T = R := by have := HST.out.2.2.2.2.2.1; omega
        go_wp2_with fail
        refine bodyPost_ret (results_cell_tmp_row (p := 2) (u := 3) rfl _ _ T 23 _ (0, 0) _ rfl (raw_set HZ.out _ _ _ _ _ _ _ _ _ _ _ _ _ _) Tryd.underlying23 rfl (by kernel_rfl)) rfl ?_
        exact ⟨by rw [HRAW.out]; rfl, HST.out.1.trans ((raw_set_but W10 T _ _ _ _ _ _ _ _ _ _ _ _ _ _).below (fun k h => by have := HST.out.2.2.2.1; omega) HST.out.1.size)⟩
      · have d4 : (mk == 1) = false := beq_eq_false_iff_ne.2 hm1
        have HRAW := Lib.hid (show rawOf l = rw0 mk (rd l 156) (txt l 0 100) (txt l 157 100) ⟨#[]⟩ (txt l 265 32) (txt l 297 32) by rw [HRW9.out, if_neg hm0, if_neg hm0, if_neg hm1])
        clear hm0 hm1 HRW9
        have HZ := Lib.hid HST.out.2.1
        obtain ⟨t0, t1, t2, t3, t4, t5, t6, t7, t8, t9, t10, t11, t12, t13⟩ := raw_cells HZ.out
        have z0 : W9.frozen? ⟨T, 0, none⟩ = false := maker_free HZ.out 0
        have z1 : W9.frozen? ⟨T, 1, none⟩ = false := maker_free HZ.out 1
        have z2 : W9.frozen? ⟨T, 2, none⟩ = false := maker_free HZ.out 2
        have z3 : W9.frozen? ⟨T, 3, none⟩ = false := maker_free HZ.out 3
        have z4 : W9.frozen? ⟨T, 4, none⟩ = false := maker_free HZ.out 4
        have z5 : W9.frozen? ⟨T, 5, none⟩ = false := maker_free HZ.out 5
        have z6 : W9.frozen? ⟨T, 6, none⟩ = false := maker_free HZ.out 6
        have z7 : W9.frozen? ⟨T, 7, none⟩ = false := maker_free HZ.out 7
        have z8 : W9.frozen? ⟨T, 8, none⟩ = false := maker_free HZ.out 8
        have z9 : W9.frozen? ⟨T, 9, none⟩ = false := maker_free HZ.out 9
        have z10 : W9.frozen? ⟨T, 10, none⟩ = false := maker_free HZ.out 10
        have z11 : W9.frozen? ⟨T, 11, none⟩ = false := maker_free HZ.out 11
        have z12 : W9.frozen? ⟨T, 12, none⟩ = false := maker_free HZ.out 12
        have z13 : W9.frozen? ⟨T, 13, none⟩ = false := maker_free HZ.out 13
        have HRT := Lib.hid (show ¬ R = T by have := HST.out.2.2.2.2.2.1; omega)
        have hnrt : ¬ T = R := by have := HST.out.2.2.2.2.2.1; omega
        go_wp2_with fail
        refine bodyPost_ret (results_cell_tmp_row (p := 2) (u := 3) rfl _ _ T 23 _ (0, 0) _ rfl (raw_set HZ.out _ _ _ _ _ _ _ _ _ _ _ _ _ _) Tryd.underlying23 rfl (by kernel_rfl)) rfl ?_
        exact ⟨by rw [HRAW.out]; rfl, HST.out.1.trans ((raw_set_but W9 T _ _ _ _ _ _ _ _ _ _ _ _ _ _).below (fun k h => by have := HST.out.2.2.2.1; omega) HST.out.1.size)⟩
end Go.Proofs.YtoabboeongbloaaDoor.GetW
/- The chapter's example. -/
set_option linter.unusedVariables false
set_option linter.unusedSimpArgs false
namespace Go.Proofs.YtoabboeongbloaaDoor.GetW
open Go.RowKit Go.Proofs.YtoabboeongbloaaDoorW.PrintWords Go.Proofs.YtoabboeongbloaaDoorW.PrintLast Go.Proofs.YtoabboeongbloaaDoorW.PrintMore Go.Proofs.YtoabboeongbloaaDoorW.Mv Go.Proofs.YtoabboeongbloaaDoorW.HKit Go.Proofs.YtoabboeongbloaaDoorW.But Go.Proofs.YtoabboeongbloaaDoor.HeadA Go.Proofs.YtoabboeongbloaaDoor.PHeadGets Go.Proofs.YtoabboeongbloaaDoor.SumP Go.Proofs.YtoabboeongbloaaDoor.Sums Go.Proofs.YtoabboeongbloaaDoor.Maker Go.Proofs.YtoabboeongbloaaDoor.Fmt
theorem block_C {w : World} {B : Nat} {xs : List Int} (h : w.heap[B]? = some (.cells (nums .u8 xs).toArray 5 (0, 0))) (hl : xs.length ≤ 1000000) : Kd.C (Kd.int .u8) w (some ⟨B, 0, none⟩) xs.length xs := by
  refine Kd.C_of_reads (enc := Value.int .u8) (d := (0 : Int)) (h1 := fun _ => rfl) ⟨rfl, by omega, fun _ => ⟨_, rfl, fun j hj => ?_⟩⟩
  have : w.cell? ⟨B, j, none⟩ = some (.int .u8 (rd xs (j : Int))) := by simp [World.cell?, h, nums, rd, List.getD, hj]
  cases j <;> simpa [Addr.add, rd] using this
theorem check_len {l : List Int} (h : checkOf l = 0) : l.length = 512 := by
  unfold checkOf at h
  by_cases hl : l.length = 512
  · exact hl
  · rw [if_neg hl] at h; cases h
theorem get_calls (A : Option Addr) (c : Nat) (l : List Int) (w : World) (hb : Bytes l) (hr : Kd.C (Kd.int .u8) w A l.length l) (hc : l.length ≤ c) :
    Calls Tryd.prog 12 #[.slice A l.length c] w fun e w' => e = .returned (.tuple #[.agg (rawC (getR l).1), .int .u8 (getR l).2]) ∧ Below w.heap.size w w' := by
  unfold getR
  by_cases he : checkOf l = 0
  · rw [if_pos he]
    have hl := check_len he
    obtain ⟨ad, rfl, _⟩ := C_at hr 0 (by decide) (by omega)
    by_cases hk : knownB (rd l 156) = true
    · rw [if_pos hk]
      exact get_goes ad c l w hb hl hr hc he hk
    · rw [if_neg hk]
      exact get_flag ad c l w hb hl hr hc he (by simpa using hk)
  · rw [if_neg he]
    exact get_bad A c l w hb hr hc he
theorem alive_get : getR (sealOf (List.replicate 512 0)) = (rawZ, 0) := by
  have h0 : checkOf (sealOf (List.replicate 512 0)) = 0 := check_seal (bytes_rep 512) List.length_replicate
  have h1 : knownB (rd (sealOf (List.replicate 512 0)) 156) = true := by decide +kernel
  have h2 : rd (sealOf (List.replicate 512 0)) 156 = 0 := by decide +kernel
  have h3 : markOf (sealOf (List.replicate 512 0)) = 0 := by decide +kernel
  have h4 : txt (sealOf (List.replicate 512 0)) 0 100 = ⟨#[]⟩ := by decide +kernel
  have h5 : txt (sealOf (List.replicate 512 0)) 157 100 = ⟨#[]⟩ := by decide +kernel
  unfold getR
  rw [if_pos h0, if_pos h1]
  unfold rawOf
  rw [h2, h3, h4, h5]
  rfl
def rawA : Raw := ⟨2, 48, ⟨#[97]⟩, ⟨#[]⟩, ⟨#[]⟩, ⟨#[]⟩, ⟨#[]⟩, 0, 0, 0, 0, 0, 0, 0⟩
theorem alive_make : (makeOf rawA false false).2 = 0 ∧ (makeOf rawA false false).1.length = 512 ∧ HeadA.part (makeOf rawA false false).1 257 8 = ustarG := by decide +kernel
theorem raw_eq (W : World) : (binOp .eql 23 (.agg (rawC rawZ)) (.agg (rawC rawZ))).run Tryd.prog W = .ok (.bool true) W := by kernel_rfl
set_option maxHeartbeats 2000000 in
set_option maxRecDepth 100000 in
theorem alive_calls (w : World) (hT : Tab8 w) : Calls Tryd.prog 7 #[] w fun e w' => e = .returned (.bool true) ∧ Below w.heap.size w w' := by
  have hmk : ∀ W : World, (Instr.makeSlice 25 (.int .i64 512) (.int .i64 512)).run Tryd.prog W = .ok (.slice (some ⟨W.heap.size, 0, none⟩) 512 512) (W.alloc (.cells (madeCells #[.int .u8 0] 512) 5)) := print_make (P := Tryd.prog) 25 5 .u8 1 Tryd.underlying25 HeadA.info5 (by decide) 512 (by omega)
  have HT := Lib.hid hT
  obtain ⟨wa, hwa⟩ : ∃ wa, wa = w.alloc (.cells (madeCells #[.int .u8 0] 512) 5) := ⟨_, rfl⟩
  have hb0 : Below w.heap.size w wa := by rw [hwa]; exact (Below.refl _ w).alloc (Nat.le_refl _) _
  have hz0 : wa.heap[w.heap.size]? = some (.cells (nums .u8 (List.replicate 512 0)).toArray 5 (0, 0)) := by rw [hwa, made_zero]; exact heap_alloc_new w _
  have hsl := oakumref03_Seal.calls 1200 (some ⟨w.heap.size, 0, none⟩) 512 (List.replicate 512 0) (sealOf (List.replicate 512 0)) wa (block_C hz0 (by rw [List.length_replicate]; decide)) (by rw [List.length_replicate]; exact Nat.le_refl _) (ref_seal (bytes_rep 512) List.length_replicate)
  rw [List.length_replicate] at hsl
  have HSL := Lib.hid hsl
  have HB0 := Lib.hid hb0
  have HWA := Lib.hid hwa.symm
  have hget := fun (A : Option Addr) (c : Nat) (W : World) (hr : Kd.C (Kd.int .u8) W A (sealOf (List.replicate 512 0)).length (sealOf (List.replicate 512 0))) hc => get_calls A c _ W (seal_bytes (bytes_rep 512)) hr hc
  rw [alive_get] at hget
  dsimp only at hget
  have hmake := fun (W : World) (hW : Tab8 W) => make_calls rawA false false W hW (by decide) (by decide) (by decide) (by decide) (by decide) (by decide)
  have am := alive_make
  generalize makeOf rawA false false = mo at *
  obtain ⟨mx, me⟩ := mo
  obtain ⟨rfl, am1, am2⟩ := am
  dsimp only at am1 am2
  unfold rawC rawA at hmake
  dsimp only at hmake
  unfold rawC rawZ at hget
  dsimp only at hget
  have HGET := Lib.hid hget
  have HMAKE := Lib.hid hmake
  have HX1 := Lib.hid am1
  have HX2 := Lib.hid am2
  clear hT hwa hb0 hz0 hsl hget hmake am1 am2
  go_enter Tryd.func7, Tryd.ntmps7
  go_wp2_with fail
  rw [HWA.out]
  (with_reducible refine HSL.out.mono ?_)
  rintro e w1 ⟨v1, rfl, hR, hb1⟩
  generalize sealOf (List.replicate 512 0) = SL at *
  obtain ⟨A1, c1, rfl, hc1, hC1⟩ := Kd.R_reads hR
  have hg1 := HGET.out A1 c1 w1 hC1 hc1
  have HG1 := Lib.hid hg1
  have HB1 := Lib.hid (HB0.out.trans (hb1.mono HB0.out.size))
  clear hR hC1 hg1 hb1 HGET HSL HWA HB0 hmk
  go_wp2_with fail
  (with_reducible refine HG1.out.mono ?_)
  rintro e w2 ⟨rfl, hb2⟩
  have HB2 := Lib.hid (HB1.out.trans (hb2.mono HB1.out.size))
  clear HG1 hb2 HB1
  go_upto_region 2 with (fail)
  obtain ⟨W3, hW3⟩ : ∃ W3, W3 = w2.alloc (.cells #[.int .i64 0, .int .u8 0, .string ⟨#[]⟩, .string ⟨#[]⟩, .string ⟨#[]⟩, .string ⟨#[]⟩, .string ⟨#[]⟩, .int .i64 0, .int .i64 0, .int .i64 0, .int .i64 0, .int .i64 0, .int .i64 0, .int .i64 0] 23) := ⟨_, rfl⟩
  rw [← hW3]
  have HZ3 := Lib.hid (show W3.heap[w2.heap.size]? = some (.cells (rawC rawZ) 23 (0, 0)) by rw [hW3]; exact heap_alloc_new w2 _)
  have HB3 := Lib.hid (show Below w.heap.size w W3 by rw [hW3]; exact HB2.out.alloc HB2.out.size _)
  have hmk3 := HMAKE.out W3 (tab8_below HT.out HB3.out)
  have HM3 := Lib.hid hmk3
  clear hW3 hmk3 HMAKE HB2
  go_wp2_with fail
  (with_reducible refine HM3.out.mono ?_)
  rintro e w4 ⟨v4, rfl, ho4, hb4⟩
  obtain ⟨A4, c4, rfl, hc4, hC4, _⟩ := own_C ho4 rfl
  have HB4 := Lib.hid (HB3.out.trans (hb4.mono HB3.out.size))
  have hz4 := (But.of_below (fun _ => False) hb4).heap HZ3.out (fun h => h)
  obtain ⟨r0, r1, r2, r3, r4, r5, r6, r7, r8, r9, r10, r11, r12, r13⟩ := raw_cells hz4
  dsimp only [rawZ] at r0 r1 r2 r3 r4 r5 r6 r7 r8 r9 r10 r11 r12 r13
  have heq : ∀ W : World, (binOp .eql 23 (.agg #[.int .i64 0, .int .u8 0, .string ⟨#[]⟩, .string ⟨#[]⟩, .string ⟨#[]⟩, .string ⟨#[]⟩, .string ⟨#[]⟩, .int .i64 0, .int .i64 0, .int .i64 0, .int .i64 0, .int .i64 0, .int .i64 0, .int .i64 0]) (.agg #[.int .i64 0, .int .u8 0, .string ⟨#[]⟩, .string ⟨#[]⟩, .string ⟨#[]⟩, .string ⟨#[]⟩, .string ⟨#[]⟩, .int .i64 0, .int .i64 0, .int .i64 0, .int .i64 0, .int .i64 0, .int .i64 0, .int .i64 0])).run Tryd.prog W = .ok (.bool true) W := fun W => raw_eq W
  have hlen := HX1.out
  have hcut : ∀ W : World, (Instr.slice 25 (.slice A4 512 c4) (some (.int .i64 257)) (some (.int .i64 265)) none).run Tryd.prog W = .ok (.slice (cutAt A4 c4 257) 8 (c4 - 257)) W := cut_run A4 c4 512 257 8 (by omega) (by omega)
  have hCc := cut_C (f := 257) (s := 8) (xs := mx) (c := c4) (by simpa using hC4) (by omega) (by omega)
  rw [HX2.out] at hCc
  have hstr := Kd.C_string (P := Tryd.prog) (c := c4 - 257) Tryd.underlying25 Tryd.underlying5 Tryd.underlying9 hCc
  rw [show strOfNums ustarG = ⟨#[117, 115, 116, 97, 114, 32, 32, 0]⟩ by decide +kernel] at hstr
  rw [hlen]
  generalize cutAt A4 c4 257 = A5 at hcut hstr
  clear ho4 hC4 hCc hb4 HM3 HZ3 hz4 HB3 hlen
  go_wp2_with fail
  go_ret
  exact ⟨rfl, HB4.out⟩
end Go.Proofs.YtoabboeongbloaaDoor.GetW
