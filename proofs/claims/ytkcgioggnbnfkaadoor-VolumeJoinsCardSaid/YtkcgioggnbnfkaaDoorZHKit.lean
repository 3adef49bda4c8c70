/- Laws over any program that this session's contracts by hand use (a text copied over noughts; bytes of a text): each says its own conditions. -/
import Derived.Test.YtkcgioggnbnfkaaDoorZWWords
import Derived.Test.YtkcgioggnbnfkaaDoorZWLast
import Derived.Test.YtkcgioggnbnfkaaDoorZWMore
import Derived.WalkKit
import Derived.WalkSpells
import Derived.WalkLawsBesides
import Derived.Deep.QuietTactic
import Derived.BigQuiet
import Derived.Lib.Hide
import Derived.Lib.BufferWrite
import Derived.Laws.CopyRow
import Derived.Laws.CopyOwn
import Derived.ArgAppend
set_option linter.unusedVariables false
set_option linter.unusedSimpArgs false
namespace Go.Proofs.YtkcgioggnbnfkaaDoorW.HKit
open Go.RowKit Go.Proofs.YtkcgioggnbnfkaaDoorW.PrintWords Go.Proofs.YtkcgioggnbnfkaaDoorW.PrintLast Go.Proofs.YtkcgioggnbnfkaaDoorW.PrintMore

section
variable {P : Program}
/-- copy(dst, s), s a string of any size, dst a row of the call's own that begins at its block's head. -/
theorem run_copy_str (w : World) (dT sT ty e : TypeId) (g n cap : Nat) (s : ByteArray) (cur : Array Value)
    (hu : P.underlying dT = some (.slice e)) (hs : (P.info? e).map (·.size) = some 1) (hg : w.heap[g]? = some (.cells cur e (0, 0))) (hn : n ≤ cur.size) :
    (Builtin.copy_ #[dT, sT] ty #[.slice (some ⟨g, 0, none⟩) n cap, .string s]).run P w =
      .ok (goInt (min s.size n)) (w.setRow g (Lib.byteCells (s.data.toList.take (min s.size n)) ++ cur.toList.drop (min s.size n)).toArray) := by
  have hlen : (Lib.byteCells (s.data.toList.take (min s.size n))).length = min s.size n := by
    simp only [Lib.byteCells, List.length_map, List.length_take, data_length]; omega
  have hst := run_storeCells_at P g 0 e (Lib.byteCells (s.data.toList.take (min s.size n))) 0 cur w hg (by rw [hlen]; omega) (Lib.byteCells_one _)
  have hmin : Nat.min s.size n = min s.size n := rfl
  have htk : List.take (min s.size n) (List.map (fun b : UInt8 => Value.int IntKind.u8 (b.toNat : Int)) s.data.toList) = Lib.byteCells (s.data.toList.take (min s.size n)) := by
    rw [← List.map_take]; rfl
  rw [hlen] at hst
  simp only [Nat.add_zero, Nat.zero_add, List.take_zero, List.nil_append] at hst
  cases hq : P.info? e with
  | none => simp [hq] at hs
  | some i =>
    simp [Builtin.copy_, run_underlying hu, Builtin.lenOf, Builtin.firstCells, sizeOf, typeInfo, hq, hmin]
    rw [htk, hst]
    simp [Result.andThen]
    congr 1
    omega
/-- What a field of n bytes holds when a text has been copied over noughts. -/
def fieldOf (s : ByteArray) (n : Nat) : List Int := (bytesOf s).take n ++ List.replicate (n - s.size) 0
theorem fieldOf_length (s : ByteArray) (n : Nat) : (fieldOf s n).length = n := by
  unfold fieldOf
  rw [List.length_append, List.length_take, bytesOf_length, List.length_replicate]
  omega
theorem setRow_heap_at (w : World) (g : Nat) (cs cur : Array Value) (t : TypeId) (fz : Nat × Nat) (h : w.heap[g]? = some (.cells cur t fz)) : (w.setRow g cs).heap[g]? = some (.cells cs t fz) := by
  simp [World.setRow, Array.getElem?_modify, h]
/-- A block of noughts over which a text has been copied: a row of the call's own. -/
theorem field_row (w : World) (base g e n : Nat) (s : ByteArray) (ok : Nat → Prop) (hok : ok g) (hb : base ≤ g) (hg : w.heap[g]? = some (.cells (madeCells #[.int .u8 0] n) e (0, 0))) (hn : n ≤ 9223372036854775807) :
    Kd.R (Kd.int .u8) e (w.setRow g (Lib.byteCells (s.data.toList.take (min s.size n)) ++ (madeCells #[.int .u8 0] n).toList.drop (min s.size n)).toArray) base ok (.slice (some ⟨g, 0, none⟩) n n) (fieldOf s n) := by
  have hl : (madeCells #[Value.int .u8 0] n).toList = nums .u8 (List.replicate n 0) := by
    apply List.ext_getElem
    · simp [nums, size_madeCells]
    · intro i h1 h2
      have : i < n := by simpa [nums] using h2
      simp [nums, madeCells, Nat.mod_one]
  have hcells : Lib.byteCells (s.data.toList.take (min s.size n)) ++ (madeCells #[Value.int .u8 0] n).toList.drop (min s.size n) = encs (Value.int .u8) (fieldOf s n) := by
    rw [hl]
    unfold fieldOf encs
    rw [List.map_append]
    congr 1
    · unfold bytesOf Lib.byteCells
      rw [← List.map_take, List.map_map]
      rcases Nat.le_total s.size n with h | h
      · rw [Nat.min_eq_left h, List.take_of_length_le (i := n) (by rw [data_length]; exact h), List.take_of_length_le (by rw [data_length]; exact Nat.le_refl _)]
        rfl
      · rw [Nat.min_eq_right h]
        rfl
    · unfold nums
      rw [← List.map_drop, List.drop_replicate]
      congr 2
      omega
  rw [hcells]
  refine Kd.R_of_own ?_ (fun k hk => by
    have : g = k := by simpa [Value.ownBlock] using hk
    subst this; exact hok)
  rw [fieldOf_length]
  refine ⟨by rw [encs_length, fieldOf_length, Nat.mul_one], .inr ⟨g, n, (encs (Value.int .u8) (fieldOf s n)).toArray, rfl, hb, setRow_heap_at w g _ _ e (0, 0) hg, Nat.le_refl _, by simp only [maxLen]; omega, by simp [encs_length, fieldOf_length], ?_⟩⟩
  rw [Nat.mul_one, List.take_of_length_le]
  rw [encs_length, fieldOf_length]; exact Nat.le_refl _
end

def Live (e : Nat) (w : World) (B : Nat) (v : Value) (xs : List Int) : Prop :=
  ∃ (g cap : Nat) (cells : Array Value) (fr : Nat × Nat), v = .slice (some ⟨g, 0, none⟩) xs.length cap ∧ B ≤ g ∧ w.heap[g]? = some (.cells cells e fr) ∧ cells.size = cap ∧ cap ≤ 9223372036854775807 ∧ xs.length ≤ cap ∧
    cells.toList.take xs.length = xs.map (Value.int .u8) ∧ (fr = (0, 0) ∨ fr = (cells.size, cells.size + 1))
theorem live_frozen {w : World} {g e off : Nat} {cells : Array Value} {fr : Nat × Nat} (h : w.heap[g]? = some (.cells cells e fr)) (hf : fr = (0, 0) ∨ fr = (cells.size, cells.size + 1)) (ho : off < cells.size) : w.frozen? ⟨g, off, none⟩ = false := by
  rcases hf with rfl | rfl
  · simp [World.frozen?, h]
  · simp [World.frozen?, h]; omega
theorem live_conv (w : World) (e : Nat) (s : ByteArray) (hs : s.size ≤ 140737488351232) : Live e (Lib.bytesWorld w e s) w.heap.size (.slice (some ⟨w.heap.size, 0, none⟩) s.size (grownCap w s.size 0 e)) (bytesOf s) := by
  have hcap := grownCap_ge w s.size 0 e
  have hsz : (Lib.bytesCells w e s).size = grownCap w s.size 0 e := by
    simp only [Lib.bytesCells, Array.size_append, Array.size_map, Array.size_replicate]
    have : s.data.size = s.size := rfl
    omega
  refine ⟨w.heap.size, grownCap w s.size 0 e, Lib.bytesCells w e s, _, by rw [bytesOf_length], Nat.le_refl _, Lib.bytesWorld_at_new w e s, hsz, grownCap_le_maxLen w s.size 0 e (by simp only [maxLen]; omega), by rw [bytesOf_length]; exact hcap, ?_, .inr rfl⟩
  rw [bytesOf_length]
  simp only [Lib.bytesCells, Array.toList_append, Array.toList_map]
  rw [List.take_append_of_le_length (by rw [List.length_map, data_length]; exact Nat.le_refl _), List.take_of_length_le (by rw [List.length_map, data_length]; exact Nat.le_refl _)]
  simp [bytesOf]
section
variable {P : Program} {ops : Array Oper} {rest : List Oper} {o : Oper} {a : Act} {Q : Exit → Act → World → Prop}
/-- append of one byte to such a row. -/
theorem live_append {W : World} {B e t : Nat} (hgd : o.guard = none) (s x : Operand) (ho : o.op = .call { callee := .builtin .append, args := #[s, x], argTypes := #[t, t] })
    (ht : P.underlying t = some (.slice e)) (hinfo : (P.info? e).map (fun i => (i.zero, i.size, i.bytes)) = some (some (.int .u8 0), 1, 1))
    (v : Value) (xs : List Int) (y : Int) (hs : a.eval s = v) (hx : a.eval x = .slice (some ⟨W.heap.size, 0, none⟩) 1 1)
    (H : Live e W B v xs) (hB : B ≤ W.heap.size) (hl : xs.length + 1 ≤ 140737488355328)
    (h : ∀ v1 w1, Live e w1 B v1 (xs ++ [y]) → Below B W w1 → wpList P ops Q rest (a.put o.dst v1) w1) :
    wpList P ops Q (o :: rest) a (W.alloc (.cells #[.int .u8 y] e)) := by
  obtain ⟨i0, hi, hzz⟩ := Option.map_eq_some_iff.1 hinfo
  simp only [Prod.mk.injEq] at hzz
  obtain ⟨hz0, hz1, hz2⟩ := hzz
  obtain ⟨g, cap, cells, fr, rfl, hBg, hg, hc, hm, hle, htk, hf⟩ := H
  have hlt : g < W.heap.size := (Array.getElem?_eq_some_iff.1 hg).1
  have hg1 : (W.alloc (.cells #[.int .u8 y] e)).heap[g]? = some (.cells cells e fr) := (Below.heap_alloc _ _ _ hlt).trans hg
  have hnew : (W.alloc (.cells #[.int .u8 y] e)).heap[W.heap.size]? = some (.cells #[.int .u8 y] e (0, 0)) := heap_alloc_new W _
  have hbel : Below B W (W.alloc (.cells #[.int .u8 y] e)) := (Below.refl B W).alloc hB _
  refine wpList_append_arg (W.alloc (.cells #[.int .u8 y] e)) hgd s x t ho e i0 (.int .u8 0) 1 1 ht hi hz0 hz1 hz2 rfl (by decide) g 0 xs.length cap (xs.map (Value.int .u8)) hs (by simp) (fun j u hj => ?_)
    ⟨W.heap.size, 0, none⟩ 1 1 [.int .u8 y] hx rfl (fun j u hj => ?_) (by simp [Value.oneCell']) (fun hr j hj => ?_) (by simp only [maxLen]; omega) (by omega) (fun hr => ?_) (fun hr v1 w1 hown hgr => ?_)
  · rw [Nat.zero_add, cell_of_row _ g j cells e fr hg1, ← Array.getElem?_toList]
    have hj1 : j < xs.length := by
      rcases Nat.lt_or_ge j xs.length with h | h
      · exact h
      · rw [List.getElem?_eq_none (by simpa using h)] at hj; cases hj
    have h1 : (cells.toList.take xs.length)[j]? = (xs.map (Value.int .u8))[j]? := by rw [htk]
    rw [List.getElem?_take, if_pos hj1] at h1
    rw [h1]; exact hj
  · match j, hj with
    | 0, hj => simp at hj; subst hj; rw [add_plain, cell_of_row _ _ 0 _ e (0, 0) hnew]; rfl
    | j + 1, hj => simp at hj
  · have hj0 : j = 0 := by simpa using hj
    subst hj0
    refine ⟨?_, live_frozen hg1 hf (by omega)⟩
    rw [cell_of_row _ g _ cells e fr hg1, Array.getElem?_eq_getElem (by omega)]
    rfl
  · have hw : (W.alloc (.cells #[.int .u8 y] e)).setCells g (0 + xs.length * 1) [.int .u8 y] = (W.alloc (.cells #[.int .u8 y] e)).setCell ⟨g, xs.length, none⟩ (.int .u8 y) := by
      simp [World.setCells]
    have hset : ((W.alloc (.cells #[.int .u8 y] e)).setCell ⟨g, xs.length, none⟩ (.int .u8 y)).heap[g]? = some (.cells (cells.setIfInBounds xs.length (.int .u8 y)) e fr) := by
      simp [World.setCell, Array.getElem?_modify, hg1]
    rw [hw]
    refine h _ _ ⟨g, cap, cells.setIfInBounds xs.length (.int .u8 y), fr, by rw [List.length_append]; rfl, hBg, hset, by simpa using hc, hm, by simpa using hr, ?_, by simpa using hf⟩ (hbel.setCell hBg _)
    rw [List.length_append, List.map_append, Array.toList_setIfInBounds]
    simp only [List.length_cons, List.length_nil, Nat.zero_add, List.map_cons, List.map_nil]
    have hsz : xs.length < cells.size := by omega
    rw [List.take_add_one, List.take_set_of_le (Nat.le_refl _), htk]
    simp [List.getElem?_set, hsz]
  · have hgrow : Below B (W.alloc (.cells #[.int .u8 y] e)) w1 := (Below.refl B _).grown hgr (by simp; omega) (by simp)
    have hrest := hown.2
    rcases hrest with ⟨_, h0⟩ | ⟨g1, cap1, cur, rfl, hb1, hh1, h1, h2, h3, h4⟩
    · omega
    · refine h _ _ ⟨g1, cap1, cur, (0, 0), by rw [List.length_append]; rfl, ?_, hh1, by omega, by simpa [maxLen] using h2, by simpa using h1, ?_, .inl rfl⟩ (hbel.trans hgrow)
      · have := hb1; simp at this; omega
      · rw [List.length_append, List.map_append]
        simpa using h4
end

theorem C_len {α : Type} {k : Kd α} {w : World} {A : Option Addr} {n : Nat} {xs : List α} (h : k.C w A n xs) : xs.length = n := h.1
theorem C_cut1 {k : IntKind} {w : World} {A : Option Addr} {n c : Nat} {xs : List Int} (h : (Kd.int k).C w A n xs) (h0 : 0 < n) (hc : n ≤ c) : (Kd.int k).C w (if c = 1 then A else A.map (·.add 1)) (n - 1) xs.tail := by
  have hl := C_len h
  subst hl
  have := Kd.C_drop (m := 1) (c := c) h (by omega) hc
  rw [List.drop_one, List.length_tail] at this
  exact this
theorem slice1 {P : Program} (t e : TypeId) (kl : IntKind) {i : TypeInfo} (ht : P.underlying t = some (.slice e)) (hi : P.info? e = some i) (hsz : i.size = 1) (A : Option Addr) (n c : Nat) (h0 : 0 < n) :
    ∀ W : World, (Instr.slice t (.slice A n c) (some (.int kl 1)) none none).run P W = .ok (.slice (if c = 1 then A else A.map (·.add 1)) (n - 1) (c - 1)) W := by
  have := cut_from (P := P) t e kl ht hi 1 hsz A n c 1 (by omega) (by omega)
  simpa using this

end Go.Proofs.YtkcgioggnbnfkaaDoorW.HKit
