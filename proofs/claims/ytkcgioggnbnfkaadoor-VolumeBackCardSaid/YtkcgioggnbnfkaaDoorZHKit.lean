/- Laws over any program that this session's contracts by hand use (a text copied over noughts; bytes of a text): each says its own conditions. -/
import Derived.Test.YtkcgioggnbnfkaaDoorZWWords
import Derived.Test.YtkcgioggnbnfkaaDoorZWLast
import Derived.Test.YtkcgioggnbnfkaaDoorZWMore
import Derived.WalkKit
import Derived.WalkSpells
import Derived.WalkLawsBesides
import Derived.Deep.QuietTactic
import Derived.BigQuiet
import Derived.Lib.Hide
import Derived.Lib.BufferWrite
import Derived.Laws.CopyRow
import Derived.Laws.CopyOwn
import Derived.ArgAppend
set_option linter.unusedVariables false
set_option linter.unusedSimpArgs false
namespace Go.Proofs.YtkcgioggnbnfkaaDoorW.HKit
open Go.RowKit Go.Proofs.YtkcgioggnbnfkaaDoorW.PrintWords Go.Proofs.YtkcgioggnbnfkaaDoorW.PrintLast Go.Proofs.YtkcgioggnbnfkaaDoorW.PrintMore

section
variable {P : Program}
/-- copy(dst, s), s a string of any size, dst a row of the call's own that begins at its block's head. -/
theorem run_copy_str (w : World) (dT sT ty e : TypeId) (g n cap : Nat) (s : ByteArray) (cur : Array Value)
    (hu : P.underlying dT = some (.slice e)) (hs : (P.info? e).map (·.size) = some 1) (hg : w.heap[g]? = some (.cells cur e (0, 0))) (hn : n ≤ cur.size) :
    (Builtin.copy_ #[dT, sT] ty #[.slice (some ⟨g, 0, none⟩) n cap, .string s]).run P w =
      .ok (goInt (min s.size n)) (w.setRow g (Lib.byteCells (s.data.toList.take (min s.size n)) ++ cur.toList.drop (min s.size n)).toArray) := by
  have hlen : (Lib.byteCells (s.data.toList.take (min s.size n))).length = min s.size n := by
    simp only [Lib.byteCells, List.length_map, List.length_take, data_length]; omega
  have hst := run_storeCells_at P g 0 e (Lib.byteCells (s.data.toList.take (min s.size n))) 0 cur w hg (by rw [hlen]; omega) (Lib.byteCells_one _)
  have hmin : Nat.min s.size n = min s.size n := rfl
  have htk : List.take (min s.size n) (List.map (fun b : UInt8 => Value.int IntKind.u8 (b.toNat : Int)) s.data.toList) = Lib.byteCells (s.data.toList.take (min s.size n)) := by
    rw [← List.map_take]; rfl
  rw [hlen] at hst
  simp only [Nat.add_zero, Nat.zero_add, List.take_zero, List.nil_append] at hst
  cases hq : P.info? e with
  | none => simp [hq] at hs
  | some i =>
    simp [Builtin.copy_, run_underlying hu, Builtin.lenOf, Builtin.firstCells, sizeOf, typeInfo, hq, hmin]
    rw [htk, hst]
    simp [Result.andThen]
    congr 1
    omega
/-- What a field of n bytes holds when a text has been copied over noughts. -/
def fieldOf (s : ByteArray) (n : Nat) : List Int := (bytesOf s).take n ++ List.replicate (n - s.size) 0
theorem fieldOf_length (s : ByteArray) (n : Nat) : (fieldOf s n).length = n := by
  unfold fieldOf
  rw [List.length_append, List.length_take, bytesOf_length, List.length_replicate]
  omega
theorem setRow_heap_at (w : World) (g : Nat) (cs cur : Array Value) (t : TypeId) (fz : Nat × Nat) (h : w.heap[g]? = some (.cells cur t fz)) : (w.setRow g cs).heap[g]? = some (.cells cs t fz) := by
  simp [World.setRow, Array.getElem?_modify, h]
/-- A block of noughts over which a text has been copied: a row of the call's own. -/
theorem field_row (w : World) (base g e n : Nat) (s : ByteArray) (ok : Nat → Prop) (hok : ok g) (hb : base ≤ g) (hg : w.heap[g]? = some (.cells (madeCells #[.int .u8 0] n) e (0, 0))) (hn : n ≤ 9223372036854775807) :
    Kd.R (Kd.int .u8) e (w.setRow g (Lib.byteCells (s.data.toList.take (min s.size n)) ++ (madeCells #[.int .u8 0] n).toList.drop (min s.size n)).toArray) base ok (.slice (some ⟨g, 0, none⟩) n n) (fieldOf s n) := by
  have hl : (madeCells #[Value.int .u8 0] n).toList = nums .u8 (List.replicate n 0) := by
    apply List.ext_getElem
    · simp [nums, size_madeCells]
    · intro i h1 h2
      have : i < n := by simpa [nums] using h2
      simp [nums, madeCells, Nat.mod_one]
  have hcells : Lib.byteCells (s.data.toList.take (min s.size n)) ++ (madeCells #[Value.int .u8 0] n).toList.drop (min s.size n) = encs (Value.int .u8) (fieldOf s n) := by
    rw [hl]
    unfold fieldOf encs
    rw [List.map_append]
    congr 1
    · unfold bytesOf Lib.byteCells
      rw [← List.map_take, List.map_map]
      rcases Nat.le_total s.size n with h | h
      · rw [Nat.min_eq_left h, List.take_of_length_le (i := n) (by rw [data_length]; exact h), List.take_of_length_le (by rw [data_length]; exact Nat.le_refl _)]
        rfl
      · rw [Nat.min_eq_right h]
        rfl
    · unfold nums
      rw [← List.map_drop, List.drop_replicate]
      congr 2
      omega
  rw [hcells]
  refine Kd.R_of_own ?_ (fun k hk => by
    have : g = k := by simpa [Value.ownBlock] using hk
    subst this; exact hok)
  rw [fieldOf_length]
  refine ⟨by rw [encs_length, fieldOf_length, Nat.mul_one], .inr ⟨g, n, (encs (Value.int .u8) (fieldOf s n)).toArray, rfl, hb, setRow_heap_at w g _ _ e (0, 0) hg, Nat.le_refl _, by simp only [maxLen]; omega, by simp [encs_length, fieldOf_length], ?_⟩⟩
  rw [Nat.mul_one, List.take_of_length_le]
  rw [encs_length, fieldOf_length]; exact Nat.le_refl _
end

def Live (e : Nat) (w : World) (B : Nat) (v : Value) (xs : List Int) : Prop :=
  ∃ (g cap : Nat) (cells : Array Value) (fr : Nat × Nat), v = .slice (some ⟨g, 0, none⟩) xs.length cap ∧ B ≤ g ∧ w.heap[g]? = some (.cells cells e fr) ∧ cells.size = cap ∧ cap ≤ 9223372036854775807 ∧ xs.length ≤ cap ∧
    cells.toList.take xs.length = xs.map (Value.int .u8) ∧ (fr = (0, 0) ∨ fr = (cells.size, cells.size + 1))

theorem C_len {α : Type} {k : Kd α} {w : World} {A : Option Addr} {n : Nat} {xs : List α} (h : k.C w A n xs) : xs.length = n := h.1
theorem C_cut1 {k : IntKind} {w : World} {A : Option Addr} {n c : Nat} {xs : List Int} (h : (Kd.int k).C w A n xs) (h0 : 0 < n) (hc : n ≤ c) : (Kd.int k).C w (if c = 1 then A else A.map (·.add 1)) (n - 1) xs.tail := by
  have hl := C_len h
  subst hl
  have := Kd.C_drop (m := 1) (c := c) h (by omega) hc
  rw [List.drop_one, List.length_tail] at this
  exact this
theorem slice1 {P : Program} (t e : TypeId) (kl : IntKind) {i : TypeInfo} (ht : P.underlying t = some (.slice e)) (hi : P.info? e = some i) (hsz : i.size = 1) (A : Option Addr) (n c : Nat) (h0 : 0 < n) :
    ∀ W : World, (Instr.slice t (.slice A n c) (some (.int kl 1)) none none).run P W = .ok (.slice (if c = 1 then A else A.map (·.add 1)) (n - 1) (c - 1)) W := by
  have := cut_from (P := P) t e kl ht hi 1 hsz A n c 1 (by omega) (by omega)
  simpa using this

end Go.Proofs.YtkcgioggnbnfkaaDoorW.HKit
