/- Contracts of eight functions of chapter 2 (text and its reference), each walked once: what the call returns, and that nothing that existed before it has changed; conditions stand with each. -/
import Derived.Test.YtkcgioggnbnfkaaDoorZOct
import Derived.Test.YtkcgioggnbnfkaaDoorZShelf
import Derived.Test.YtkcgioggnbnfkaaDoorZWWords
import Derived.Test.YtkcgioggnbnfkaaDoorZWLast
import Derived.Test.YtkcgioggnbnfkaaDoorZWMore
import Derived.Test.YtkcgioggnbnfkaaDoorZHKit
import Derived.WalkKit
import Derived.WalkSpells
import Derived.WalkLawsBesides
import Derived.Deep.QuietTactic
import Derived.BigQuiet
import Derived.Lib.Hide
set_option linter.unusedVariables false
set_option maxRecDepth 100000
set_option linter.unusedSimpArgs false
namespace Go.Proofs.YtkcgioggnbnfkaaDoor.Txt
open Go.RowKit Go.Proofs.YtkcgioggnbnfkaaDoorW.PrintWords Go.Proofs.YtkcgioggnbnfkaaDoorW.PrintLast Go.Proofs.YtkcgioggnbnfkaaDoorW.PrintMore Go.Proofs.YtkcgioggnbnfkaaDoorW.HKit

theorem clean_calls (s : ByteArray) (w : World) : Calls Tryd.prog 46 #[.string s] w fun e w' => e = .returned (.bool (decide (Lib.indexByte s.data.toList 0 < 0))) ∧ w = w' := by
  go_enter Tryd.func46, Tryd.ntmps46
  go_wp2_with (go_at_call 52; refine (Tryd.strings_IndexByte _ _ _).mono ?_; rintro e w' ⟨rfl, rfl⟩)
  go_ret
  exact ⟨rfl, rfl⟩

/-- text.Get: the bytes ahead of the first nought. -/
def getOf (xs : List Int) : ByteArray := if 0 ≤ Lib.indexByte (Lib.bytesOf xs) 0 then strOfNums (xs.take (Lib.indexByte (Lib.bytesOf xs) 0).toNat) else strOfNums xs
theorem byteInfo : (Tryd.prog.info? 5).map (fun i => (i.zero, i.size, i.bytes)) = some (some (.int .u8 0), 1, 1) := by kernel_rfl
theorem byteSize : (Tryd.prog.info? 5).map (·.size) = some 1 := by kernel_rfl
/-- Is a text without a nought? -/
def cleanB (s : ByteArray) : Bool := decide (Lib.indexByte s.data.toList 0 < 0)
/-- text.Put. -/
def putOf (s : ByteArray) (n : Int) : List Int × Int := if n < 0 ∨ 65536 < n then ([], 2) else if cleanB s = false then ([], 15) else if n < s.size then ([], 13) else (fieldOf s n.toNat, 0)
/-- What the callers are told of a row that is made. -/
def Made (w : World) (xs : List Int) (c : Int) (e : Ending) (w' : World) : Prop := ∃ v0_ : Value, e = .returned (.tuple #[v0_, .int .u8 c]) ∧ Kd.R (Kd.int .u8) 5 w' w.heap.size (fun _ => True) v0_ xs ∧ Below w.heap.size w w'
set_option maxHeartbeats 1000000 in
theorem put_calls (s : ByteArray) (n : Int) (w : World) (hs : s.size ≤ 140737488351232) :
    Calls Tryd.prog 39 #[.string s, .int .i64 n] w (Made w (putOf s n).1 (putOf s n).2) := by
  by_cases h1 : n < 0
  · have hfin : putOf s n = ([], 2) := by unfold putOf; rw [if_pos (Or.inl h1)]
    rw [hfin]
    clear hfin
    go_enter Tryd.func39, Tryd.ntmps39
    go_wp2
    go_ret2
    exact ⟨_, rfl, Kd.R_nil _ _ _ _ _, Below.refl _ _⟩
  by_cases h2 : 65536 < n
  · have hfin : putOf s n = ([], 2) := by unfold putOf; rw [if_pos (Or.inr h2)]
    rw [hfin]
    clear hfin
    go_enter Tryd.func39, Tryd.ntmps39
    go_wp2
    go_ret2
    exact ⟨_, rfl, Kd.R_nil _ _ _ _ _, Below.refl _ _⟩
  have h0 : 0 ≤ n := by omega
  obtain ⟨m, rfl⟩ := Int.eq_ofNat_of_zero_le h0
  have hd1 : decide ((m : Int) < 0) = false := by simp
  have hd2 : decide ((65536 : Int) < (m : Int)) = false := by simpa using h2
  by_cases h3 : cleanB s = false
  · have hfin : putOf s m = ([], 15) := by unfold putOf; rw [if_neg (by omega), if_pos h3]
    rw [hfin]
    have H3 := Lib.hid h3
    clear hfin h3
    go_enter Tryd.func39, Tryd.ntmps39
    go_wp2_with fail
    refine (clean_calls s w).mono ?_
    rintro e w' ⟨rfl, rfl⟩
    rw [show decide (Lib.indexByte s.data.toList 0 < 0) = false from H3.out]
    go_wp2
    go_ret2
    exact ⟨_, rfl, Kd.R_nil _ _ _ _ _, Below.refl _ _⟩
  have h3' : cleanB s = true := by simpa using h3
  have H3 := Lib.hid h3'
  clear h3'
  by_cases h4 : (m : Int) < s.size
  · have hfin : putOf s m = ([], 13) := by unfold putOf; rw [if_neg (by omega), if_neg h3, if_pos h4]
    rw [hfin]
    clear hfin h3
    go_enter Tryd.func39, Tryd.ntmps39
    go_wp2_with fail
    refine (clean_calls s w).mono ?_
    rintro e w' ⟨rfl, rfl⟩
    rw [show decide (Lib.indexByte s.data.toList 0 < 0) = true from H3.out]
    go_wp2
    go_ret2
    exact ⟨_, rfl, Kd.R_nil _ _ _ _ _, Below.refl _ _⟩
  · have hfin : putOf s m = (fieldOf s m, 0) := by unfold putOf; rw [if_neg (by omega), if_neg h3, if_neg h4, Int.toNat_natCast]
    rw [hfin]
    clear hfin h3
    have hmk := print_make (P := Tryd.prog) 22 5 .u8 1 Tryd.underlying22 byteInfo (by decide) m (by omega)
    have hcp := run_copy_str (P := Tryd.prog) (w.alloc (.cells (madeCells #[.int .u8 0] m) 5)) 22 9 3 5 w.heap.size m m s (madeCells #[.int .u8 0] m) Tryd.underlying22 byteSize (heap_alloc_new w _) (by simp [size_madeCells])
    have hrow := field_row (w.alloc (.cells (madeCells #[.int .u8 0] m) 5)) w.heap.size w.heap.size 5 m s (fun _ => True) trivial (Nat.le_refl _) (heap_alloc_new w _) (by omega)
    have hbel := below_setRow (g := w.heap.size) ((Below.refl w.heap.size w).alloc (Nat.le_refl _) (.cells (madeCells #[.int .u8 0] m) 5)) (Nat.le_refl _) (Lib.byteCells (s.data.toList.take (min s.size m)) ++ (madeCells #[Value.int .u8 0] m).toList.drop (min s.size m)).toArray
    have HR := Lib.hid hrow
    have HB := Lib.hid hbel
    clear hrow hbel
    generalize (w.alloc (.cells (madeCells #[.int .u8 0] m) 5)).setRow w.heap.size (Lib.byteCells (s.data.toList.take (min s.size m)) ++ (madeCells #[Value.int .u8 0] m).toList.drop (min s.size m)).toArray = w2 at hcp HR HB
    go_enter Tryd.func39, Tryd.ntmps39
    go_wp2_with fail
    refine (clean_calls s w).mono ?_
    rintro e w' ⟨rfl, rfl⟩
    rw [show decide (Lib.indexByte s.data.toList 0 < 0) = true from H3.out]
    go_wp2
    go_ret2
    exact ⟨_, rfl, HR.out, HB.out⟩

/-- oakumref02.Pad, of a size that is asked for here. -/
def padOf (s : ByteArray) (n : Int) : List Int := bytesOf s ++ List.replicate (n.toNat - s.size) 0
theorem padOf_step (s : ByteArray) (j : Nat) : bytesOf s ++ List.replicate j 0 ++ [0] = bytesOf s ++ List.replicate (j + 1) 0 := by
  rw [List.append_assoc, ← List.replicate_succ']
end Go.Proofs.YtkcgioggnbnfkaaDoor.Txt
