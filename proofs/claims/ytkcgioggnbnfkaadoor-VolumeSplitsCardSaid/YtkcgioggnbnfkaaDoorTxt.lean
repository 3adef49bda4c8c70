/- Contracts of eight functions of chapter 2 (text and its reference), each walked once: what the call returns, and that nothing that existed before it has changed; conditions stand with each. -/
import Derived.Test.YtkcgioggnbnfkaaDoorOct
import Derived.Test.YtkcgioggnbnfkaaDoorShelf
import Derived.Test.YtkcgioggnbnfkaaDoorWWords
import Derived.Test.YtkcgioggnbnfkaaDoorWLast
import Derived.Test.YtkcgioggnbnfkaaDoorWMore
import Derived.Test.YtkcgioggnbnfkaaDoorHKit
import Derived.WalkKit
import Derived.WalkSpells
import Derived.WalkLawsBesides
import Derived.Deep.QuietTactic
import Derived.BigQuiet
import Derived.Lib.Hide
set_option linter.unusedVariables false
set_option maxRecDepth 100000
set_option linter.unusedSimpArgs false
namespace Go.Proofs.YtkcgioggnbnfkaaDoor.Txt
open Go.RowKit Go.Proofs.YtkcgioggnbnfkaaDoorW.PrintWords Go.Proofs.YtkcgioggnbnfkaaDoorW.PrintLast Go.Proofs.YtkcgioggnbnfkaaDoorW.PrintMore Go.Proofs.YtkcgioggnbnfkaaDoorW.HKit

/-- Where a nought stands first; -1: nowhere. -/
def nought (l : List UInt8) : Int := Lib.indexByte l 0

theorem clean_calls (s : ByteArray) (w : World) : Calls Tryd.prog 46 #[.string s] w fun e w' => e = .returned (.bool (decide (Lib.indexByte s.data.toList 0 < 0))) ∧ w = w' := by
  go_enter Tryd.func46, Tryd.ntmps46
  go_wp2_with (go_at_call 52; refine (Tryd.strings_IndexByte _ _ _).mono ?_; rintro e w' ⟨rfl, rfl⟩)
  go_ret
  exact ⟨rfl, rfl⟩

/-- text.Get: the bytes ahead of the first nought. -/
def getOf (xs : List Int) : ByteArray := if 0 ≤ Lib.indexByte (Lib.bytesOf xs) 0 then strOfNums (xs.take (Lib.indexByte (Lib.bytesOf xs) 0).toNat) else strOfNums xs
theorem index_lt (c : UInt8) : ∀ l : List UInt8, Lib.indexByte l c < l.length ∨ Lib.indexByte l c = -1
  | [] => Or.inr rfl
  | b :: l => by
    unfold Lib.indexByte
    have ih := index_lt c l
    simp only [List.length_cons]
    split
    · left; omega
    · split
      · right; rfl
      · rename_i h
        left
        rcases ih with ih | ih
        · omega
        · rw [ih] at h; simp at h
theorem index_m1 (c : UInt8) : ∀ l : List UInt8, Lib.indexByte l c < 0 → Lib.indexByte l c = -1
  | [], _ => rfl
  | b :: l, h => by
    unfold Lib.indexByte at h ⊢
    have ih := index_m1 c l
    split at h
    · omega
    · rename_i hb
      rw [if_neg hb]
      split at h
      · rename_i hm
        rw [if_pos hm]
      · rename_i hm
        have := ih (by omega)
        rw [this] at hm; simp at hm
theorem byteInfo : (Tryd.prog.info? 5).map (fun i => (i.zero, i.size, i.bytes)) = some (some (.int .u8 0), 1, 1) := by kernel_rfl
theorem byteSize : (Tryd.prog.info? 5).map (·.size) = some 1 := by kernel_rfl
/-- Is a text without a nought? -/
def cleanB (s : ByteArray) : Bool := decide (Lib.indexByte s.data.toList 0 < 0)
/-- text.Put. -/
def putOf (s : ByteArray) (n : Int) : List Int × Int := if n < 0 ∨ 65536 < n then ([], 2) else if cleanB s = false then ([], 15) else if n < s.size then ([], 13) else (fieldOf s n.toNat, 0)
/-- What the callers are told of a row that is made. -/
def Made (w : World) (xs : List Int) (c : Int) (e : Ending) (w' : World) : Prop := ∃ v0_ : Value, e = .returned (.tuple #[v0_, .int .u8 c]) ∧ Kd.R (Kd.int .u8) 5 w' w.heap.size (fun _ => True) v0_ xs ∧ Below w.heap.size w w'
set_option maxHeartbeats 1000000 in
theorem put_calls (s : ByteArray) (n : Int) (w : World) (hs : s.size ≤ 140737488351232) :
    Calls Tryd.prog 39 #[.string s, .int .i64 n] w (Made w (putOf s n).1 (putOf s n).2) := by
  by_cases h1 : n < 0
  · have hfin : putOf s n = ([], 2) := by unfold putOf; rw [if_pos (Or.inl h1)]
    rw [hfin]
    clear hfin
    go_enter Tryd.func39, Tryd.ntmps39
    go_wp2
    go_ret2
    exact ⟨_, rfl, Kd.R_nil _ _ _ _ _, Below.refl _ _⟩
  by_cases h2 : 65536 < n
  · have hfin : putOf s n = ([], 2) := by unfold putOf; rw [if_pos (Or.inr h2)]
    rw [hfin]
    clear hfin
    go_enter Tryd.func39, Tryd.ntmps39
    go_wp2
    go_ret2
    exact ⟨_, rfl, Kd.R_nil _ _ _ _ _, Below.refl _ _⟩
  have h0 : 0 ≤ n := by omega
  obtain ⟨m, rfl⟩ := Int.eq_ofNat_of_zero_le h0
  have hd1 : decide ((m : Int) < 0) = false := by simp
  have hd2 : decide ((65536 : Int) < (m : Int)) = false := by simpa using h2
  by_cases h3 : cleanB s = false
  · have hfin : putOf s m = ([], 15) := by unfold putOf; rw [if_neg (by omega), if_pos h3]
    rw [hfin]
    have H3 := Lib.hid h3
    clear hfin h3
    go_enter Tryd.func39, Tryd.ntmps39
    go_wp2_with fail
    refine (clean_calls s w).mono ?_
    rintro e w' ⟨rfl, rfl⟩
    rw [show decide (Lib.indexByte s.data.toList 0 < 0) = false from H3.out]
    go_wp2
    go_ret2
    exact ⟨_, rfl, Kd.R_nil _ _ _ _ _, Below.refl _ _⟩
  have h3' : cleanB s = true := by simpa using h3
  have H3 := Lib.hid h3'
  clear h3'
  by_cases h4 : (m : Int) < s.size
  · have hfin : putOf s m = ([], 13) := by unfold putOf; rw [if_neg (by omega), if_neg h3, if_pos h4]
    rw [hfin]
    clear hfin h3
    go_enter Tryd.func39, Tryd.ntmps39
    go_wp2_with fail
    refine (clean_calls s w).mono ?_
    rintro e w' ⟨rfl, rfl⟩
    rw [show decide (Lib.indexByte s.data.toList 0 < 0) = true from H3.out]
    go_wp2
    go_ret2
    exact ⟨_, rfl, Kd.R_nil _ _ _ _ _, Below.refl _ _⟩
  · have hfin : putOf s m = (fieldOf s m, 0) := by unfold putOf; rw [if_neg (by omega), if_neg h3, if_neg h4, Int.toNat_natCast]
    rw [hfin]
    clear hfin h3
    have hmk := print_make (P := Tryd.prog) 22 5 .u8 1 Tryd.underlying22 byteInfo (by decide) m (by omega)
    have hcp := run_copy_str (P := Tryd.prog) (w.alloc (.cells (madeCells #[.int .u8 0] m) 5)) 22 9 3 5 w.heap.size m m s (madeCells #[.int .u8 0] m) Tryd.underlying22 byteSize (heap_alloc_new w _) (by simp [size_madeCells])
    have hrow := field_row (w.alloc (.cells (madeCells #[.int .u8 0] m) 5)) w.heap.size w.heap.size 5 m s (fun _ => True) trivial (Nat.le_refl _) (heap_alloc_new w _) (by omega)
    have hbel := below_setRow (g := w.heap.size) ((Below.refl w.heap.size w).alloc (Nat.le_refl _) (.cells (madeCells #[.int .u8 0] m) 5)) (Nat.le_refl _) (Lib.byteCells (s.data.toList.take (min s.size m)) ++ (madeCells #[Value.int .u8 0] m).toList.drop (min s.size m)).toArray
    have HR := Lib.hid hrow
    have HB := Lib.hid hbel
    clear hrow hbel
    generalize (w.alloc (.cells (madeCells #[.int .u8 0] m) 5)).setRow w.heap.size (Lib.byteCells (s.data.toList.take (min s.size m)) ++ (madeCells #[Value.int .u8 0] m).toList.drop (min s.size m)).toArray = w2 at hcp HR HB
    go_enter Tryd.func39, Tryd.ntmps39
    go_wp2_with fail
    refine (clean_calls s w).mono ?_
    rintro e w' ⟨rfl, rfl⟩
    rw [show decide (Lib.indexByte s.data.toList 0 < 0) = true from H3.out]
    go_wp2
    go_ret2
    exact ⟨_, rfl, HR.out, HB.out⟩

theorem reads_conv (W : World) (s : ByteArray) (hs : s.size ≤ 140737488351232) : Kd.C (Kd.int .u8) (Lib.bytesWorld W 5 s) (some ⟨W.heap.size, 0, none⟩) (bytesOf s).length (bytesOf s) := by
  rw [bytesOf_length]
  exact Kd.C_of_reads (d := (0 : Int)) (h1 := fun _ => rfl) (bytes_reads W 5 s (by omega))
/-- oakumref02.Pad, of a size that is asked for here. -/
def padOf (s : ByteArray) (n : Int) : List Int := bytesOf s ++ List.replicate (n.toNat - s.size) 0
theorem padOf_step (s : ByteArray) (j : Nat) : bytesOf s ++ List.replicate j 0 ++ [0] = bytesOf s ++ List.replicate (j + 1) 0 := by
  rw [List.append_assoc, ← List.replicate_succ']
set_option maxHeartbeats 1000000 in
theorem pad_calls (s : ByteArray) (n : Int) (w : World) (hs : s.size ≤ 1000000) (hn : n ≤ 1000000) :
    Calls Tryd.prog 32 #[.string s, .int .i64 n] w fun e w' => ∃ v0_ : Value, e = .returned v0_ ∧ Kd.V (Kd.int .u8) 5 w' w.heap.size (fun k_ => w.heap.size ≤ k_) v0_ (padOf s n) ∧ Below w.heap.size w w' := by
  have kb := fun W => print_bytes (P := Tryd.prog) 9 22 5 Tryd.underlying9 Tryd.underlying22 Tryd.underlying5 s W
  have hL := live_conv w 5 s (by omega)
  have hb0 : Below w.heap.size w (Lib.bytesWorld w 5 s) := bytes_below (Below.refl w.heap.size w) (Nat.le_refl _) 5 s
  have HL := Lib.hid hL
  have HB := Lib.hid hb0
  clear hL hb0
  go_enter Tryd.func32, Tryd.ntmps32
  go_wp2_with fail
  go_loopw [5] (fun v wr => ∃ j : Nat, j ≤ n.toNat - s.size ∧ Live 5 wr w.heap.size v (bytesOf s ++ List.replicate j 0) ∧ Below w.heap.size w wr ∧ ∃ g cap, v = .slice (some ⟨g, 0, none⟩) (s.size + j) cap) (fun v _ => n.toNat - (match v with | .slice _ k _ => k | _ => 0))
  case atStart => exact ⟨0, Nat.zero_le _, by simpa using HL.out, HB.out, _, _, rfl⟩
  case round =>
    obtain ⟨j, hj, hL, hb, g, cap, rfl⟩ := hrel
    have hln : (bytesOf s ++ List.replicate j (0 : Int)).length = s.size + j := by rw [List.length_append, bytesOf_length, List.length_replicate]
    have HN := Lib.hid hln
    clear hln
    have hz := hb.size
    by_cases hlt : ((s.size + j : Nat) : Int) < n
    · go_wp2_with (at_builtin; refine live_append (W := wr) (B := w.heap.size) rfl (.tmp 12) (.tmp 13) rfl Tryd.underlying22 byteInfo (.slice (some ⟨g, 0, none⟩) (s.size + j) cap) (bytesOf s ++ List.replicate j 0) 0 rfl rfl hL hz (by rw [HN.out]; omega) (fun v1 w1 hL1 hb1 => ?_))
      rw [padOf_step] at hL1
      obtain ⟨g1, cap1, cells1, fr1, hv1, hr1⟩ := id hL1
      have hl1 : (bytesOf s ++ List.replicate (j + 1) (0 : Int)).length = s.size + (j + 1) := by rw [List.length_append, bytesOf_length, List.length_replicate]
      rw [hl1] at hv1
      have HV := Lib.hid (show v1 = .slice (some ⟨g1, 0, none⟩) (s.size + (j + 1)) cap1 from hv1)
      clear hr1 hl1 hv1
      go_wp2
      go_roundw
      case rel => exact ⟨j + 1, by omega, hL1, hb.trans hb1, g1, cap1, HV.out⟩
      case measure => rw [HV.out]; simp; omega
    · go_wp2
      go_ret
      have hj' : j = n.toNat - s.size := by omega
      subst hj'
      exact ⟨_, rfl, live_foot hL, hb⟩
end Go.Proofs.YtkcgioggnbnfkaaDoor.Txt
