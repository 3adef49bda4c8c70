/- Contracts of eight functions of chapter 2 (text and its reference), each walked once: what the call returns, and that nothing that existed before it has changed; conditions stand with each. -/
import Derived.Test.YtoabboeongbloaaDoorOct
import Derived.Test.YtoabboeongbloaaDoorShelf
import Derived.Test.YtoabboeongbloaaDoorWWords
import Derived.Test.YtoabboeongbloaaDoorWLast
import Derived.Test.YtoabboeongbloaaDoorWMore
import Derived.Test.YtoabboeongbloaaDoorHKit
import Derived.WalkKit
import Derived.WalkSpells
import Derived.WalkLawsBesides
import Derived.Deep.QuietTactic
import Derived.BigQuiet
import Derived.Lib.Hide
set_option linter.unusedVariables false
set_option maxRecDepth 100000
set_option linter.unusedSimpArgs false
namespace Go.Proofs.YtoabboeongbloaaDoor.Txt
open Go.RowKit Go.Proofs.YtoabboeongbloaaDoorW.PrintWords Go.Proofs.YtoabboeongbloaaDoorW.PrintLast Go.Proofs.YtoabboeongbloaaDoorW.PrintMore Go.Proofs.YtoabboeongbloaaDoorW.HKit

/-- Where a nought stands first; -1: nowhere. -/
def nought (l : List UInt8) : Int := Lib.indexByte l 0

theorem clean_calls (s : ByteArray) (w : World) : Calls Tryd.prog 61 #[.string s] w fun e w' => e = .returned (.bool (decide (Lib.indexByte s.data.toList 0 < 0))) ∧ w = w' := by
  go_enter Tryd.func61, Tryd.ntmps61
  go_wp2_with (go_at_call 76; refine (Tryd.strings_IndexByte _ _ _).mono ?_; rintro e w' ⟨rfl, rfl⟩)
  go_ret
  exact ⟨rfl, rfl⟩

open Go.Lib in
set_option maxHeartbeats 2000000 in
set_option maxRecDepth 1000000 in
theorem indexNone_calls (c : Nat) (cv : Int) (w : World) :
    Calls Tryd.prog 57 #[.slice none 0 c, .int .u8 cv] w fun e w' => e = .returned (.int .i64 (-1)) ∧ w = w' := by
  go_enter Tryd.func57, Tryd.ntmps57
  go_wp2
  rw [run_callFunc_extern Tryd.func75 (by kernel_rfl) (by kernel_rfl) (by kernel_rfl) (e := Extern.BytealgIndexByte.indexByte) (by kernel_rfl), Lib.run_indexByteNil w 0 c cv]
  simp only [Result.andThen]
  rw [Oper.upon_value]
  go_wp2
  go_ret
  exact ⟨rfl, rfl⟩
/-- bytes.IndexByte of any bytes that are read. -/
theorem index_calls (A : Option Addr) (c : Nat) (xs : List Int) (cv : Int) (w : World) (hr : Kd.C (Kd.int .u8) w A xs.length xs) :
    Calls Tryd.prog 57 #[.slice A xs.length c, .int .u8 cv] w fun e w' => e = .returned (.int .i64 (Lib.indexByte (Lib.bytesOf xs) cv.toNat.toUInt8)) ∧ w = w' := by
  cases A with
  | some a =>
    refine (Tryd.bytes_IndexByte_at a xs.length c xs cv w rfl (fun i hi => ?_)).mono fun e w' h => ⟨h.1, h.2.symm⟩
    obtain ⟨ad, he, hc⟩ := Kd.at_int hr (i : Int) (by omega) (by omega)
    cases he
    simpa [rd] using hc
  | none =>
    have h0 : xs = [] := by
      cases xs with
      | nil => rfl
      | cons x r =>
        obtain ⟨ad, he, _⟩ := Kd.at_int hr 0 (by omega) (by simp)
        cases he
    subst h0
    exact (indexNone_calls c cv w).mono fun e w' h => ⟨by rw [h.1]; rfl, h.2⟩

/-- text.Get: the bytes ahead of the first nought. -/
def getOf (xs : List Int) : ByteArray := if 0 ≤ Lib.indexByte (Lib.bytesOf xs) 0 then strOfNums (xs.take (Lib.indexByte (Lib.bytesOf xs) 0).toNat) else strOfNums xs
theorem index_lt (c : UInt8) : ∀ l : List UInt8, Lib.indexByte l c < l.length ∨ Lib.indexByte l c = -1
  | [] => Or.inr rfl
  | b :: l => by
    unfold Lib.indexByte
    have ih := index_lt c l
    simp only [List.length_cons]
    split
    · left; omega
    · split
      · right; rfl
      · rename_i h
        left
        rcases ih with ih | ih
        · omega
        · rw [ih] at h; simp at h
theorem index_m1 (c : UInt8) : ∀ l : List UInt8, Lib.indexByte l c < 0 → Lib.indexByte l c = -1
  | [], _ => rfl
  | b :: l, h => by
    unfold Lib.indexByte at h ⊢
    have ih := index_m1 c l
    split at h
    · omega
    · rename_i hb
      rw [if_neg hb]
      split at h
      · rename_i hm
        rw [if_pos hm]
      · rename_i hm
        have := ih (by omega)
        rw [this] at hm; simp at hm
theorem get_calls (A : Option Addr) (c : Nat) (xs : List Int) (w : World) (hr : Kd.C (Kd.int .u8) w A xs.length xs) (hc : xs.length ≤ c) :
    Calls Tryd.prog 35 #[.slice A xs.length c] w fun e w' => e = .returned (.string (getOf xs)) ∧ w = w' := by
  have hn : xs.length ≤ 9223372036854775807 := hr.2.1
  have hbl : (Lib.bytesOf xs).length = xs.length := by simp [Lib.bytesOf]
  by_cases h0 : 0 ≤ Lib.indexByte (Lib.bytesOf xs) 0
  · have h1 : Lib.indexByte (Lib.bytesOf xs) 0 < xs.length := by
      rcases index_lt 0 (Lib.bytesOf xs) with h | h <;> omega
    obtain ⟨i, hi⟩ : ∃ i : Nat, Lib.indexByte (Lib.bytesOf xs) 0 = (i : Int) := ⟨_, (Int.toNat_of_nonneg h0).symm⟩
    have hil : i < xs.length := by omega
    have hfin : getOf xs = strOfNums (xs.take i) := by unfold getOf; rw [hi, if_pos (by omega), Int.toNat_natCast]
    have H := Lib.hid hfin
    have Hi := Lib.hid hi
    clear hfin hi h0 h1
    have hconv := fun wx => string_of_reads (P := Tryd.prog) (w := wx) (src := 25) (dst := 9) (e := 5) (A := A) (n := i) (c := c) (xs := xs.take i) Tryd.underlying25 Tryd.underlying5 Tryd.underlying9
    go_enter Tryd.func35, Tryd.ntmps35
    go_wp2_with fail
    refine (index_calls A c xs 0 w hr).mono ?_
    rintro e w' ⟨rfl, rfl⟩
    rw [show (Int.toNat 0).toUInt8 = (0 : UInt8) from rfl, Hi.out]
    have hC := Kd.C_take (m := i) hr (by omega)
    have hcv := Kd.C_string (P := Tryd.prog) (src := 25) (dst := 9) (e := 5) (c := c) Tryd.underlying25 Tryd.underlying5 Tryd.underlying9 hC
    rw [List.length_take, Nat.min_eq_left (by omega)] at hcv
    clear hC hconv
    go_wp2
    go_ret
    exact ⟨by rw [H.out]; rfl, rfl⟩
  · have hfin : getOf xs = strOfNums xs := by unfold getOf; rw [if_neg h0]
    have H := Lib.hid hfin
    clear hfin
    have hcv := Kd.C_string (P := Tryd.prog) (src := 25) (dst := 9) (e := 5) (c := c) Tryd.underlying25 Tryd.underlying5 Tryd.underlying9 hr
    go_enter Tryd.func35, Tryd.ntmps35
    go_wp2_with fail
    refine (index_calls A c xs 0 w hr).mono ?_
    rintro e w' ⟨rfl, rfl⟩
    rw [show (Int.toNat 0).toUInt8 = (0 : UInt8) from rfl]
    go_wp2
    go_ret
    exact ⟨by rw [H.out]; rfl, rfl⟩

/-- May a byte stand as it is? -/
def openB (c : Int) : Bool := decide (32 < c ∧ c < 127 ∧ c ≠ 92)
def quoteByte (b : UInt8) : List UInt8 := if openB b.toNat = true then [b] else [92, 48 + b / 64, 48 + b / 8 % 8, 48 + b % 8]
def quoteList (l : List UInt8) : List UInt8 := l.flatMap quoteByte
theorem quoteByte_len (b : UInt8) : (quoteByte b).length ≤ 4 := by unfold quoteByte; split <;> simp
theorem quoteList_len (l : List UInt8) : (quoteList l).length ≤ 4 * l.length := by
  induction l with
  | nil => simp [quoteList]
  | cons x r ih =>
    have := quoteByte_len x
    simp only [quoteList, List.flatMap_cons, List.length_append, List.length_cons] at ih ⊢
    omega
theorem quoteList_snoc (l : List UInt8) (b : UInt8) : quoteList (l ++ [b]) = quoteList l ++ quoteByte b := by simp [quoteList, List.flatMap_append]
theorem take_snoc (s : ByteArray) (k : Nat) (h : k < s.size) : s.data.toList.take (k + 1) = s.data.toList.take k ++ [s[k]] := by
  rw [List.take_succ_eq_append_getElem (by simpa using h)]; rfl
theorem byteCells_append (a b : List UInt8) : Lib.byteCells (a ++ b) = Lib.byteCells a ++ Lib.byteCells b := by simp [Lib.byteCells]
theorem byteCells_length (a : List UInt8) : (Lib.byteCells a).length = a.length := by simp [Lib.byteCells]
theorem byteCells_quote (b : UInt8) (h : openB b.toNat = false) : Lib.byteCells (quoteByte b) = [.int .u8 92, .int .u8 ((48 + (b.toNat : Int) / 64) % 256), .int .u8 ((48 + bits .and .u8 ((b.toNat : Int) / 8) 7) % 256), .int .u8 ((48 + bits .and .u8 (b.toNat : Int) 7) % 256)] := by
  have k1 : ∀ n : Fin 256, bits .and .u8 (((n.val : Int)) / 8) 7 = ((n.val / 8 % 8 : Nat) : Int) ∧ bits .and .u8 ((n.val : Int)) 7 = ((n.val % 8 : Nat) : Int) := by decide +kernel
  obtain ⟨e1, e2⟩ := k1 ⟨b.toNat, b.toNat_lt⟩
  simp only at e1 e2
  unfold quoteByte
  rw [if_neg (by rw [h]; decide), e1, e2]
  simp only [Lib.byteCells, List.map_cons, List.map_nil]
  have := b.toNat_lt
  have f1 : ((48 + b / 64 : UInt8).toNat : Int) = (48 + (b.toNat : Int) / 64) % 256 := by rw [UInt8.toNat_add, UInt8.toNat_div]; simp
  have f2 : ((48 + b / 8 % 8 : UInt8).toNat : Int) = (48 + ((b.toNat / 8 % 8 : Nat) : Int)) % 256 := by rw [UInt8.toNat_add, UInt8.toNat_mod, UInt8.toNat_div]; simp
  have f3 : ((48 + b % 8 : UInt8).toNat : Int) = (48 + ((b.toNat % 8 : Nat) : Int)) % 256 := by rw [UInt8.toNat_add, UInt8.toNat_mod]; simp
  rw [f1, f2, f3]
  rfl
theorem byteInfo : (Tryd.prog.info? 5).map (fun i => (i.zero, i.size, i.bytes)) = some (some (.int .u8 0), 1, 1) := by kernel_rfl
theorem byteSize : (Tryd.prog.info? 5).map (·.size) = some 1 := by kernel_rfl
/-- Is a text without a nought? -/
def cleanB (s : ByteArray) : Bool := decide (Lib.indexByte s.data.toList 0 < 0)
/-- text.Put. -/
def putOf (s : ByteArray) (n : Int) : List Int × Int := if n < 0 ∨ 65536 < n then ([], 2) else if cleanB s = false then ([], 15) else if n < s.size then ([], 13) else (fieldOf s n.toNat, 0)
/-- What the callers are told of a row that is made. -/
def Made (w : World) (xs : List Int) (c : Int) (e : Ending) (w' : World) : Prop := ∃ v0_ : Value, e = .returned (.tuple #[v0_, .int .u8 c]) ∧ Kd.R (Kd.int .u8) 5 w' w.heap.size (fun _ => True) v0_ xs ∧ Below w.heap.size w w'
set_option maxHeartbeats 1000000 in
theorem put_calls (s : ByteArray) (n : Int) (w : World) (hs : s.size ≤ 140737488351232) :
    Calls Tryd.prog 45 #[.string s, .int .i64 n] w (Made w (putOf s n).1 (putOf s n).2) := by
  by_cases h1 : n < 0
  · have hfin : putOf s n = ([], 2) := by unfold putOf; rw [if_pos (Or.inl h1)]
    rw [hfin]
    clear hfin
    go_enter Tryd.func45, Tryd.ntmps45
    go_wp2
    go_ret2
    exact ⟨_, rfl, Kd.R_nil _ _ _ _ _, Below.refl _ _⟩
  by_cases h2 : 65536 < n
  · have hfin : putOf s n = ([], 2) := by unfold putOf; rw [if_pos (Or.inr h2)]
    rw [hfin]
    clear hfin
    go_enter Tryd.func45, Tryd.ntmps45
    go_wp2
    go_ret2
    exact ⟨_, rfl, Kd.R_nil _ _ _ _ _, Below.refl _ _⟩
  have h0 : 0 ≤ n := by omega
  obtain ⟨m, rfl⟩ := Int.eq_ofNat_of_zero_le h0
  have hd1 : decide ((m : Int) < 0) = false := by simp
  have hd2 : decide ((65536 : Int) < (m : Int)) = false := by simpa using h2
  by_cases h3 : cleanB s = false
  · have hfin : putOf s m = ([], 15) := by unfold putOf; rw [if_neg (by omega), if_pos h3]
    rw [hfin]
    have H3 := Lib.hid h3
    clear hfin h3
    go_enter Tryd.func45, Tryd.ntmps45
    go_wp2_with fail
    refine (clean_calls s w).mono ?_
    rintro e w' ⟨rfl, rfl⟩
    rw [show decide (Lib.indexByte s.data.toList 0 < 0) = false from H3.out]
    go_wp2
    go_ret2
    exact ⟨_, rfl, Kd.R_nil _ _ _ _ _, Below.refl _ _⟩
  have h3' : cleanB s = true := by simpa using h3
  have H3 := Lib.hid h3'
  clear h3'
  by_cases h4 : (m : Int) < s.size
  · have hfin : putOf s m = ([], 13) := by unfold putOf; rw [if_neg (by omega), if_neg h3, if_pos h4]
    rw [hfin]
    clear hfin h3
    go_enter Tryd.func45, Tryd.ntmps45
    go_wp2_with fail
    refine (clean_calls s w).mono ?_
    rintro e w' ⟨rfl, rfl⟩
    rw [show decide (Lib.indexByte s.data.toList 0 < 0) = true from H3.out]
    go_wp2
    go_ret2
    exact ⟨_, rfl, Kd.R_nil _ _ _ _ _, Below.refl _ _⟩
  · have hfin : putOf s m = (fieldOf s m, 0) := by unfold putOf; rw [if_neg (by omega), if_neg h3, if_neg h4, Int.toNat_natCast]
    rw [hfin]
    clear hfin h3
    have hmk := print_make (P := Tryd.prog) 25 5 .u8 1 Tryd.underlying25 byteInfo (by decide) m (by omega)
    have hcp := run_copy_str (P := Tryd.prog) (w.alloc (.cells (madeCells #[.int .u8 0] m) 5)) 25 9 3 5 w.heap.size m m s (madeCells #[.int .u8 0] m) Tryd.underlying25 byteSize (heap_alloc_new w _) (by simp [size_madeCells])
    have hrow := field_row (w.alloc (.cells (madeCells #[.int .u8 0] m) 5)) w.heap.size w.heap.size 5 m s (fun _ => True) trivial (Nat.le_refl _) (heap_alloc_new w _) (by omega)
    have hbel := below_setRow (g := w.heap.size) ((Below.refl w.heap.size w).alloc (Nat.le_refl _) (.cells (madeCells #[.int .u8 0] m) 5)) (Nat.le_refl _) (Lib.byteCells (s.data.toList.take (min s.size m)) ++ (madeCells #[Value.int .u8 0] m).toList.drop (min s.size m)).toArray
    have HR := Lib.hid hrow
    have HB := Lib.hid hbel
    clear hrow hbel
    generalize (w.alloc (.cells (madeCells #[.int .u8 0] m) 5)).setRow w.heap.size (Lib.byteCells (s.data.toList.take (min s.size m)) ++ (madeCells #[Value.int .u8 0] m).toList.drop (min s.size m)).toArray = w2 at hcp HR HB
    go_enter Tryd.func45, Tryd.ntmps45
    go_wp2_with fail
    refine (clean_calls s w).mono ?_
    rintro e w' ⟨rfl, rfl⟩
    rw [show decide (Lib.indexByte s.data.toList 0 < 0) = true from H3.out]
    go_wp2
    go_ret2
    exact ⟨_, rfl, HR.out, HB.out⟩

theorem reads_conv (W : World) (s : ByteArray) (hs : s.size ≤ 140737488351232) : Kd.C (Kd.int .u8) (Lib.bytesWorld W 5 s) (some ⟨W.heap.size, 0, none⟩) (bytesOf s).length (bytesOf s) := by
  rw [bytesOf_length]
  exact Kd.C_of_reads (d := (0 : Int)) (h1 := fun _ => rfl) (bytes_reads W 5 s (by omega))
/-- oakumref02.Pad, of a size that is asked for here. -/
def padOf (s : ByteArray) (n : Int) : List Int := bytesOf s ++ List.replicate (n.toNat - s.size) 0
theorem padOf_step (s : ByteArray) (j : Nat) : bytesOf s ++ List.replicate j 0 ++ [0] = bytesOf s ++ List.replicate (j + 1) 0 := by
  rw [List.append_assoc, ← List.replicate_succ']
set_option maxHeartbeats 1000000 in
theorem pad_calls (s : ByteArray) (n : Int) (w : World) (hs : s.size ≤ 1000000) (hn : n ≤ 1000000) :
    Calls Tryd.prog 52 #[.string s, .int .i64 n] w fun e w' => ∃ v0_ : Value, e = .returned v0_ ∧ Kd.V (Kd.int .u8) 5 w' w.heap.size (fun k_ => w.heap.size ≤ k_) v0_ (padOf s n) ∧ Below w.heap.size w w' := by
  have kb := fun W => print_bytes (P := Tryd.prog) 9 25 5 Tryd.underlying9 Tryd.underlying25 Tryd.underlying5 s W
  have hL := live_conv w 5 s (by omega)
  have hb0 : Below w.heap.size w (Lib.bytesWorld w 5 s) := bytes_below (Below.refl w.heap.size w) (Nat.le_refl _) 5 s
  have HL := Lib.hid hL
  have HB := Lib.hid hb0
  clear hL hb0
  go_enter Tryd.func52, Tryd.ntmps52
  go_wp2_with fail
  go_loopw [5] (fun v wr => ∃ j : Nat, j ≤ n.toNat - s.size ∧ Live 5 wr w.heap.size v (bytesOf s ++ List.replicate j 0) ∧ Below w.heap.size w wr ∧ ∃ g cap, v = .slice (some ⟨g, 0, none⟩) (s.size + j) cap) (fun v _ => n.toNat - (match v with | .slice _ k _ => k | _ => 0))
  case atStart => exact ⟨0, Nat.zero_le _, by simpa using HL.out, HB.out, _, _, rfl⟩
  case round =>
    obtain ⟨j, hj, hL, hb, g, cap, rfl⟩ := hrel
    have hln : (bytesOf s ++ List.replicate j (0 : Int)).length = s.size + j := by rw [List.length_append, bytesOf_length, List.length_replicate]
    have HN := Lib.hid hln
    clear hln
    have hz := hb.size
    by_cases hlt : ((s.size + j : Nat) : Int) < n
    · go_wp2_with (at_builtin; refine live_append (W := wr) (B := w.heap.size) rfl (.tmp 12) (.tmp 13) rfl Tryd.underlying25 byteInfo (.slice (some ⟨g, 0, none⟩) (s.size + j) cap) (bytesOf s ++ List.replicate j 0) 0 rfl rfl hL hz (by rw [HN.out]; omega) (fun v1 w1 hL1 hb1 => ?_))
      rw [padOf_step] at hL1
      obtain ⟨g1, cap1, cells1, fr1, hv1, hr1⟩ := id hL1
      have hl1 : (bytesOf s ++ List.replicate (j + 1) (0 : Int)).length = s.size + (j + 1) := by rw [List.length_append, bytesOf_length, List.length_replicate]
      rw [hl1] at hv1
      have HV := Lib.hid (show v1 = .slice (some ⟨g1, 0, none⟩) (s.size + (j + 1)) cap1 from hv1)
      clear hr1 hl1 hv1
      go_wp2
      go_roundw
      case rel => exact ⟨j + 1, by omega, hL1, hb.trans hb1, g1, cap1, HV.out⟩
      case measure => rw [HV.out]; simp; omega
    · go_wp2
      go_ret
      have hj' : j = n.toNat - s.size := by omega
      subst hj'
      exact ⟨_, rfl, live_foot hL, hb⟩
end Go.Proofs.YtoabboeongbloaaDoor.Txt
