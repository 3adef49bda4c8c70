/- strconv.FormatInt at base 8, where the table of math/bits reads as it is laid: its walk; conditions stand with each. -/
import Derived.Test.YtoabboeongbloaaDoorMv
import Derived.Test.YtoabboeongbloaaDoorShelf
import Derived.ProofKit
import Derived.Deep.LoopGhost
set_option linter.unusedVariables false
set_option linter.unusedSimpArgs false
namespace Go.Proofs.YtoabboeongbloaaDoor.Fmt
open Go.RowKit Go.Proofs.YtoabboeongbloaaDoorW.PrintWords Go.Proofs.YtoabboeongbloaaDoorW.PrintLast Go.Proofs.YtoabboeongbloaaDoorW.PrintMore Go.Proofs.YtoabboeongbloaaDoorW.HKit Go.Proofs.YtoabboeongbloaaDoorW.Mv
/-- The one cell of math/bits' table that base 8 reads. -/
def Tab8 (w : World) : Prop := w.cell? ⟨3, 7, none⟩ = some (.int .u8 3)
theorem tz64_8 (w : World) (hT : Tab8 w) : Calls Tryd.prog 107 #[.int .u64 8] w fun e w' => e = .returned (.int .i64 3) ∧ w = w' := by
  have c := hT
  unfold Tab8 at c
  have e1 : IntKind.u64.wrap (bits BinOp.and IntKind.u64 8 (IntKind.u64.wrap (-8)) * 285870213051353865) / 288230376151711744 = 7 := by decide +kernel
  go_enter Tryd.func107, Tryd.ntmps107
  go_wp2_with fail
  go_ret
  exact ⟨rfl, rfl⟩
theorem tz_8 (w : World) (hT : Tab8 w) : Calls Tryd.prog 96 #[.int .u64 8] w fun e w' => e = .returned (.int .i64 3) ∧ w = w' := by
  have HT := Aside0.mk hT
  clear hT
  go_enter Tryd.func96, Tryd.ntmps96
  go_wp2_with fail
  refine (tz64_8 w HT.out).mono ?_
  rintro e w' ⟨rfl, rfl⟩
  go_wp2_with fail
  go_ret
  exact ⟨rfl, rfl⟩
theorem pow2_8 (w : World) : Calls Tryd.prog 95 #[.int .i64 8] w fun e w' => e = .returned (.bool true) ∧ w = w' := by
  go_enter Tryd.func95, Tryd.ntmps95
  go_wp2_with fail
  go_ret
  exact ⟨rfl, rfl⟩
/-- The octal digits of a number. -/
def octL (n : Nat) : List Int := if n < 8 then [48 + (n : Int)] else octL (n / 8) ++ [48 + ((n % 8 : Nat) : Int)]
termination_by n
theorem octL_small {n : Nat} (h : n < 8) : octL n = [48 + (n : Int)] := by rw [octL, if_pos h]
theorem octL_big {n : Nat} (h : ¬ n < 8) : octL n = octL (n / 8) ++ [48 + ((n % 8 : Nat) : Int)] := by rw [octL, if_neg h]
theorem u64_and7 (v : Nat) : bits BinOp.and IntKind.u64 (v : Int) 7 = ((v % 8 : Nat) : Int) := by
  have h1 : (BitVec.ofInt 64 (v : Int)).toNat = v % 18446744073709551616 := by simp [BitVec.toNat_ofInt]
  have h2 : (BitVec.ofInt 64 7).toNat = 7 := by decide
  have h3 : (BitVec.ofInt 64 (v : Int) &&& BitVec.ofInt 64 7).toNat = v % 18446744073709551616 % 8 := by
    rw [BitVec.toNat_and, h1, h2]
    exact Nat.and_two_pow_sub_one_eq_mod _ 3
  show IntKind.u64.wrap ((BitVec.ofInt 64 (v : Int) &&& BitVec.ofInt 64 7).toNat : Int) = _
  rw [h3]
  unfold IntKind.wrap
  simp [IntKind.signed, IntKind.bits]
  omega
def digitsS : ByteArray := ⟨#[48, 49, 50, 51, 52, 53, 54, 55, 56, 57, 97, 98, 99, 100, 101, 102, 103, 104, 105, 106, 107, 108, 109, 110, 111, 112, 113, 114, 115, 116, 117, 118, 119, 120, 121, 122]⟩
theorem digits_at (k : Nat) (hk : k < 8) : ∀ h : k < (⟨#[48, 49, 50, 51, 52, 53, 54, 55, 56, 57, 97, 98, 99, 100, 101, 102, 103, 104, 105, 106, 107, 108, 109, 110, 111, 112, 113, 114, 115, 116, 117, 118, 119, 120, 121, 122]⟩ : ByteArray).size,
    (((⟨#[48, 49, 50, 51, 52, 53, 54, 55, 56, 57, 97, 98, 99, 100, 101, 102, 103, 104, 105, 106, 107, 108, 109, 110, 111, 112, 113, 114, 115, 116, 117, 118, 119, 120, 121, 122]⟩ : ByteArray)[k]'h).toNat : Int) = 48 + (k : Int) := by
  intro h
  rcases (by omega : k = 0 ∨ k = 1 ∨ k = 2 ∨ k = 3 ∨ k = 4 ∨ k = 5 ∨ k = 6 ∨ k = 7) with rfl | rfl | rfl | rfl | rfl | rfl | rfl | rfl <;> rfl
theorem digits_size (k : Nat) (hk : k < 8) : (k : Int) < 36 := by omega
theorem zeros137 : Tryd.zeroCells137 = (nums .u8 (List.replicate 65 0 ++ [])).toArray := by kernel_rfl
/-- The conversion's block. -/
def Conv (w : World) (b : Nat) (u v i : Nat) (ds : List Int) : Prop :=
  w.heap[b]? = some (.cells (nums .u8 (List.replicate i 0 ++ ds)).toArray 137 (0, 0)) ∧ i + ds.length = 65 ∧ octL u = octL v ++ ds ∧ v < 8 ^ (i - 1) ∧ 1 ≤ i
theorem conv_step {w : World} {b u v i : Nat} {ds : List Int} (h : Conv w b u v i ds) (h8 : ¬ v < 8) : 2 ≤ i ∧ Conv (w.setCell ⟨b, i - 1, none⟩ (.int .u8 (48 + ((v % 8 : Nat) : Int)))) b u (v / 8) (i - 1) ((48 + ((v % 8 : Nat) : Int)) :: ds) := by
  obtain ⟨h1, h2, h3, h4, h5⟩ := h
  have hi : 2 ≤ i := by
    rcases (by omega : i = 0 ∨ i = 1 ∨ 2 ≤ i) with rfl | rfl | h
    · simp at h4; omega
    · simp at h4; omega
    · exact h
  obtain ⟨j, rfl⟩ : ∃ j, i = j + 1 := ⟨i - 1, by omega⟩
  refine ⟨hi, ?_, by simp; omega, by rw [h3, octL_big h8]; simp, ?_, by omega⟩
  · rw [Nat.add_sub_cancel]
    have := blk_set h1 j (.int .u8 (48 + ((v % 8 : Nat) : Int)))
    rw [this]
    congr 2
    rw [List.setIfInBounds_toArray]
    congr 1
    have e1 : nums .u8 (List.replicate (j + 1) 0 ++ ds) = nums .u8 (List.replicate j 0) ++ (.int .u8 0 :: nums .u8 ds) := by
      rw [List.replicate_succ', nums_append, nums_append, List.append_assoc]; rfl
    have e2 : (nums IntKind.u8 (List.replicate j 0)).length = j := by simp [nums]
    rw [e1, List.set_append_right _ _ (by rw [e2]; exact Nat.le_refl _), e2, Nat.sub_self, nums_append]
    rfl
  · rw [Nat.add_sub_cancel] at h4
    obtain ⟨m, rfl⟩ : ∃ m, j = m + 1 := ⟨j - 1, by omega⟩
    rw [Nat.add_sub_cancel, Nat.add_sub_cancel]
    rw [Nat.pow_succ] at h4
    omega
theorem byteInfo : (Tryd.prog.info? 5).map (fun i => (i.zero, i.size, i.bytes)) = some (some (.int .u8 0), 1, 1) := by kernel_rfl
theorem arr_from (b k : Nat) (hk : k < 65) (W : World) : (Instr.sliceAt 137 (.pointer (some ⟨b, 0, none⟩)) (some (.int .i64 (k : Int))) none none).run Tryd.prog W = .ok (.slice (some ⟨b, k, none⟩) (65 - k) (65 - k)) W := by
  obtain ⟨i0, hi, hz0, hz1, hz2⟩ := info_parts byteInfo
  have h1 : ¬ 65 = k := by omega
  simp [Instr.sliceAt, run_underlying Tryd.underlying137, Instr.sliceBounds, Instr.sliceBound, go_sem, hi, hz1, sizeOf, typeInfo, h1]
  intro h
  omega
theorem arr_from1 (b i : Nat) (hi : 1 ≤ i) (h2 : i ≤ 65) (W : World) : (Instr.sliceAt 137 (.pointer (some ⟨b, 0, none⟩)) (some (.int .i64 ((i : Int) - 1))) none none).run Tryd.prog W = .ok (.slice (some ⟨b, i - 1, none⟩) (65 - (i - 1)) (65 - (i - 1))) W := by
  have e : (i : Int) - 1 = ((i - 1 : Nat) : Int) := by omega
  rw [e]
  exact arr_from b (i - 1) (by omega) W
/-- What the conversion hands over at its end. -/
theorem conv_end {w : World} {b u v i : Nat} {ds : List Int} (h : Conv w b u v i ds) (h8 : v < 8) :
    (convert 25 9 (.slice (some ⟨b, i - 1, none⟩) (65 - (i - 1)) (65 - (i - 1)))).run Tryd.prog (w.setCell ⟨b, i - 1, none⟩ (.int .u8 (48 + (v : Int)))) = .ok (.string (strOfNums (octL u))) (w.setCell ⟨b, i - 1, none⟩ (.int .u8 (48 + (v : Int)))) := by
  obtain ⟨h1, h2, h3, h4, h5⟩ := h
  obtain ⟨j, rfl⟩ : ∃ j, i = j + 1 := ⟨i - 1, by omega⟩
  rw [Nat.add_sub_cancel]
  have hl : (octL u).length = 65 - j := by rw [h3, octL_small h8]; simp; omega
  refine string_of_reads Tryd.underlying25 Tryd.underlying5 Tryd.underlying9 ⟨hl, by omega, fun hp => ⟨_, rfl, fun k hk => ?_⟩⟩
  have hb := blk_set h1 j (.int .u8 (48 + (v : Int)))
  have e0 : (⟨b, j, none⟩ : Addr).add k = ⟨b, j + k, none⟩ := by unfold Addr.add; split <;> simp_all
  rw [e0, blk_cell hb]
  have e1 : (nums .u8 (List.replicate (j + 1) 0 ++ ds)).toArray.setIfInBounds j (.int .u8 (48 + (v : Int))) = (nums .u8 (List.replicate j 0 ++ octL u)).toArray := by
    rw [List.setIfInBounds_toArray]
    congr 1
    have e1 : nums .u8 (List.replicate (j + 1) 0 ++ ds) = nums .u8 (List.replicate j 0) ++ (.int .u8 0 :: nums .u8 ds) := by
      rw [List.replicate_succ', nums_append, nums_append, List.append_assoc]; rfl
    have e2 : (nums IntKind.u8 (List.replicate j 0)).length = j := by simp [nums]
    rw [e1, List.set_append_right _ _ (by rw [e2]; exact Nat.le_refl _), e2, Nat.sub_self, nums_append, h3, octL_small h8, nums_append]
    rfl
  rw [e1]
  simp only [List.getElem?_toArray]
  unfold nums
  rw [List.getElem?_map, List.getElem?_append_right (by simp)]
  have hk2 : k < (octL u).length := by omega
  simp [List.getElem?_eq_getElem hk2, List.getD_eq_getElem?_getD]
def ConvRel (w : World) (b u n : Nat) (v1 v13 : Value) (wr : World) : Prop :=
  ∃ (v i : Nat) (ds : List Int), v1 = .int .u64 (v : Int) ∧ v13 = .int .i64 (i : Int) ∧ v = n ∧ v ≤ u ∧ Conv wr b u v i ds ∧ Below w.heap.size w wr
set_option maxHeartbeats 1000000 in
set_option maxRecDepth 100000 in
theorem formatBits_8 (u : Nat) (hu : u < 1000000000) (w : World) (hT : Tab8 w) :
    Calls Tryd.prog 80 #[.slice none 0 0, .int .u64 (u : Int), .int .i64 8, .bool false, .bool false] w fun e w' => e = .returned (.tuple #[.slice none 0 0, .string (strOfNums (octL u))]) ∧ Below w.heap.size w w' := by
  have HT := Aside0.mk hT
  clear hT
  go_enter Tryd.func80, Tryd.ntmps80
  go_wp2_with fail
  refine (pow2_8 _).mono ?_
  rintro e w' ⟨rfl, rfl⟩
  have hz : (w.alloc (.cells Tryd.zeroCells137 137)).heap[w.heap.size]? = some (.cells (nums .u8 (List.replicate 65 0 ++ [])).toArray 137 (0, 0)) := by rw [← zeros137]; exact heap_alloc_new w _
  have hT1 : Tab8 (w.alloc (.cells Tryd.zeroCells137 137)) := pw_cell_below ((Below.refl _ _).alloc (Nat.le_refl _) _) HT.out
  have HZ := Aside0.mk (show Conv (w.alloc (.cells Tryd.zeroCells137 137)) w.heap.size u u 65 [] from ⟨hz, rfl, by simp, Nat.lt_of_lt_of_le hu (by decide), by decide⟩)
  have HB := Aside0.mk ((Below.refl w.heap.size w).alloc (Nat.le_refl _) (.cells Tryd.zeroCells137 137))
  have HT1 := Aside0.mk hT1
  clear hz hT1
  generalize w.alloc (.cells Tryd.zeroCells137 137) = wa at HZ HB HT1 ⊢
  go_wp2_with fail
  refine (tz_8 _ HT1.out).mono ?_
  rintro e w' ⟨rfl, rfl⟩
  go_wp2_with fail
  go_loopg [1, 13] u (fun n v1 v13 wr => ConvRel w w.heap.size u n v1 v13 wr)
  case atStart => exact ⟨u, 65, [], rfl, rfl, rfl, Nat.le_refl _, HZ.out, HB.out⟩
  case round =>
    clear HZ HB HT1
    obtain ⟨v, i, ds, rfl, rfl, hn, hvu, hC, hb⟩ := hrel
    have HC := Aside0.mk hC
    have HB := Aside0.mk hb
    have hil : i ≤ 65 := by have := hC.2.1; omega
    have HN := Aside0.mk hn
    have hi1 : 1 ≤ i := hC.2.2.2.2
    have hvb : v < 1000000000 := by omega
    have hlen : (nums .u8 (List.replicate i 0 ++ ds)).length = 65 := by simp [nums]; exact hC.2.1
    obtain ⟨x, hcl⟩ : ∃ x, wr.cell? ⟨w.heap.size, i - 1, none⟩ = some x := by
      refine ⟨_, (blk_cell hC.1 (i - 1)).trans (List.getElem?_toArray.trans (List.getElem?_eq_getElem (by rw [hlen]; omega)))⟩
    have hfz : wr.frozen? ⟨w.heap.size, i - 1, none⟩ = false := blk_frozen hC.1 (i - 1)
    clear hC hb hn hlen
    by_cases h8 : v < 8
    · have hd : decide (8 ≤ (v : Int)) = false := decide_eq_false (by omega)
      have hd' : decide (8 ≤ v) = false := decide_eq_false (by omega)
      have hdig := digits_at v h8
      have hsl := arr_from1 w.heap.size i hi1 hil
      have hcv := conv_end HC.out h8
      have HBe := Aside0.mk (HB.out.setCell (p := ⟨w.heap.size, i - 1, none⟩) (Nat.le_refl _) (.int .u8 (48 + (v : Int))))
      go_wp2_with fail
      go_ret2
      exact ⟨rfl, HBe.out⟩
    · have hd : decide (8 ≤ (v : Int)) = true := decide_eq_true (by omega)
      have hd' : decide (8 ≤ v) = true := decide_eq_true (by omega)
      obtain ⟨hi2, hC2⟩ := conv_step HC.out h8
      have hand := u64_and7 v
      have hdig := digits_at (v % 8) (Nat.mod_lt _ (by decide))
      have hm8 : v % 8 < 8 := Nat.mod_lt _ (by decide)
      have HC2 := Aside0.mk hC2
      have HBe := Aside0.mk (HB.out.setCell (p := ⟨w.heap.size, i - 1, none⟩) (Nat.le_refl _) (.int .u8 (48 + ((v % 8 : Nat) : Int))))
      clear hC2
      go_wp2_with fail
      go_roundg (v / 8)
      case rel => exact ⟨v / 8, i - 1, _, by go_num, by go_num, rfl, by omega, HC2.out, HBe.out⟩
      case measure => have := HN.out; omega
set_option maxHeartbeats 1000000 in
theorem fmtIn_8 (n : Nat) (hn : n < 1000000000) (w : World) (hT : Tab8 w) : Calls Tryd.prog 65 #[.int .i64 (n : Int), .int .i64 8] w fun e w' => e = .returned (.string (strOfNums (octL n))) ∧ Below w.heap.size w w' := by
  have HF := Lib.hid (formatBits_8 n hn w hT)
  have hd : decide ((n : Int) < 0) = false := decide_eq_false (by omega)
  clear hT
  go_enter Tryd.func65, Tryd.ntmps65
  go_wp2_with fail
  refine HF.out.mono ?_
  rintro e w' ⟨rfl, hb⟩
  have HB := Aside0.mk hb
  clear hb
  go_wp2_with fail
  go_ret
  exact ⟨rfl, HB.out⟩
theorem fmt_8 (n : Nat) (hn : n < 1000000000) (w : World) (hT : Tab8 w) : Calls Tryd.prog 48 #[.int .i64 (n : Int), .int .i64 8] w fun e w' => e = .returned (.string (strOfNums (octL n))) ∧ Below w.heap.size w w' := by
  have HF := Lib.hid (fmtIn_8 n hn w hT)
  clear hT
  go_enter Tryd.func48, Tryd.ntmps48
  go_wp2_with fail
  refine HF.out.mono ?_
  rintro e w' ⟨rfl, hb⟩
  have HB := Aside0.mk hb
  clear hb
  go_wp2_with fail
  go_ret
  exact ⟨rfl, HB.out⟩
end Go.Proofs.YtoabboeongbloaaDoor.Fmt
