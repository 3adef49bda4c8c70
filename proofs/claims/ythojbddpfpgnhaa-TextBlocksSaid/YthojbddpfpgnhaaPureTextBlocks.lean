/- The law TextBlocks over numbers: for every text the printed function of the law comes to true; no condition beyond the text reach. -/
import Derived.Test.YthojbddpfpgnhaaPTextBlocksx2
set_option linter.unusedVariables false
set_option linter.unusedSimpArgs false
namespace Go.Proofs.Ythojbddpfpgnhaa.Pure
open Go.RowKit Go.Proofs.Ythojbddpfpgnhaa.PTextBlocks Go.Proofs.YthojbddpfpgnhaaW.PrintWords Go.Proofs.YthojbddpfpgnhaaW.PrintLast Go.Proofs.YthojbddpfpgnhaaW.PrintMore

/-! ### Small words: numbers that fit, rounds, bytes of a cut -/
theorem w64 {n : Int} (h0 : -9223372036854775808 ≤ n) (h1 : n ≤ 9223372036854775807) : wrap64 n = n := by unfold wrap64; omega
theorem bt_nonneg (s : ByteArray) (i : Int) : 0 ≤ bt s i := (bt_range s i).1
theorem bt_le (s : ByteArray) (i : Int) : bt s i ≤ 255 := (bt_range s i).2
theorem bt_nat (s : ByteArray) (n : Nat) (h : n < s.size) : bt s (n : Int) = ((s[n]'h).toNat : Int) := by simp [bt, h]
theorem bt_out (s : ByteArray) (i : Int) (h : s.size ≤ i.toNat) : bt s i = 0 := by unfold bt; rw [dif_neg (by omega)]
theorem bt_extract (s : ByteArray) (m n : Nat) (i : Nat) (hi : m + i < n) (hn : n ≤ s.size) : bt (s.extract m n) (i : Int) = bt s ((m + i : Nat) : Int) := by
  have h1 : i < (s.extract m n).size := by rw [ByteArray.size_extract]; omega
  rw [bt_nat _ _ h1, bt_nat _ _ (by omega)]
  rw [ByteArray.getElem_extract]
theorem bytes_ext {a b : ByteArray} (hs : a.size = b.size) (h : ∀ i : Nat, i < a.size → bt a (i : Int) = bt b (i : Int)) : a = b := by
  apply ByteArray.ext_getElem hs
  intro i h1 h2
  have := h i h1
  rw [bt_nat _ _ h1, bt_nat _ _ h2] at this
  exact UInt8.toNat_inj.1 (by omega)
theorem toList_eq_nil (s : ByteArray) : s.toList = ([] : List UInt8) ↔ s.size = 0 := by
  rw [ByteArray.toList_eq]
  constructor
  · intro h
    have : s.data.toList.length = 0 := by rw [h]; rfl
    rwa [data_length] at this
  · intro h
    apply List.eq_nil_of_length_eq_zero
    rwa [data_length]
theorem toList_inj {a b : ByteArray} : a.toList = b.toList ↔ a = b := by
  constructor
  · intro h
    rw [ByteArray.toList_eq, ByteArray.toList_eq] at h
    exact ByteArray.ext (Array.toList_inj.1 h)
  · intro h; rw [h]
theorem wf_i64_bd {n : Int} (h : (Lit.int .i64 n).wf = true) : -9223372036854775808 ≤ n ∧ n ≤ 9223372036854775807 := by
  simp [Lit.wf, IntKind.min, IntKind.max, IntKind.signed, IntKind.bits] at h
  omega
theorem wf_u8_bd {n : Int} (h : (Lit.int .u8 n).wf = true) : 0 ≤ n ∧ n ≤ 255 := by
  simp [Lit.wf, IntKind.min, IntKind.max, IntKind.signed, IntKind.bits] at h
  omega

theorem alive_ev : Ev (fun k => oakumlaw02_alive.f k) true := Ev.of oakumlaw02_alive.mono (k := 40) (by decide +kernel)

theorem i64_and511 (x : Int) : bits .and .i64 x 511 = x % 512 := by
  have h1 : (BitVec.ofInt 64 x).toNat = (x % 18446744073709551616).toNat := by rw [BitVec.toNat_ofInt]; rfl
  have h2 : (BitVec.ofInt 64 511).toNat = 511 := by decide
  have h3 : (BitVec.ofInt 64 x &&& BitVec.ofInt 64 511).toNat = (x % 18446744073709551616).toNat % 512 := by
    rw [BitVec.toNat_and, h1, h2]
    exact Nat.and_two_pow_sub_one_eq_mod _ 9
  show IntKind.i64.wrap ((BitVec.ofInt 64 x &&& BitVec.ofInt 64 511).toNat : Int) = _
  rw [h3, IntKind.wrap_i64]
  omega
theorem TextBlocks : oakumlaw02_TextBlocks.Pure := by
  intro n hn
  have hb := wf_i64_bd hn
  refine Ev.rounds (g := fun k => oakumlaw02_TextBlocks.f k n) ?_
  unfold oakumlaw02_TextBlocks.f
  refine Ev.bind alive_ev ?_
  simp only [if_true]
  by_cases h0 : n < 0
  · have e1 : text_Blocks.f n = some 0 := by unfold text_Blocks.f; rw [if_pos (by omega)]
    have e2 : text_Rest.f n = some 0 := by unfold text_Rest.f; rw [if_pos h0]
    have e3 : oakumref02_Blocks.f n = some 0 := by unfold oakumref02_Blocks.f; rw [if_pos h0]
    have e4 : oakumref02_Rest.f n = some 0 := by unfold oakumref02_Rest.f; rw [if_pos h0]
    simp only [e1, e2, e3, e4, Option.bind_some, if_true, if_pos h0]
    exact Ev.now _
  have hq : Int.tdiv n 512 = n / 512 := Int.tdiv_eq_ediv_of_nonneg (by omega)
  have hr : Int.tmod n 512 = n % 512 := Int.tmod_eq_emod_of_nonneg (by omega)
  have e1 : text_Blocks.f n = some ((n + 511) / 512) := by
    unfold text_Blocks.f
    by_cases hz : n ≤ 0
    · rw [if_pos hz]; congr 1; omega
    · rw [if_neg hz, w64 (n := n - 1) (by omega) (by omega), Int.tdiv_eq_ediv_of_nonneg (by omega), w64 (n := (n - 1) / 512) (by omega) (by omega), w64 (by omega) (by omega)]
      congr 1; omega
  have e2 : text_Rest.f n = some ((-n) % 512) := by
    unfold text_Rest.f
    rw [if_neg h0, i64_and511, w64 (by omega) (by omega)]
  have e3 : oakumref02_Blocks.f n = some ((n + 511) / 512) := by
    unfold oakumref02_Blocks.f
    rw [if_neg h0, hq, hr, w64 (n := n / 512) (by omega) (by omega)]
    by_cases hz : n % 512 > 0
    · rw [if_pos hz, w64 (by omega) (by omega)]; congr 1; omega
    · rw [if_neg hz]; congr 1; omega
  have e4 : oakumref02_Rest.f n = some ((-n) % 512) := by
    unfold oakumref02_Rest.f
    rw [if_neg h0, hr]
    by_cases hz : n % 512 = 0
    · rw [if_pos hz]; congr 1; omega
    · rw [if_neg hz, w64 (by omega) (by omega)]; congr 1; omega
  simp only [e1, e2, e3, e4, Option.bind_some, if_true, if_neg h0]
  by_cases hbig : n > 1152921504606846976
  · simp only [if_pos hbig]; exact Ev.now _
  · simp only [if_neg hbig]
    rw [w64 (n := n + (-n) % 512) (by omega) (by omega), w64 (n := 512 * ((n + 511) / 512)) (by omega) (by omega)]
    simp only [if_pos (show n + (-n) % 512 = 512 * ((n + 511) / 512) by omega), decide_eq_true (show (-n) % 512 < 512 by omega)]
    exact Ev.now _

end Go.Proofs.Ythojbddpfpgnhaa.Pure
