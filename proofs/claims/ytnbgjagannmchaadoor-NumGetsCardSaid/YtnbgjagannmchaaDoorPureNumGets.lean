/- The law NumGets over lists and numbers: for every list of bytes within the reach the printed function of the law comes to true; no further condition. -/
import Derived.Test.YtnbgjagannmchaaDoorPNumGetsx5
set_option linter.unusedVariables false
set_option linter.unusedSimpArgs false
namespace Go.Proofs.YtnbgjagannmchaaDoor.Pure
open Go.RowKit Go.Proofs.YtnbgjagannmchaaDoor.PNumGets Go.Proofs.YtnbgjagannmchaaDoorW.PrintWords Go.Proofs.YtnbgjagannmchaaDoorW.PrintLast Go.Proofs.YtnbgjagannmchaaDoorW.PrintMore

/-! ### Small words: numbers that fit, rounds, bytes of a cut -/
theorem w64 {n : Int} (h0 : -9223372036854775808 ≤ n) (h1 : n ≤ 9223372036854775807) : wrap64 n = n := by unfold wrap64; omega
theorem bt_nonneg (s : ByteArray) (i : Int) : 0 ≤ bt s i := (bt_range s i).1
theorem bt_le (s : ByteArray) (i : Int) : bt s i ≤ 255 := (bt_range s i).2
theorem bt_nat (s : ByteArray) (n : Nat) (h : n < s.size) : bt s (n : Int) = ((s[n]'h).toNat : Int) := by simp [bt, h]
theorem bt_out (s : ByteArray) (i : Int) (h : s.size ≤ i.toNat) : bt s i = 0 := by unfold bt; rw [dif_neg (by omega)]
theorem bt_extract (s : ByteArray) (m n : Nat) (i : Nat) (hi : m + i < n) (hn : n ≤ s.size) : bt (s.extract m n) (i : Int) = bt s ((m + i : Nat) : Int) := by
  have h1 : i < (s.extract m n).size := by rw [ByteArray.size_extract]; omega
  rw [bt_nat _ _ h1, bt_nat _ _ (by omega)]
  rw [ByteArray.getElem_extract]
theorem bytes_ext {a b : ByteArray} (hs : a.size = b.size) (h : ∀ i : Nat, i < a.size → bt a (i : Int) = bt b (i : Int)) : a = b := by
  apply ByteArray.ext_getElem hs
  intro i h1 h2
  have := h i h1
  rw [bt_nat _ _ h1, bt_nat _ _ h2] at this
  exact UInt8.toNat_inj.1 (by omega)
theorem toList_eq_nil (s : ByteArray) : s.toList = ([] : List UInt8) ↔ s.size = 0 := by
  rw [ByteArray.toList_eq]
  constructor
  · intro h
    have : s.data.toList.length = 0 := by rw [h]; rfl
    rwa [data_length] at this
  · intro h
    apply List.eq_nil_of_length_eq_zero
    rwa [data_length]
theorem toList_inj {a b : ByteArray} : a.toList = b.toList ↔ a = b := by
  constructor
  · intro h
    rw [ByteArray.toList_eq, ByteArray.toList_eq] at h
    exact ByteArray.ext (Array.toList_inj.1 h)
  · intro h; rw [h]
theorem wf_i64_bd {n : Int} (h : (Lit.int .i64 n).wf = true) : -9223372036854775808 ≤ n ∧ n ≤ 9223372036854775807 := by
  simp [Lit.wf, IntKind.min, IntKind.max, IntKind.signed, IntKind.bits] at h
  omega
theorem wf_u8_bd {n : Int} (h : (Lit.int .u8 n).wf = true) : 0 ≤ n ∧ n ≤ 255 := by
  simp [Lit.wf, IntKind.min, IntKind.max, IntKind.signed, IntKind.bits] at h
  omega
/-- Sums that fit (no equation with a wrap stays in a context: linear arithmetic would look into it). -/
theorem wadd1 (n : Nat) (h : n < 9223372036854775807) : wrap64 ((n : Int) + 1) = ((n + 1 : Nat) : Int) := by rw [w64 (by omega) (by omega)]; omega
theorem wadd4 (n : Nat) (h : n < 9223372036854775803) : wrap64 ((n : Int) + 4) = ((n + 4 : Nat) : Int) := by rw [w64 (by omega) (by omega)]; omega
theorem wsub1 (n : Nat) (h0 : 0 < n) (h : n < 9223372036854775807) : wrap64 ((n : Int) - 1) = ((n - 1 : Nat) : Int) := by rw [w64 (by omega) (by omega)]; omega

theorem alive_ev : Ev (fun k => oakumlaw01_alive.f k) true := Ev.of oakumlaw01_alive.mono (k := 40) (by decide +kernel)

/-! ### The reference's octal field -/
theorem rd_drop (l : List Int) (i : Nat) (h : i < l.length) : l.drop i = rd l (i : Int) :: l.drop (i + 1) := by
  rw [List.drop_eq_getElem_cons h]
  congr 1
  unfold rd
  rw [Int.toNat_natCast, List.getD_eq_getElem?_getD, List.getElem?_eq_getElem h]
  rfl
theorem octal_eq (l : List Int) (h : ∀ x ∈ l, 0 ≤ x ∧ x ≤ 255) : num_Octal.f l = some (Hand.octAt 0 (l.dropWhile (fun x => decide (x = 32)))) := by
  unfold num_Octal.f
  rw [if_pos]
  rw [List.all_eq_true]
  intro x hx
  have := h x hx
  simp only [Bool.and_eq_true, decide_eq_true_eq]
  omega
theorem w48 {a : Int} (h0 : 0 ≤ a - 48) (h1 : a - 48 ≤ 9223372036854775807) : wrap64 (wrap64 a - 48) = a - 48 := by unfold wrap64; omega
/-- A code told as yes or no. -/
def res (p : Int × Int) : Int × Bool := (p.1, decide (p.2 = 0))
theorem oct_l2 (l : List Int) (n : Int) (hl : l.length ≤ 2000) : ∀ (d i : Nat), i + d = l.length → Ev (fun k => oakumref01_Octal.l2 k l (i : Int) n) (if Hand.padAll (l.drop i) = true then (n, true) else (0, false))
  | 0, i, hd => by
    refine Ev.step (fun k => oakumref01_Octal.l2.eq_2 l (i : Int) n k) ?_
    have : l.drop i = [] := List.drop_eq_nil_of_le (by omega)
    simp only [if_neg (show ¬ (i : Int) < (l.length : Int) by omega), this]
    exact Ev.now _
  | d + 1, i, hd => by
    refine Ev.step (fun k => oakumref01_Octal.l2.eq_2 l (i : Int) n k) ?_
    have ih := oct_l2 l n hl d (i + 1) (by omega)
    rw [rd_drop l i (by omega)]
    simp only [if_pos (show (i : Int) < (l.length : Int) by omega), if_pos (show 0 ≤ (i : Int) by omega), wadd1 i (by omega)]
    generalize rd l (i : Int) = x
    by_cases h0 : x = 0
    · simp only [if_pos h0]
      have : Hand.padAll (x :: l.drop (i + 1)) = Hand.padAll (l.drop (i + 1)) := by unfold Hand.padAll; rw [List.all_cons]; simp [Hand.pad, h0]
      rw [this]
      exact ih
    · by_cases h1 : x = 32
      · simp only [if_neg h0, if_pos h1]
        have : Hand.padAll (x :: l.drop (i + 1)) = Hand.padAll (l.drop (i + 1)) := by unfold Hand.padAll; rw [List.all_cons]; simp [Hand.pad, h1]
        rw [this]
        exact ih
      · simp only [if_neg h0, if_neg h1]
        have : Hand.padAll (x :: l.drop (i + 1)) = false := by unfold Hand.padAll; rw [List.all_cons]; simp [Hand.pad, h0, h1]
        rw [this]
        exact Ev.now _
theorem oct_l1 (l : List Int) (hl : l.length ≤ 2000) (hb : ∀ x ∈ l, 0 ≤ x ∧ x ≤ 255) : ∀ (d i : Nat) (n : Int), i + d = l.length → 0 ≤ n → n ≤ 9223372036854775807 → Ev (fun k => oakumref01_Octal.l1 k l (i : Int) n) (res (Hand.octAt n (l.drop i)))
  | 0, i, n, hd, h0, h1 => by
    have hnil : l.drop i = [] := List.drop_eq_nil_of_le (by omega)
    have h2 := oct_l2 l n hl 0 i hd
    refine Ev.step (fun k => oakumref01_Octal.l1.eq_2 l (i : Int) n k) ?_
    simp only [if_neg (show ¬ (i : Int) < (l.length : Int) by omega)]
    refine Ev.step (fun k => oakumref01_Octal.j3.eq_2 l (i : Int) n false k) ?_
    simp only [if_neg Bool.false_ne_true]
    rw [hnil] at h2 ⊢
    exact h2
  | d + 1, i, n, hd, h0, h1 => by
    have h2 := oct_l2 l n hl (d + 1) i hd
    have ih := oct_l1 l hl hb d (i + 1)
    have hmem : rd l (i : Int) ∈ l := List.mem_of_mem_drop (i := i) (by rw [rd_drop l i (by omega)]; exact List.mem_cons_self)
    have hx := hb _ hmem
    refine Ev.step (fun k => oakumref01_Octal.l1.eq_2 l (i : Int) n k) ?_
    rw [rd_drop l i (by omega)] at h2 ⊢
    simp only [if_pos (show (i : Int) < (l.length : Int) by omega), if_pos (show 0 ≤ (i : Int) by omega)]
    clear hmem
    by_cases hd1 : 48 ≤ rd l (i : Int) ∧ rd l (i : Int) ≤ 55
    · simp only [if_pos (show rd l (i : Int) ≥ 48 from hd1.1), decide_eq_true hd1.2]
      refine Ev.step (fun k => oakumref01_Octal.j3.eq_2 l (i : Int) n true k) ?_
      simp only [if_true]
      unfold Hand.octAt
      rw [if_pos hd1]
      by_cases hn : 1152921504606846975 < n
      · simp only [if_pos (show n > 1152921504606846975 from hn), if_pos hn]
        exact Ev.now _
      · simp only [if_neg (show ¬ n > 1152921504606846975 from hn), if_neg hn, if_pos (show (i : Int) < (l.length : Int) by omega), if_pos (show 0 ≤ (i : Int) by omega), wadd1 i (by omega)]
        generalize rd l (i : Int) = x at hx hd1
        rw [w64 (n := 8 * n) (by omega) (by omega), w64 (n := x) (by omega) (by omega), w48 (a := 8 * n + x) (by omega) (by omega), show 8 * n + x - 48 = n * 8 + (x - 48) by omega]
        exact ih _ (by omega) (by omega) (by omega)
    · have hf : Ev (fun k => oakumref01_Octal.j3 k l (i : Int) n false) (res (Hand.octAt n (rd l (i : Int) :: l.drop (i + 1)))) := by
        refine Ev.step (fun k => oakumref01_Octal.j3.eq_2 l (i : Int) n false k) ?_
        simp only [if_neg Bool.false_ne_true]
        have : res (Hand.octAt n (rd l (i : Int) :: l.drop (i + 1))) = (if Hand.padAll (rd l (i : Int) :: l.drop (i + 1)) = true then (n, true) else (0, false)) := by
          unfold Hand.octAt
          rw [if_neg hd1]
          split <;> rfl
        rw [this]
        exact h2
      by_cases hge : rd l (i : Int) ≥ 48
      · have : decide (rd l (i : Int) ≤ 55) = false := decide_eq_false (by omega)
        simp only [if_pos hge, this]
        exact hf
      · simp only [if_neg hge]
        exact hf
theorem oct_l0 (l : List Int) (hl : l.length ≤ 2000) (hb : ∀ x ∈ l, 0 ≤ x ∧ x ≤ 255) : ∀ (d i : Nat), i + d = l.length → Ev (fun k => oakumref01_Octal.l0 k l (i : Int)) (res (Hand.octAt 0 ((l.drop i).dropWhile (fun x => decide (x = 32)))))
  | 0, i, hd => by
    have hnil : l.drop i = [] := List.drop_eq_nil_of_le (by omega)
    have h1 := oct_l1 l hl hb 0 i 0 hd (by omega) (by omega)
    refine Ev.step (fun k => oakumref01_Octal.l0.eq_2 l (i : Int) k) ?_
    simp only [if_neg (show ¬ (i : Int) < (l.length : Int) by omega)]
    refine Ev.step (fun k => oakumref01_Octal.j1.eq_2 l (i : Int) k) ?_
    rw [hnil] at h1 ⊢
    exact h1
  | d + 1, i, hd => by
    have h1 := oct_l1 l hl hb (d + 1) i 0 hd (by omega) (by omega)
    have ih := oct_l0 l hl hb d (i + 1) (by omega)
    refine Ev.step (fun k => oakumref01_Octal.l0.eq_2 l (i : Int) k) ?_
    rw [rd_drop l i (by omega)] at h1 ⊢
    simp only [if_pos (show (i : Int) < (l.length : Int) by omega), if_pos (show 0 ≤ (i : Int) by omega)]
    by_cases hx : rd l (i : Int) = 32
    · simp only [if_pos hx, wadd1 i (by omega)]
      rw [List.dropWhile_cons, if_pos (decide_eq_true hx)]
      exact ih
    · simp only [if_neg hx]
      refine Ev.step (fun k => oakumref01_Octal.j1.eq_2 l (i : Int) k) ?_
      rw [List.dropWhile_cons, if_neg (by simpa using hx)]
      exact h1
theorem octAt_bd : ∀ (l : List Int) (n : Int), 0 ≤ n → n ≤ 9223372036854775807 → 0 ≤ (Hand.octAt n l).1 ∧ (Hand.octAt n l).1 ≤ 9223372036854775807 ∧ ((Hand.octAt n l).2 = 0 ∨ (Hand.octAt n l).2 = 5)
  | [], n, h0, h1 => ⟨h0, h1, .inl rfl⟩
  | x :: r, n, h0, h1 => by
    unfold Hand.octAt
    split
    · split
      · exact ⟨by simp, by simp, .inr rfl⟩
      · exact octAt_bd r _ (by omega) (by omega)
    · split
      · exact ⟨h0, h1, .inl rfl⟩
      · exact ⟨by simp, by simp, .inr rfl⟩
/-! ### Wide fields -/
/-- A digit, or its other side. -/
def comp (neg : Bool) (c : Int) : Int := if neg = true then 255 - c else c
def val (neg : Bool) (n : Int) : List Int → Int
  | [] => n
  | c :: r => val neg (256 * n + comp neg c) r
theorem comp_bd (neg : Bool) (c : Int) (h : 0 ≤ c ∧ c ≤ 255) : 0 ≤ comp neg c ∧ comp neg c ≤ 255 := by
  unfold comp; split <;> omega
theorem pow256 (a b : Nat) (h : a ≤ b) : (256 : Int) ^ a ≤ 256 ^ b := by
  obtain ⟨d, rfl⟩ : ∃ d, b = a + d := ⟨b - a, by omega⟩
  rw [Int.pow_add]
  have h1 : (0 : Int) < 256 ^ d := Int.pow_pos (by omega)
  have h2 : (0 : Int) ≤ 256 ^ a := Int.pow_nonneg (by omega)
  have h3 : (256 : Int) ^ a * 1 ≤ 256 ^ a * 256 ^ d := Int.mul_le_mul_of_nonneg_left (by omega) h2
  rwa [Int.mul_one] at h3
theorem val_ge (neg : Bool) : ∀ (l : List Int), (∀ x ∈ l, 0 ≤ x ∧ x ≤ 255) → ∀ n, 0 ≤ n → n * 256 ^ l.length ≤ val neg n l
  | [], _, n, h0 => by simp [val]
  | c :: r, h, n, h0 => by
    have hc := comp_bd neg c (h c List.mem_cons_self)
    have ih := val_ge neg r (fun x hx => h x (List.mem_cons_of_mem _ hx)) (256 * n + comp neg c) (by omega)
    unfold val
    refine Int.le_trans ?_ ih
    rw [List.length_cons, Int.pow_succ, show n * (256 ^ r.length * 256) = (256 * n) * 256 ^ r.length by rw [Int.mul_comm (256 ^ r.length) 256, ← Int.mul_assoc, Int.mul_comm n 256]]
    exact Int.mul_le_mul_of_nonneg_right (by omega) (Int.pow_nonneg (by omega))
theorem val_lt (neg : Bool) : ∀ (l : List Int), (∀ x ∈ l, 0 ≤ x ∧ x ≤ 255) → ∀ n, 0 ≤ n → val neg n l < (n + 1) * 256 ^ l.length
  | [], _, n, h0 => by simp [val]; omega
  | c :: r, h, n, h0 => by
    have hc := comp_bd neg c (h c List.mem_cons_self)
    have ih := val_lt neg r (fun x hx => h x (List.mem_cons_of_mem _ hx)) (256 * n + comp neg c) (by omega)
    unfold val
    refine Int.lt_of_lt_of_le ih ?_
    rw [List.length_cons, Int.pow_succ, show (n + 1) * (256 ^ r.length * 256) = (256 * (n + 1)) * 256 ^ r.length by rw [Int.mul_comm (256 ^ r.length) 256, ← Int.mul_assoc, Int.mul_comm (n + 1) 256]]
    exact Int.mul_le_mul_of_nonneg_right (by omega) (Int.pow_nonneg (by omega))
theorem val_self (neg : Bool) (l : List Int) (h : ∀ x ∈ l, 0 ≤ x ∧ x ≤ 255) (n : Int) (h0 : 0 ≤ n) : n ≤ val neg n l := by
  have h1 := val_ge neg l h n h0
  have h2 : (1 : Int) ≤ 256 ^ l.length := by
    have : (0 : Int) < 256 ^ l.length := Int.pow_pos (by omega)
    omega
  have h3 : n * 1 ≤ n * 256 ^ l.length := Int.mul_le_mul_of_nonneg_left h2 h0
  omega
/-- The number that the digits tell, and whether it fits. -/
def wideOf (neg : Bool) (v : Int) : Int × Int := if v < 9223372036854775808 then (if neg = true then -v - 1 else v, 0) else (0, 5)
/-- The reference's loop: the whole field l, its first byte 255 or 128. -/
theorem ref_wide (l : List Int) (hl : l.length ≤ 2000) (hb : ∀ x ∈ l, 0 ≤ x ∧ x ≤ 255) (neg : Bool) (hlen : 0 < l.length) (hf : rd l 0 = if neg = true then 255 else 128) :
    ∀ (d i : Nat) (n : Int), i + d = l.length → 0 ≤ n → n < 9223372036854775808 → Ev (fun k => oakumref01_Wide.l0 k l n (i : Int)) (res (wideOf neg (val neg n (l.drop i))))
  | 0, i, n, hd, h0, h1 => by
    refine Ev.step (fun k => oakumref01_Wide.l0.eq_2 l n (i : Int) k) ?_
    have hnil : l.drop i = [] := List.drop_eq_nil_of_le (by omega)
    rw [hnil]
    simp only [if_neg (show ¬ (i : Int) < (l.length : Int) by omega), if_pos (show (0 : Int) < (l.length : Int) by omega), hf]
    have : wideOf neg (val neg n []) = (if neg = true then -n - 1 else n, 0) := by unfold wideOf val; rw [if_pos h1]
    rw [this]
    cases neg with
    | true =>
      simp only [if_true]
      rw [w64 (n := -n) (by omega) (by omega), w64 (by omega) (by omega)]
      exact Ev.now _
    | false =>
      simp only [if_neg Bool.false_ne_true, if_neg (show ¬ (128 : Int) = 255 by decide)]
      exact Ev.now _
  | d + 1, i, n, hd, h0, h1 => by
    have ih := ref_wide l hl hb neg hlen hf d (i + 1)
    have hmem : rd l (i : Int) ∈ l := List.mem_of_mem_drop (i := i) (by rw [rd_drop l i (by omega)]; exact List.mem_cons_self)
    have hx := hb _ hmem
    have hv : val neg n (l.drop i) = val neg (256 * n + comp neg (rd l (i : Int))) (l.drop (i + 1)) := by rw [rd_drop l i (by omega), val]
    have hcb := comp_bd neg _ hx
    refine Ev.step (fun k => oakumref01_Wide.l0.eq_2 l n (i : Int) k) ?_
    rw [hv]
    simp only [if_pos (show (i : Int) < (l.length : Int) by omega), if_pos (show 0 ≤ (i : Int) by omega), if_pos (show (0 : Int) < (l.length : Int) by omega), hf, wadd1 i (by omega)]
    clear hmem hv
    generalize rd l (i : Int) = x at hx hcb
    by_cases hn : n > 36028797018963967
    · have hbig : wideOf neg (val neg (256 * n + comp neg x) (l.drop (i + 1))) = (0, 5) := by
        unfold wideOf
        have := val_self neg (l.drop (i + 1)) (fun y hy => hb y (List.mem_of_mem_drop hy)) (256 * n + comp neg x) (by omega)
        rw [if_neg (by omega)]
      rw [hbig]
      simp only [if_pos hn]
      cases neg <;> exact Ev.now _
    · simp only [if_neg hn]
      have := ih (256 * n + comp neg x) (by omega) (by omega) (by omega)
      cases neg with
      | true =>
        simp only [if_true]
        have e : comp true x = 255 - x := rfl
        rw [e] at this
        rw [e, w64 (n := 256 * n) (by omega) (by omega), w64 (n := x) (by omega) (by omega), w64 (n := 255 - x) (by omega) (by omega), w64 (n := 256 * n + (255 - x)) (by omega) (by omega)]
        exact this
      | false =>
        simp only [if_neg Bool.false_ne_true, if_neg (show ¬ (128 : Int) = 255 by decide)]
        have e : comp false x = x := rfl
        rw [e] at this
        rw [e, w64 (n := 256 * n) (by omega) (by omega), w64 (n := x) (by omega) (by omega), w64 (n := 256 * n + x) (by omega) (by omega)]
        exact this
/-- What the code carries: the number, or its other side, of 64 bits. -/
def carry (neg : Bool) (m : Int) : Int := if neg = true then 18446744073709551615 - m else m
theorem or_byte (x c : Int) (h0 : 0 ≤ x) (hc : 0 ≤ c ∧ c ≤ 255) : Go.bits .or .u64 (IntKind.u64.wrap (x * 256)) (IntKind.u64.wrap c) = x * 256 % 18446744073709551616 + c := by
  rw [IntKind.wrap_u64, IntKind.wrap_u64]
  obtain ⟨a, rfl⟩ := Int.eq_ofNat_of_zero_le h0
  obtain ⟨b, rfl⟩ := Int.eq_ofNat_of_zero_le hc.1
  rw [show ((b : Int)) % 18446744073709551616 = (b : Int) by omega]
  have hq : ((a : Int) * 256) % 18446744073709551616 = ((2 ^ 8 * (a % 72057594037927936) : Nat) : Int) := by omega
  rw [hq, Go.u64_or_nat _ _ (by omega) (by omega), ← Nat.two_pow_add_eq_or_of_lt (show b < 2 ^ 8 by omega)]
  omega
theorem wide_l1 (neg : Bool) (l : List Int) (hl : l.length ≤ 2000) (hb : ∀ x ∈ l, 0 ≤ x ∧ x ≤ 255) : ∀ (d i : Nat) (m : Int), i + d = l.length → 0 ≤ m → val neg m (l.drop i) < 9223372036854775808 →
    Ev (fun k => num_Wide.l1 k (carry neg m) l (l.length : Int) (i : Int)) (wideOf neg (val neg m (l.drop i)))
  | 0, i, m, hd, h0, hv => by
    refine Ev.step (fun k => num_Wide.l1.eq_2 (carry neg m) l (l.length : Int) (i : Int) k) ?_
    have hnil : l.drop i = [] := List.drop_eq_nil_of_le (by omega)
    rw [hnil] at hv ⊢
    simp only [if_neg (show ¬ (i : Int) < (l.length : Int) by omega)]
    unfold wideOf
    rw [if_pos hv]
    unfold val at hv ⊢
    have : wrap64 (carry neg m) = if neg = true then -m - 1 else m := by
      unfold carry
      cases neg
      · simp only [if_neg Bool.false_ne_true]; exact w64 (by omega) (by omega)
      · simp only [if_true]; unfold wrap64; omega
    rw [this]
    exact Ev.now _
  | d + 1, i, m, hd, h0, hv => by
    have ih := wide_l1 neg l hl hb d (i + 1)
    have hmem : rd l (i : Int) ∈ l := List.mem_of_mem_drop (i := i) (by rw [rd_drop l i (by omega)]; exact List.mem_cons_self)
    have hx := hb _ hmem
    have e : val neg m (l.drop i) = val neg (256 * m + comp neg (rd l (i : Int))) (l.drop (i + 1)) := by rw [rd_drop l i (by omega), val]
    rw [e] at hv ⊢
    have hcb := comp_bd neg _ hx
    have hself := val_self neg (l.drop (i + 1)) (fun y hy => hb y (List.mem_of_mem_drop hy)) (256 * m + comp neg (rd l (i : Int))) (by omega)
    refine Ev.step (fun k => num_Wide.l1.eq_2 (carry neg m) l (l.length : Int) (i : Int) k) ?_
    simp only [if_pos (show (i : Int) < (l.length : Int) by omega), if_pos (show 0 ≤ (i : Int) by omega), wadd1 i (by omega)]
    clear hmem e
    generalize rd l (i : Int) = x at hx hcb hv hself ⊢
    have hcr : Go.bits .or .u64 (IntKind.u64.wrap (carry neg m * 256)) (IntKind.u64.wrap x) = carry neg (256 * m + comp neg x) := by
      have hc0 : 0 ≤ carry neg m := by unfold carry; split <;> omega
      rw [or_byte _ _ hc0 hx]
      cases neg
      · simp only [carry, comp, if_neg Bool.false_ne_true] at hself hv hcb ⊢; omega
      · simp only [carry, comp, if_true] at hself hv hcb ⊢; omega
    rw [hcr]
    exact ih _ (by omega) (by omega) hv
theorem wide_l0 (neg : Bool) : ∀ (l : List Int), l.length ≤ 2000 → (∀ x ∈ l, 0 ≤ x ∧ x ≤ 255) → Ev (fun k => num_Wide.l0 k (if neg = true then 255 else 0) (carry neg 0) l) (wideOf neg (val neg 0 l))
  | [], hl, hb => by
    refine Ev.step (fun k => num_Wide.l0.eq_2 _ _ _ k) ?_
    simp only [List.length_nil, if_neg (show ¬ ((0 : Nat) : Int) > 8 by omega), if_neg (show ¬ ((0 : Nat) : Int) = 8 by omega)]
    refine Ev.step (fun k => num_Wide.j4.eq_2 _ _ _ k) ?_
    simp only [if_neg Bool.false_ne_true]
    exact wide_l1 neg [] (by simp) hb 0 0 0 rfl (by omega) (by simp [val])
  | c :: r, hl, hb => by
    have ih := wide_l0 neg r (by simp at hl; omega) (fun x hx => hb x (List.mem_cons_of_mem _ hx))
    have hc := hb c List.mem_cons_self
    have hcb := comp_bd neg c hc
    have hr : ∀ x ∈ r, 0 ≤ x ∧ x ≤ 255 := fun x hx => hb x (List.mem_cons_of_mem _ hx)
    have hv : val neg 0 (c :: r) = val neg (comp neg c) r := by rw [val, Int.mul_zero, Int.zero_add]
    have hrd : rd (c :: r) 0 = c := rfl
    have hlen : (c :: r).length = r.length + 1 := rfl
    obtain ⟨fill, hfill⟩ : ∃ f : Int, f = if neg = true then 255 else 0 := ⟨_, rfl⟩
    rw [← hfill] at ih ⊢
    refine Ev.step (fun k => num_Wide.l0.eq_2 _ _ _ k) ?_
    simp only [hrd, hlen, if_pos (show (0 : Int) < ((r.length + 1 : Nat) : Int) by omega), if_pos (show (1 : Int) ≤ ((r.length + 1 : Nat) : Int) by omega), List.drop_succ_cons, List.drop_zero]
    have hl1 : ∀ h : val neg 0 (c :: r) < 9223372036854775808, Ev (fun k => num_Wide.j4 k (carry neg 0) (c :: r) false) (wideOf neg (val neg 0 (c :: r))) := by
      intro h
      refine Ev.step (fun k => num_Wide.j4.eq_2 _ _ _ k) ?_
      simp only [if_neg Bool.false_ne_true]
      exact wide_l1 neg (c :: r) hl hb (c :: r).length 0 0 (by omega) (by omega) h
    by_cases h8 : 8 < r.length + 1
    · simp only [if_pos (show ((r.length + 1 : Nat) : Int) > 8 by omega)]
      by_cases hz : c = fill
      · simp only [if_pos hz]
        have : comp neg c = 0 := by rw [hz, hfill]; unfold comp; cases neg <;> rfl
        rw [hv, this]
        exact ih
      · simp only [if_neg hz]
        have hne : 1 ≤ comp neg c := by
          unfold comp at hcb ⊢
          cases neg
          · simp only [if_neg Bool.false_ne_true] at hfill hcb ⊢; omega
          · simp only [if_true] at hfill hcb ⊢; omega
        have hg := val_ge neg r hr (comp neg c) (by omega)
        have hp : (256 : Int) ^ 8 ≤ 256 ^ r.length := by
          exact pow256 _ _ (by omega)
        have hq : 1 * (256 : Int) ^ 8 ≤ comp neg c * 256 ^ r.length := Int.mul_le_mul hne hp (by omega) (by omega)
        have : wideOf neg (val neg 0 (c :: r)) = (0, 5) := by
          unfold wideOf
          rw [hv, if_neg (by omega)]
        rw [this]
        exact Ev.now _
    · simp only [if_neg (show ¬ ((r.length + 1 : Nat) : Int) > 8 by omega)]
      by_cases h7 : r.length + 1 = 8
      · have hr7 : r.length = 7 := by omega
        simp only [if_pos (show ((r.length + 1 : Nat) : Int) = 8 by omega)]
        by_cases hs : comp neg c < 128
        · have : (c / 128 != fill / 128) = false := by
            unfold comp at hs hcb
            cases neg
            · simp only [if_neg Bool.false_ne_true] at hs hcb hfill; subst hfill; simp; omega
            · simp only [if_true] at hs hcb hfill; subst hfill; simp; omega
          rw [this]
          refine hl1 ?_
          have hlt := val_lt neg r hr (comp neg c) (by omega)
          rw [hr7] at hlt
          rw [hv]
          omega
        · have : (c / 128 != fill / 128) = true := by
            unfold comp at hs hcb
            cases neg
            · simp only [if_neg Bool.false_ne_true] at hs hcb hfill; subst hfill; simp; omega
            · simp only [if_true] at hs hcb hfill; subst hfill; simp; omega
          rw [this]
          refine Ev.step (fun k => num_Wide.j4.eq_2 _ _ _ k) ?_
          simp only [if_true]
          have hg := val_ge neg r hr (comp neg c) (by omega)
          rw [hr7] at hg
          have : wideOf neg (val neg 0 (c :: r)) = (0, 5) := by
            unfold wideOf
            rw [hv, if_neg (by omega)]
          rw [this]
          exact Ev.now _
      · simp only [if_neg (show ¬ ((r.length + 1 : Nat) : Int) = 8 by omega)]
        refine hl1 ?_
        have hlt := val_lt neg r hr (comp neg c) (by omega)
        have hp : (256 : Int) ^ r.length ≤ 256 ^ 6 := by
          exact pow256 _ _ (by omega)
        have hq : (comp neg c + 1) * (256 : Int) ^ r.length ≤ (comp neg c + 1) * 256 ^ 6 := Int.mul_le_mul_of_nonneg_left hp (by omega)
        rw [hv]
        omega
/-! ### The law -/
theorem wide_pair (l : List Int) (hl : l.length ≤ 2000) (hb : ∀ x ∈ l, 0 ≤ x ∧ x ≤ 255) : ∃ p : Int × Int, (p.2 = 0 ∨ p.2 = 5) ∧ Ev (fun k => num_Wide.f k l) p ∧ Ev (fun k => oakumref01_Wide.f k l) (res p) := by
  have hno : ∀ b : Bool, b = true → Ev (fun k => num_Wide.j0 k l b) (0, 5) ∧ Ev (fun k => oakumref01_Wide.j0 k l b) (0, false) := by
    intro b e
    subst e
    constructor
    · refine Ev.step (fun k => num_Wide.j0.eq_2 _ _ k) ?_
      simp only [if_true]
      exact Ev.now _
    · refine Ev.step (fun k => oakumref01_Wide.j0.eq_2 _ _ k) ?_
      simp only [if_true]
      exact Ev.now _
  by_cases h2 : l.length < 2
  · refine ⟨(0, 5), .inr rfl, ?_, ?_⟩
    · unfold num_Wide.f
      simp only [if_pos (show (l.length : Int) < 2 by omega)]
      exact (hno true rfl).1
    · unfold oakumref01_Wide.f
      simp only [if_pos (show (l.length : Int) < 2 by omega)]
      exact (hno true rfl).2
  have hgo : ∀ neg : Bool, rd l 0 = (if neg = true then 255 else 128) → Ev (fun k => num_Wide.j0 k l false) (wideOf neg (val neg 0 (l.drop 1))) ∧ Ev (fun k => oakumref01_Wide.j0 k l false) (res (wideOf neg (val neg 0 (l.drop 1)))) := by
    intro neg hf
    have h0 := wide_l0 neg (l.drop 1) (by rw [List.length_drop]; omega) (fun x hx => hb x (List.mem_of_mem_drop hx))
    have h1 := ref_wide l hl hb neg (by omega) hf (l.length - 1) 1 0 (by omega) (by omega) (by omega)
    constructor
    · refine Ev.step (fun k => num_Wide.j0.eq_2 _ _ k) ?_
      simp only [if_neg Bool.false_ne_true, if_pos (show 0 < (l.length : Int) by omega), hf]
      cases neg with
      | true =>
        simp only [if_true]
        refine Ev.step (fun k => num_Wide.j1.eq_2 _ _ k) ?_
        simp only [if_neg (show ¬ (255 : Int) = 0 by decide)]
        refine Ev.step (fun k => num_Wide.j2.eq_2 _ _ _ k) ?_
        simp only [if_pos (show 1 ≤ (l.length : Int) by omega)]
        exact h0
      | false =>
        simp only [if_neg Bool.false_ne_true, if_neg (show ¬ (128 : Int) = 255 by decide)]
        refine Ev.step (fun k => num_Wide.j1.eq_2 _ _ k) ?_
        simp only [if_true]
        refine Ev.step (fun k => num_Wide.j2.eq_2 _ _ _ k) ?_
        simp only [if_pos (show 1 ≤ (l.length : Int) by omega)]
        exact h0
    · refine Ev.step (fun k => oakumref01_Wide.j0.eq_2 _ _ k) ?_
      simp only [if_neg Bool.false_ne_true]
      exact h1
  have hcode : ∀ neg v, (wideOf neg v).2 = 0 ∨ (wideOf neg v).2 = 5 := by
    intro neg v
    unfold wideOf
    split
    · exact .inl rfl
    · exact .inr rfl
  by_cases h128 : rd l 0 = 128
  · obtain ⟨g1, g2⟩ := hgo false (by rw [h128]; rfl)
    refine ⟨wideOf false (val false 0 (l.drop 1)), hcode _ _, ?_, ?_⟩
    rotate_left
    · unfold oakumref01_Wide.f
      simp only [if_neg (show ¬ (l.length : Int) < 2 by omega), if_pos (show 0 < (l.length : Int) by omega), if_pos h128]
      exact g2
    · unfold num_Wide.f
      simp only [if_neg (show ¬ (l.length : Int) < 2 by omega), if_pos (show 0 < (l.length : Int) by omega), if_pos h128]
      exact g1
  · by_cases h255 : rd l 0 = 255
    · obtain ⟨g1, g2⟩ := hgo true (by rw [h255]; rfl)
      have hb1 : (rd l 0 != 255) = false := by simp [h255]
      refine ⟨wideOf true (val true 0 (l.drop 1)), hcode _ _, ?_, ?_⟩
      rotate_left
      · unfold oakumref01_Wide.f
        simp only [if_neg (show ¬ (l.length : Int) < 2 by omega), if_pos (show 0 < (l.length : Int) by omega), if_neg h128, hb1]
        exact g2
      · unfold num_Wide.f
        simp only [if_neg (show ¬ (l.length : Int) < 2 by omega), if_pos (show 0 < (l.length : Int) by omega), if_neg h128, hb1]
        exact g1
    · have hb1 : (rd l 0 != 255) = true := by simp [h255]
      refine ⟨(0, 5), .inr rfl, ?_, ?_⟩
      · unfold num_Wide.f
        simp only [if_neg (show ¬ (l.length : Int) < 2 by omega), if_pos (show 0 < (l.length : Int) by omega), if_neg h128, hb1]
        exact (hno true rfl).1
      · unfold oakumref01_Wide.f
        simp only [if_neg (show ¬ (l.length : Int) < 2 by omega), if_pos (show 0 < (l.length : Int) by omega), if_neg h128, hb1]
        exact (hno true rfl).2
theorem right_ok (p : Int × Int) (h : p.2 = 0 ∨ p.2 = 5) : oakumlaw01_right.f (wrap64 p.2) (res p).2 = some true := by
  unfold oakumlaw01_right.f res
  rcases h with h | h
  · rw [h, w64 (n := 0) (by omega) (by omega)]; rfl
  · rw [h, w64 (n := 5) (by omega) (by omega)]; rfl
theorem NumGets : oakumlaw01_NumGets.Pure := by
  intro l0 _ _ hw
  have hb : ∀ x ∈ l0, 0 ≤ x ∧ x ≤ 255 := fun x hx => wf_u8_bd (hw x hx)
  refine Ev.rounds (g := fun k => oakumlaw01_NumGets.f k l0) ?_
  unfold oakumlaw01_NumGets.f
  refine Ev.bind alive_ev ?_
  simp only [if_true]
  by_cases hl : (l0.length : Int) > 2000
  · simp only [if_pos hl]; exact Ev.now _
  simp only [if_neg hl]
  have hl : l0.length ≤ 2000 := by omega
  have ho := oct_l0 l0 hl hb l0.length 0 (by omega)
  rw [List.drop_zero] at ho
  obtain ⟨o, ho1⟩ : ∃ o : Int × Int, o = Hand.octAt 0 (l0.dropWhile (fun x => decide (x = 32))) := ⟨_, rfl⟩
  have ho2 := (octAt_bd (l0.dropWhile (fun x => decide (x = 32))) 0 (by omega) (by omega)).2.2
  have hoe := octal_eq l0 hb
  rw [← ho1] at ho ho2 hoe
  obtain ⟨p, hp, e1, e2⟩ := wide_pair l0 hl hb
  obtain ⟨q, hq, g1, g2⟩ : ∃ q : Int × Int, (q.2 = 0 ∨ q.2 = 5) ∧ Ev (fun k => num_Get.f k l0) q ∧ Ev (fun k => oakumref01_Get.f k l0) (res q) := by
    have hwide : Ev (fun k => num_Get.j0 k l0 true) p ∧ Ev (fun k => oakumref01_Get.j0 k l0 true) (res p) := by
      constructor
      · refine Ev.step (fun k => num_Get.j0.eq_2 _ _ k) ?_
        simp only [if_true]
        refine Ev.bind e1 ?_
        exact Ev.now _
      · refine Ev.step (fun k => oakumref01_Get.j0.eq_2 _ _ k) ?_
        simp only [if_true]
        refine Ev.bind e2 ?_
        exact Ev.now _
    have hoct : Ev (fun k => num_Get.j0 k l0 false) o ∧ Ev (fun k => oakumref01_Get.j0 k l0 false) (res o) := by
      constructor
      · refine Ev.step (fun k => num_Get.j0.eq_2 _ _ k) ?_
        simp only [if_neg Bool.false_ne_true, hoe, Option.bind_some]
        exact Ev.now _
      · refine Ev.step (fun k => oakumref01_Get.j0.eq_2 _ _ k) ?_
        simp only [if_neg Bool.false_ne_true]
        refine Ev.bind (g := fun k => oakumref01_Octal.f k l0) ho ?_
        exact Ev.now _
    unfold num_Get.f oakumref01_Get.f
    by_cases h0 : 0 < l0.length
    · simp only [if_pos (show (l0.length : Int) > 0 by omega)]
      by_cases h128 : rd l0 0 ≥ 128
      · simp only [decide_eq_true h128]
        exact ⟨p, hp, hwide⟩
      · simp only [decide_eq_false h128]
        exact ⟨o, ho2, hoct⟩
    · simp only [if_neg (show ¬ (l0.length : Int) > 0 by omega)]
      exact ⟨o, ho2, hoct⟩
  simp only [hoe, Option.bind_some]
  refine Ev.bind e1 ?_
  refine Ev.bind g1 ?_
  refine Ev.bind (g := fun k => oakumref01_Octal.f k l0) ho ?_
  refine Ev.bind e2 ?_
  refine Ev.bind g2 ?_
  have a1 : ∀ x : Int × Int, (res x).1 = x.1 := fun _ => rfl
  simp only [a1, if_true, right_ok o ho2, right_ok p hp, right_ok q hq, Option.bind_some]
  exact Ev.now _

end Go.Proofs.YtnbgjagannmchaaDoor.Pure
