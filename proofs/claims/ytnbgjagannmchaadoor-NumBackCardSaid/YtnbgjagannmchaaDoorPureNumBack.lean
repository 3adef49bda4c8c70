/- The law NumBack over lists and numbers: for every number and width the printed function of the law comes to true; no further condition. -/
import Derived.Test.YtnbgjagannmchaaDoorPNumBackx4
set_option linter.unusedVariables false
set_option linter.unusedSimpArgs false
namespace Go.Proofs.YtnbgjagannmchaaDoor.Pure
open Go.RowKit Go.Proofs.YtnbgjagannmchaaDoor.PNumBack Go.Proofs.YtnbgjagannmchaaDoorW.PrintWords Go.Proofs.YtnbgjagannmchaaDoorW.PrintLast Go.Proofs.YtnbgjagannmchaaDoorW.PrintMore

/-! ### Small words: numbers that fit, rounds, bytes of a cut -/
theorem w64 {n : Int} (h0 : -9223372036854775808 ≤ n) (h1 : n ≤ 9223372036854775807) : wrap64 n = n := by unfold wrap64; omega
theorem bt_nonneg (s : ByteArray) (i : Int) : 0 ≤ bt s i := (bt_range s i).1
theorem bt_le (s : ByteArray) (i : Int) : bt s i ≤ 255 := (bt_range s i).2
theorem bt_nat (s : ByteArray) (n : Nat) (h : n < s.size) : bt s (n : Int) = ((s[n]'h).toNat : Int) := by simp [bt, h]
theorem bt_out (s : ByteArray) (i : Int) (h : s.size ≤ i.toNat) : bt s i = 0 := by unfold bt; rw [dif_neg (by omega)]
theorem bt_extract (s : ByteArray) (m n : Nat) (i : Nat) (hi : m + i < n) (hn : n ≤ s.size) : bt (s.extract m n) (i : Int) = bt s ((m + i : Nat) : Int) := by
  have h1 : i < (s.extract m n).size := by rw [ByteArray.size_extract]; omega
  rw [bt_nat _ _ h1, bt_nat _ _ (by omega)]
  rw [ByteArray.getElem_extract]
theorem bytes_ext {a b : ByteArray} (hs : a.size = b.size) (h : ∀ i : Nat, i < a.size → bt a (i : Int) = bt b (i : Int)) : a = b := by
  apply ByteArray.ext_getElem hs
  intro i h1 h2
  have := h i h1
  rw [bt_nat _ _ h1, bt_nat _ _ h2] at this
  exact UInt8.toNat_inj.1 (by omega)
theorem toList_eq_nil (s : ByteArray) : s.toList = ([] : List UInt8) ↔ s.size = 0 := by
  rw [ByteArray.toList_eq]
  constructor
  · intro h
    have : s.data.toList.length = 0 := by rw [h]; rfl
    rwa [data_length] at this
  · intro h
    apply List.eq_nil_of_length_eq_zero
    rwa [data_length]
theorem toList_inj {a b : ByteArray} : a.toList = b.toList ↔ a = b := by
  constructor
  · intro h
    rw [ByteArray.toList_eq, ByteArray.toList_eq] at h
    exact ByteArray.ext (Array.toList_inj.1 h)
  · intro h; rw [h]
theorem wf_i64_bd {n : Int} (h : (Lit.int .i64 n).wf = true) : -9223372036854775808 ≤ n ∧ n ≤ 9223372036854775807 := by
  simp [Lit.wf, IntKind.min, IntKind.max, IntKind.signed, IntKind.bits] at h
  omega
theorem wf_u8_bd {n : Int} (h : (Lit.int .u8 n).wf = true) : 0 ≤ n ∧ n ≤ 255 := by
  simp [Lit.wf, IntKind.min, IntKind.max, IntKind.signed, IntKind.bits] at h
  omega
/-- Sums that fit (no equation with a wrap stays in a context: linear arithmetic would look into it). -/
theorem wadd1 (n : Nat) (h : n < 9223372036854775807) : wrap64 ((n : Int) + 1) = ((n + 1 : Nat) : Int) := by rw [w64 (by omega) (by omega)]; omega
theorem wadd4 (n : Nat) (h : n < 9223372036854775803) : wrap64 ((n : Int) + 4) = ((n + 4 : Nat) : Int) := by rw [w64 (by omega) (by omega)]; omega
theorem wsub1 (n : Nat) (h0 : 0 < n) (h : n < 9223372036854775807) : wrap64 ((n : Int) - 1) = ((n - 1 : Nat) : Int) := by rw [w64 (by omega) (by omega)]; omega

theorem alive_ev : Ev (fun k => oakumlaw01_alive.f k) true := Ev.of oakumlaw01_alive.mono (k := 40) (by decide +kernel)

/-! ### Fields and wide fields, by the code -/
theorem rd_drop (l : List Int) (i : Nat) (h : i < l.length) : l.drop i = rd l (i : Int) :: l.drop (i + 1) := by
  rw [List.drop_eq_getElem_cons h]
  congr 1
  unfold rd
  rw [Int.toNat_natCast, List.getD_eq_getElem?_getD, List.getElem?_eq_getElem h]
  rfl
theorem octal_eq (l : List Int) (h : ∀ x ∈ l, 0 ≤ x ∧ x ≤ 255) : num_Octal.f l = some (Hand.octAt 0 (l.dropWhile (fun x => decide (x = 32)))) := by
  unfold num_Octal.f
  rw [if_pos]
  rw [List.all_eq_true]
  intro x hx
  have := h x hx
  simp only [Bool.and_eq_true, decide_eq_true_eq]
  omega
theorem w48 {a : Int} (h0 : 0 ≤ a - 48) (h1 : a - 48 ≤ 9223372036854775807) : wrap64 (wrap64 a - 48) = a - 48 := by unfold wrap64; omega
/-! ### Wide fields -/
/-- A digit, or its other side. -/
def comp (neg : Bool) (c : Int) : Int := if neg = true then 255 - c else c
def val (neg : Bool) (n : Int) : List Int → Int
  | [] => n
  | c :: r => val neg (256 * n + comp neg c) r
theorem comp_bd (neg : Bool) (c : Int) (h : 0 ≤ c ∧ c ≤ 255) : 0 ≤ comp neg c ∧ comp neg c ≤ 255 := by
  unfold comp; split <;> omega
theorem pow256 (a b : Nat) (h : a ≤ b) : (256 : Int) ^ a ≤ 256 ^ b := by
  obtain ⟨d, rfl⟩ : ∃ d, b = a + d := ⟨b - a, by omega⟩
  rw [Int.pow_add]
  have h1 : (0 : Int) < 256 ^ d := Int.pow_pos (by omega)
  have h2 : (0 : Int) ≤ 256 ^ a := Int.pow_nonneg (by omega)
  have h3 : (256 : Int) ^ a * 1 ≤ 256 ^ a * 256 ^ d := Int.mul_le_mul_of_nonneg_left (by omega) h2
  rwa [Int.mul_one] at h3
theorem val_ge (neg : Bool) : ∀ (l : List Int), (∀ x ∈ l, 0 ≤ x ∧ x ≤ 255) → ∀ n, 0 ≤ n → n * 256 ^ l.length ≤ val neg n l
  | [], _, n, h0 => by simp [val]
  | c :: r, h, n, h0 => by
    have hc := comp_bd neg c (h c List.mem_cons_self)
    have ih := val_ge neg r (fun x hx => h x (List.mem_cons_of_mem _ hx)) (256 * n + comp neg c) (by omega)
    unfold val
    refine Int.le_trans ?_ ih
    rw [List.length_cons, Int.pow_succ, show n * (256 ^ r.length * 256) = (256 * n) * 256 ^ r.length by rw [Int.mul_comm (256 ^ r.length) 256, ← Int.mul_assoc, Int.mul_comm n 256]]
    exact Int.mul_le_mul_of_nonneg_right (by omega) (Int.pow_nonneg (by omega))
theorem val_lt (neg : Bool) : ∀ (l : List Int), (∀ x ∈ l, 0 ≤ x ∧ x ≤ 255) → ∀ n, 0 ≤ n → val neg n l < (n + 1) * 256 ^ l.length
  | [], _, n, h0 => by simp [val]; omega
  | c :: r, h, n, h0 => by
    have hc := comp_bd neg c (h c List.mem_cons_self)
    have ih := val_lt neg r (fun x hx => h x (List.mem_cons_of_mem _ hx)) (256 * n + comp neg c) (by omega)
    unfold val
    refine Int.lt_of_lt_of_le ih ?_
    rw [List.length_cons, Int.pow_succ, show (n + 1) * (256 ^ r.length * 256) = (256 * (n + 1)) * 256 ^ r.length by rw [Int.mul_comm (256 ^ r.length) 256, ← Int.mul_assoc, Int.mul_comm (n + 1) 256]]
    exact Int.mul_le_mul_of_nonneg_right (by omega) (Int.pow_nonneg (by omega))
theorem val_self (neg : Bool) (l : List Int) (h : ∀ x ∈ l, 0 ≤ x ∧ x ≤ 255) (n : Int) (h0 : 0 ≤ n) : n ≤ val neg n l := by
  have h1 := val_ge neg l h n h0
  have h2 : (1 : Int) ≤ 256 ^ l.length := by
    have : (0 : Int) < 256 ^ l.length := Int.pow_pos (by omega)
    omega
  have h3 : n * 1 ≤ n * 256 ^ l.length := Int.mul_le_mul_of_nonneg_left h2 h0
  omega
/-- The number that the digits tell, and whether it fits. -/
def wideOf (neg : Bool) (v : Int) : Int × Int := if v < 9223372036854775808 then (if neg = true then -v - 1 else v, 0) else (0, 5)
/-- What the code carries: the number, or its other side, of 64 bits. -/
def carry (neg : Bool) (m : Int) : Int := if neg = true then 18446744073709551615 - m else m
theorem or_byte (x c : Int) (h0 : 0 ≤ x) (hc : 0 ≤ c ∧ c ≤ 255) : Go.bits .or .u64 (IntKind.u64.wrap (x * 256)) (IntKind.u64.wrap c) = x * 256 % 18446744073709551616 + c := by
  rw [IntKind.wrap_u64, IntKind.wrap_u64]
  obtain ⟨a, rfl⟩ := Int.eq_ofNat_of_zero_le h0
  obtain ⟨b, rfl⟩ := Int.eq_ofNat_of_zero_le hc.1
  rw [show ((b : Int)) % 18446744073709551616 = (b : Int) by omega]
  have hq : ((a : Int) * 256) % 18446744073709551616 = ((2 ^ 8 * (a % 72057594037927936) : Nat) : Int) := by omega
  rw [hq, Go.u64_or_nat _ _ (by omega) (by omega), ← Nat.two_pow_add_eq_or_of_lt (show b < 2 ^ 8 by omega)]
  omega
theorem wide_l1 (neg : Bool) (l : List Int) (hl : l.length ≤ 2000) (hb : ∀ x ∈ l, 0 ≤ x ∧ x ≤ 255) : ∀ (d i : Nat) (m : Int), i + d = l.length → 0 ≤ m → val neg m (l.drop i) < 9223372036854775808 →
    Ev (fun k => num_Wide.l1 k (carry neg m) l (l.length : Int) (i : Int)) (wideOf neg (val neg m (l.drop i)))
  | 0, i, m, hd, h0, hv => by
    refine Ev.step (fun k => num_Wide.l1.eq_2 (carry neg m) l (l.length : Int) (i : Int) k) ?_
    have hnil : l.drop i = [] := List.drop_eq_nil_of_le (by omega)
    rw [hnil] at hv ⊢
    simp only [if_neg (show ¬ (i : Int) < (l.length : Int) by omega)]
    unfold wideOf
    rw [if_pos hv]
    unfold val at hv ⊢
    have : wrap64 (carry neg m) = if neg = true then -m - 1 else m := by
      unfold carry
      cases neg
      · simp only [if_neg Bool.false_ne_true]; exact w64 (by omega) (by omega)
      · simp only [if_true]; unfold wrap64; omega
    rw [this]
    exact Ev.now _
  | d + 1, i, m, hd, h0, hv => by
    have ih := wide_l1 neg l hl hb d (i + 1)
    have hmem : rd l (i : Int) ∈ l := List.mem_of_mem_drop (i := i) (by rw [rd_drop l i (by omega)]; exact List.mem_cons_self)
    have hx := hb _ hmem
    have e : val neg m (l.drop i) = val neg (256 * m + comp neg (rd l (i : Int))) (l.drop (i + 1)) := by rw [rd_drop l i (by omega), val]
    rw [e] at hv ⊢
    have hcb := comp_bd neg _ hx
    have hself := val_self neg (l.drop (i + 1)) (fun y hy => hb y (List.mem_of_mem_drop hy)) (256 * m + comp neg (rd l (i : Int))) (by omega)
    refine Ev.step (fun k => num_Wide.l1.eq_2 (carry neg m) l (l.length : Int) (i : Int) k) ?_
    simp only [if_pos (show (i : Int) < (l.length : Int) by omega), if_pos (show 0 ≤ (i : Int) by omega), wadd1 i (by omega)]
    clear hmem e
    generalize rd l (i : Int) = x at hx hcb hv hself ⊢
    have hcr : Go.bits .or .u64 (IntKind.u64.wrap (carry neg m * 256)) (IntKind.u64.wrap x) = carry neg (256 * m + comp neg x) := by
      have hc0 : 0 ≤ carry neg m := by unfold carry; split <;> omega
      rw [or_byte _ _ hc0 hx]
      cases neg
      · simp only [carry, comp, if_neg Bool.false_ne_true] at hself hv hcb ⊢; omega
      · simp only [carry, comp, if_true] at hself hv hcb ⊢; omega
    rw [hcr]
    exact ih _ (by omega) (by omega) hv
theorem wide_l0 (neg : Bool) : ∀ (l : List Int), l.length ≤ 2000 → (∀ x ∈ l, 0 ≤ x ∧ x ≤ 255) → Ev (fun k => num_Wide.l0 k (if neg = true then 255 else 0) (carry neg 0) l) (wideOf neg (val neg 0 l))
  | [], hl, hb => by
    refine Ev.step (fun k => num_Wide.l0.eq_2 _ _ _ k) ?_
    simp only [List.length_nil, if_neg (show ¬ ((0 : Nat) : Int) > 8 by omega), if_neg (show ¬ ((0 : Nat) : Int) = 8 by omega)]
    refine Ev.step (fun k => num_Wide.j4.eq_2 _ _ _ k) ?_
    simp only [if_neg Bool.false_ne_true]
    exact wide_l1 neg [] (by simp) hb 0 0 0 rfl (by omega) (by simp [val])
  | c :: r, hl, hb => by
    have ih := wide_l0 neg r (by simp at hl; omega) (fun x hx => hb x (List.mem_cons_of_mem _ hx))
    have hc := hb c List.mem_cons_self
    have hcb := comp_bd neg c hc
    have hr : ∀ x ∈ r, 0 ≤ x ∧ x ≤ 255 := fun x hx => hb x (List.mem_cons_of_mem _ hx)
    have hv : val neg 0 (c :: r) = val neg (comp neg c) r := by rw [val, Int.mul_zero, Int.zero_add]
    have hrd : rd (c :: r) 0 = c := rfl
    have hlen : (c :: r).length = r.length + 1 := rfl
    obtain ⟨fill, hfill⟩ : ∃ f : Int, f = if neg = true then 255 else 0 := ⟨_, rfl⟩
    rw [← hfill] at ih ⊢
    refine Ev.step (fun k => num_Wide.l0.eq_2 _ _ _ k) ?_
    simp only [hrd, hlen, if_pos (show (0 : Int) < ((r.length + 1 : Nat) : Int) by omega), if_pos (show (1 : Int) ≤ ((r.length + 1 : Nat) : Int) by omega), List.drop_succ_cons, List.drop_zero]
    have hl1 : ∀ h : val neg 0 (c :: r) < 9223372036854775808, Ev (fun k => num_Wide.j4 k (carry neg 0) (c :: r) false) (wideOf neg (val neg 0 (c :: r))) := by
      intro h
      refine Ev.step (fun k => num_Wide.j4.eq_2 _ _ _ k) ?_
      simp only [if_neg Bool.false_ne_true]
      exact wide_l1 neg (c :: r) hl hb (c :: r).length 0 0 (by omega) (by omega) h
    by_cases h8 : 8 < r.length + 1
    · simp only [if_pos (show ((r.length + 1 : Nat) : Int) > 8 by omega)]
      by_cases hz : c = fill
      · simp only [if_pos hz]
        have : comp neg c = 0 := by rw [hz, hfill]; unfold comp; cases neg <;> rfl
        rw [hv, this]
        exact ih
      · simp only [if_neg hz]
        have hne : 1 ≤ comp neg c := by
          unfold comp at hcb ⊢
          cases neg
          · simp only [if_neg Bool.false_ne_true] at hfill hcb ⊢; omega
          · simp only [if_true] at hfill hcb ⊢; omega
        have hg := val_ge neg r hr (comp neg c) (by omega)
        have hp : (256 : Int) ^ 8 ≤ 256 ^ r.length := by
          exact pow256 _ _ (by omega)
        have hq : 1 * (256 : Int) ^ 8 ≤ comp neg c * 256 ^ r.length := Int.mul_le_mul hne hp (by omega) (by omega)
        have : wideOf neg (val neg 0 (c :: r)) = (0, 5) := by
          unfold wideOf
          rw [hv, if_neg (by omega)]
        rw [this]
        exact Ev.now _
    · simp only [if_neg (show ¬ ((r.length + 1 : Nat) : Int) > 8 by omega)]
      by_cases h7 : r.length + 1 = 8
      · have hr7 : r.length = 7 := by omega
        simp only [if_pos (show ((r.length + 1 : Nat) : Int) = 8 by omega)]
        by_cases hs : comp neg c < 128
        · have : (c / 128 != fill / 128) = false := by
            unfold comp at hs hcb
            cases neg
            · simp only [if_neg Bool.false_ne_true] at hs hcb hfill; subst hfill; simp; omega
            · simp only [if_true] at hs hcb hfill; subst hfill; simp; omega
          rw [this]
          refine hl1 ?_
          have hlt := val_lt neg r hr (comp neg c) (by omega)
          rw [hr7] at hlt
          rw [hv]
          omega
        · have : (c / 128 != fill / 128) = true := by
            unfold comp at hs hcb
            cases neg
            · simp only [if_neg Bool.false_ne_true] at hs hcb hfill; subst hfill; simp; omega
            · simp only [if_true] at hs hcb hfill; subst hfill; simp; omega
          rw [this]
          refine Ev.step (fun k => num_Wide.j4.eq_2 _ _ _ k) ?_
          simp only [if_true]
          have hg := val_ge neg r hr (comp neg c) (by omega)
          rw [hr7] at hg
          have : wideOf neg (val neg 0 (c :: r)) = (0, 5) := by
            unfold wideOf
            rw [hv, if_neg (by omega)]
          rw [this]
          exact Ev.now _
      · simp only [if_neg (show ¬ ((r.length + 1 : Nat) : Int) = 8 by omega)]
        refine hl1 ?_
        have hlt := val_lt neg r hr (comp neg c) (by omega)
        have hp : (256 : Int) ^ r.length ≤ 256 ^ 6 := by
          exact pow256 _ _ (by omega)
        have hq : (comp neg c + 1) * (256 : Int) ^ r.length ≤ (comp neg c + 1) * 256 ^ 6 := Int.mul_le_mul_of_nonneg_left hp (by omega)
        rw [hv]
        omega

/-! ### What is put -/
/-- Digits, the highest first, so many. -/
def digs (b : Int) (n : Int) : Nat → List Int
  | 0 => []
  | w + 1 => digs b (n / b) w ++ [n % b]
theorem digs_len (b : Int) : ∀ (w : Nat) (n : Int), (digs b n w).length = w
  | 0, _ => rfl
  | w + 1, n => by unfold digs; rw [List.length_append, digs_len b w]; rfl
def oct (n : Int) (w : Nat) : List Int := (digs 8 n w).map (· + 48)
theorem oct_len (n : Int) (w : Nat) : (oct n w).length = w := by unfold oct; rw [List.length_map, digs_len]
def mostOf (w : Nat) : Int := if w < 1 then 0 else if w > 20 then 9223372036854775807 else 8 ^ w - 1
def fitsB (n : Int) (w : Nat) : Bool := decide (8 < w) || (decide (-(256 ^ (w - 1)) ≤ n) && decide (n < 256 ^ (w - 1)))
def putOf (n : Int) (w : Nat) (wide : Bool) : List Int × Int :=
  if 0 ≤ n ∧ n ≤ mostOf (w - 1) then (oct n (w - 1) ++ [0], 0)
  else if 0 ≤ n ∧ n ≤ mostOf w then (oct n w, 0)
  else if wide = true ∧ fitsB n w = true then ((if n < 0 then 255 else 128) :: digs 256 n (w - 1), 0)
  else ([], 5)
theorem most_fin : ∀ w : Fin 33, num_Most.f ((w.val : Nat) : Int) = some (mostOf w.val) := by decide +kernel
theorem most_eq (w : Nat) (h : w ≤ 32) : num_Most.f (w : Int) = some (mostOf w) := most_fin ⟨w, by omega⟩
theorem and7 (x : Int) : Go.bits .and .i64 x 7 = x % 8 := by
  have h1 : (BitVec.ofInt 64 x).toNat = (x % 18446744073709551616).toNat := by rw [BitVec.toNat_ofInt]; rfl
  have h3 : (BitVec.ofInt 64 x &&& BitVec.ofInt 64 7).toNat = (x % 18446744073709551616).toNat % 8 := by
    rw [BitVec.toNat_and, h1]
    exact Nat.and_two_pow_sub_one_eq_mod _ 3
  show IntKind.i64.wrap ((BitVec.ofInt 64 x &&& BitVec.ofInt 64 7).toNat : Int) = _
  rw [h3, IntKind.wrap_i64]
  omega
theorem set_zero (m : Nat) (B : List Int) (v : Int) : (List.replicate (m + 1) (0 : Int) ++ B).set m v = List.replicate m 0 ++ (v :: B) := by
  rw [List.replicate_succ', List.append_assoc, List.set_append_right _ _ (by rw [List.length_replicate]; exact Nat.le_refl _), List.length_replicate, Nat.sub_self]
  rfl
theorem zeros_len (m : Nat) (B : List Int) : (List.replicate m (0 : Int) ++ B).length = m + B.length := by rw [List.length_append, List.length_replicate]
theorem wpred (m : Nat) (h : m < 9223372036854775807) : wrap64 ((m : Int) - 1) = (m : Int) - 1 := w64 (by omega) (by omega)
theorem octal_l0 : ∀ (m : Nat) (n : Int) (B : List Int), m ≤ 40 → Ev (fun k => num_octal.l0 k n (List.replicate m 0 ++ B) ((m : Int) - 1)) (oct n m ++ B)
  | 0, n, B, hm => by
    refine Ev.step (fun k => num_octal.l0.eq_2 _ _ _ k) ?_
    simp only [if_neg (show ¬ ((0 : Nat) : Int) - 1 ≥ 0 by omega), List.replicate_zero, List.nil_append]
    exact Ev.now _
  | m + 1, n, B, hm => by
    have ih := octal_l0 m (n / 8) ((n % 8 + 48) :: B) (by omega)
    refine Ev.step (fun k => num_octal.l0.eq_2 _ _ _ k) ?_
    have e1 : (((m + 1 : Nat) : Int) - 1) = (m : Int) := by omega
    rw [e1]
    simp only [if_pos (show (m : Int) ≥ 0 by omega), if_pos (show 0 ≤ (m : Int) by omega), zeros_len, if_pos (show (m : Int) < ((m + 1 + B.length : Nat) : Int) by omega), and7, Int.toNat_natCast, set_zero, wpred m (by omega)]
    have e2 : (48 + n % 8 % 256) % 256 = n % 8 + 48 := by omega
    have e3 : oct n (m + 1) ++ B = oct (n / 8) m ++ ((n % 8 + 48) :: B) := by
      unfold oct
      rw [digs, List.map_append, List.append_assoc]
      rfl
    rw [e2, e3]
    exact ih
theorem octal_ev (n : Int) (w : Nat) (h : w ≤ 32) : Ev (fun k => num_octal.f k n (w : Int)) (oct n w) := by
  unfold num_octal.f
  simp only [if_pos (show 0 ≤ (w : Int) by omega), Int.toNat_natCast, if_pos (show w ≤ 281474976710656 by omega), wpred w (by omega)]
  have := octal_l0 w n [] (by omega)
  rw [List.append_nil, List.append_nil] at this
  exact this
theorem fits_eq (n : Int) (w : Nat) (h0 : 2 ≤ w) (h : w ≤ 32) : num_fits.f n (w : Int) = some (fitsB n w) := by
  unfold num_fits.f fitsB
  by_cases h8 : 8 < w
  · rw [if_pos (by omega), decide_eq_true h8, Bool.true_or]
  · rw [if_neg (by omega), decide_eq_false h8, Bool.false_or, wpred w (by omega), w64 (n := 8 * ((w : Int) - 1)) (by omega) (by omega), if_pos (by omega)]
    have key : ∀ P : Int, 0 < P → shr .i64 n (8 * ((w : Int) - 1)) = n / P → (256 : Int) ^ (w - 1) = P → (if shr .i64 n (8 * ((w : Int) - 1)) = 0 then some true else some (shr .i64 n (8 * ((w : Int) - 1)) == (-1))) = some (decide (-(256 ^ (w - 1)) ≤ n) && decide (n < 256 ^ (w - 1))) := by
      intro P hP e1 e2
      rw [e1, e2]
      have hdm := Int.mul_ediv_add_emod n P
      have hm0 := Int.emod_nonneg n (show P ≠ 0 by omega)
      have hm1 := Int.emod_lt_of_pos n hP
      generalize n / P = q at *
      generalize n % P = r at *
      by_cases hq : q = 0
      · subst hq
        rw [if_pos rfl, Int.mul_zero] at *
        simp only [Option.some.injEq]
        symm
        rw [Bool.and_eq_true, decide_eq_true_eq, decide_eq_true_eq]
        omega
      · rw [if_neg hq]
        congr 1
        by_cases hq1 : q = -1
        · subst hq1
          have : P * -1 = -P := by omega
          rw [this] at hdm
          symm
          rw [show ((-1 : Int) == -1) = true from rfl, Bool.and_eq_true, decide_eq_true_eq, decide_eq_true_eq]
          omega
        · have : (q == -1) = false := beq_eq_false_iff_ne.2 hq1
          rw [this]
          symm
          rw [Bool.and_eq_false_iff, decide_eq_false_iff_not, decide_eq_false_iff_not]
          rcases (show q < 0 ∨ 0 ≤ q by omega) with hneg | hpos
          · left
            have : P * q ≤ P * -2 := Int.mul_le_mul_of_nonneg_left (by omega) (by omega)
            omega
          · right
            have : P * 1 ≤ P * q := Int.mul_le_mul_of_nonneg_left (by omega) (by omega)
            omega
    have hw : w = 2 ∨ w = 3 ∨ w = 4 ∨ w = 5 ∨ w = 6 ∨ w = 7 ∨ w = 8 := by omega
    rcases hw with rfl | rfl | rfl | rfl | rfl | rfl | rfl
    · exact key 256 (by omega) rfl rfl
    · exact key 65536 (by omega) rfl rfl
    · exact key 16777216 (by omega) rfl rfl
    · exact key 4294967296 (by omega) rfl rfl
    · exact key 1099511627776 (by omega) rfl rfl
    · exact key 281474976710656 (by omega) rfl rfl
    · exact key 72057594037927936 (by omega) rfl rfl
theorem put_l0 : ∀ (m : Nat) (n : Int) (B : List Int), m ≤ 40 → Ev (fun k => num_Put.l0 k n (0 :: (List.replicate m 0 ++ B)) (m : Int)) ((if n < 0 then 255 else 128) :: (digs 256 n m ++ B), 0)
  | 0, n, B, hm => by
    refine Ev.step (fun k => num_Put.l0.eq_2 _ _ _ k) ?_
    simp only [if_neg (show ¬ ((0 : Nat) : Int) > 0 by omega), List.replicate_zero, List.nil_append, if_pos (show (0 : Int) < ((0 :: B : List Int).length : Int) by rw [List.length_cons]; omega), Option.bind_some, Int.toNat_zero, List.set_cons_zero, digs]
    by_cases hn : n < 0
    · simp only [if_pos hn]; exact Ev.now _
    · simp only [if_neg hn]; exact Ev.now _
  | m + 1, n, B, hm => by
    have ih := put_l0 m (n / 256) ((n % 256) :: B) (by omega)
    refine Ev.step (fun k => num_Put.l0.eq_2 _ _ _ k) ?_
    have hl : (0 :: (List.replicate (m + 1) (0 : Int) ++ B)).length = m + 2 + B.length := by rw [List.length_cons, zeros_len]; omega
    have e4 : wrap64 (((m + 1 : Nat) : Int) - 1) = (m : Int) := by rw [w64 (by omega) (by omega)]; omega
    simp only [if_pos (show ((m + 1 : Nat) : Int) > 0 by omega), if_pos (show 0 ≤ ((m + 1 : Nat) : Int) by omega), hl, if_pos (show ((m + 1 : Nat) : Int) < ((m + 2 + B.length : Nat) : Int) by omega), Int.toNat_natCast, List.set_cons_succ, set_zero, e4]
    have e1 : (if n / 256 < 0 then (255 : Int) else 128) = if n < 0 then 255 else 128 := by
      by_cases hn : n < 0
      · rw [if_pos hn, if_pos (by omega)]
      · rw [if_neg hn, if_neg (by omega)]
    have e3 : digs 256 n (m + 1) ++ B = digs 256 (n / 256) m ++ ((n % 256) :: B) := by
      rw [digs, List.append_assoc]
      rfl
    rw [e1] at ih
    rw [e3]
    exact ih
theorem put_ev (n : Int) (w : Nat) (wide : Bool) (h0 : 2 ≤ w) (h : w ≤ 32) : Ev (fun k => num_Put.f k n (w : Int) wide) (putOf n w wide) := by
  have hp : wrap64 ((w : Int) - 1) = ((w - 1 : Nat) : Int) := wsub1 w (by omega) (by omega)
  have h2 : Ev (fun k => num_Put.j2 k n (w : Int) wide false) (if wide = true ∧ fitsB n w = true then ((if n < 0 then 255 else 128) :: digs 256 n (w - 1), 0) else ([], 5)) := by
    refine Ev.step (fun k => num_Put.j2.eq_2 _ _ _ _ k) ?_
    simp only [if_neg Bool.false_ne_true]
    cases wide with
    | false =>
      simp only [if_neg Bool.false_ne_true, false_and, if_false, Bool.false_eq_true]
      exact Ev.now _
    | true =>
      simp only [if_true, fits_eq n w h0 h, Option.bind_some, true_and]
      cases hf : fitsB n w with
      | false =>
        simp only [if_neg Bool.false_ne_true]
        exact Ev.now _
      | true =>
        simp only [if_true, if_pos (show 0 ≤ (w : Int) by omega), Int.toNat_natCast, if_pos (show w ≤ 281474976710656 by omega), hp]
        have := put_l0 (w - 1) n [] (by omega)
        rw [List.append_nil, List.append_nil, ← List.replicate_succ, show w - 1 + 1 = w by omega] at this
        exact this
  have h1 : Ev (fun k => num_Put.j1 k n (w : Int) wide false) (if 0 ≤ n ∧ n ≤ mostOf w then (oct n w, 0) else if wide = true ∧ fitsB n w = true then ((if n < 0 then 255 else 128) :: digs 256 n (w - 1), 0) else ([], 5)) := by
    refine Ev.step (fun k => num_Put.j1.eq_2 _ _ _ _ k) ?_
    simp only [if_neg Bool.false_ne_true]
    by_cases hn : 0 ≤ n
    · simp only [if_pos (show n ≥ 0 from hn), most_eq w h, Option.bind_some]
      by_cases hm : n ≤ mostOf w
      · simp only [decide_eq_true hm, if_pos (show 0 ≤ n ∧ n ≤ mostOf w from ⟨hn, hm⟩)]
        refine Ev.step (fun k => num_Put.j2.eq_2 _ _ _ _ k) ?_
        simp only [if_true]
        refine Ev.bind (octal_ev n w h) ?_
        exact Ev.now _
      · simp only [decide_eq_false hm, if_neg (show ¬ (0 ≤ n ∧ n ≤ mostOf w) from fun x => hm x.2)]
        exact h2
    · simp only [if_neg (show ¬ n ≥ 0 from hn), if_neg (show ¬ (0 ≤ n ∧ n ≤ mostOf w) from fun x => hn x.1)]
      exact h2
  unfold num_Put.f putOf
  simp only [if_neg (show ¬ (w : Int) < 2 by omega), decide_eq_false (show ¬ (w : Int) > 32 by omega)]
  refine Ev.step (fun k => num_Put.j0.eq_2 _ _ _ _ k) ?_
  simp only [if_neg Bool.false_ne_true, hp]
  by_cases hn : 0 ≤ n
  · simp only [if_pos (show n ≥ 0 from hn), most_eq (w - 1) (by omega), Option.bind_some]
    by_cases hm : n ≤ mostOf (w - 1)
    · simp only [decide_eq_true hm, if_pos (show 0 ≤ n ∧ n ≤ mostOf (w - 1) from ⟨hn, hm⟩)]
      refine Ev.step (fun k => num_Put.j1.eq_2 _ _ _ _ k) ?_
      simp only [if_true, hp]
      refine Ev.bind (octal_ev n (w - 1) (by omega)) ?_
      simp only [oct_len, if_pos (show w - 1 < 140737488355328 by omega)]
      exact Ev.now _
    · simp only [decide_eq_false hm, if_neg (show ¬ (0 ≤ n ∧ n ≤ mostOf (w - 1)) from fun x => hm x.2)]
      exact h1
  · simp only [if_neg (show ¬ n ≥ 0 from hn), if_neg (show ¬ (0 ≤ n ∧ n ≤ mostOf (w - 1)) from fun x => hn x.1)]
    exact h1
theorem put_no (n w : Int) (wide : Bool) (h : w < 2 ∨ 32 < w) : Ev (fun k => num_Put.f k n w wide) ([], 2) := by
  unfold num_Put.f
  have e : ∀ b : Bool, b = true → Ev (fun k => num_Put.j0 k n w wide b) ([], 2) := by
    intro b hb
    subst hb
    refine Ev.step (fun k => num_Put.j0.eq_2 _ _ _ _ k) ?_
    simp only [if_true]
    exact Ev.now _
  by_cases h2 : w < 2
  · simp only [if_pos h2]; exact e true rfl
  · simp only [if_neg h2]; exact e _ (decide_eq_true (by omega))

/-! ### What is put is got -/
theorem octAt_digs : ∀ (w : Nat) (n m : Int) (t : List Int), 0 ≤ n → 0 ≤ m → m * 8 ^ w + n % 8 ^ w ≤ 9223372036854775807 → Hand.octAt m (oct n w ++ t) = Hand.octAt (m * 8 ^ w + n % 8 ^ w) t
  | 0, n, m, t, h0, hm, hb => by
    have : m * 8 ^ 0 + n % 8 ^ 0 = m := by rw [Int.pow_zero, Int.mul_one, Int.emod_one, Int.add_zero]
    rw [this]
    rfl
  | w + 1, n, m, t, h0, hm, hb => by
    have hP : (0 : Int) < 8 ^ w := Int.pow_pos (by omega)
    have e1 : n % 8 ^ (w + 1) = 8 * ((n / 8) % 8 ^ w) + n % 8 := by
      rw [Int.pow_succ, Int.mul_comm]
      have h1 := Int.mul_ediv_add_emod n 8
      have h2 := Int.mul_ediv_add_emod (n / 8) (8 ^ w)
      have h3 := Int.emod_nonneg (n / 8) (show (8 : Int) ^ w ≠ 0 by omega)
      have h4 := Int.emod_lt_of_pos (n / 8) hP
      have h5 := Int.emod_nonneg n (show (8 : Int) ≠ 0 by omega)
      have h6 := Int.emod_lt_of_pos n (show (0 : Int) < 8 by omega)
      have h7 : n = (8 * ((n / 8) % 8 ^ w) + n % 8) + (8 * 8 ^ w) * (n / 8 / 8 ^ w) := by
        rw [Int.mul_assoc]
        generalize 8 ^ w * (n / 8 / 8 ^ w) = Y at *
        omega
      have h8 : (8 * ((n / 8) % 8 ^ w) + n % 8) % (8 * 8 ^ w) = 8 * ((n / 8) % 8 ^ w) + n % 8 := Int.emod_eq_of_lt (by omega) (by omega)
      conv => lhs; rw [h7]
      rw [Int.add_mul_emod_self_left, h8]
    have e2 : m * 8 ^ (w + 1) = 8 * (m * 8 ^ w) := by rw [Int.pow_succ, ← Int.mul_assoc, Int.mul_comm]
    rw [e1, e2] at hb ⊢
    have h3 := Int.emod_nonneg (n / 8) (show (8 : Int) ^ w ≠ 0 by omega)
    have h5 := Int.emod_nonneg n (show (8 : Int) ≠ 0 by omega)
    have h6 := Int.emod_lt_of_pos n (show (0 : Int) < 8 by omega)
    have hm0 : 0 ≤ m * 8 ^ w := Int.mul_nonneg hm (by omega)
    have ih := octAt_digs w (n / 8) m ([n % 8 + 48] ++ t) (by omega) hm (by omega)
    have e3 : oct n (w + 1) ++ t = oct (n / 8) w ++ ([n % 8 + 48] ++ t) := by
      unfold oct
      rw [digs, List.map_append, List.append_assoc]
      rfl
    rw [e3, ih, List.singleton_append]
    conv => lhs; unfold Hand.octAt
    rw [if_pos (by omega), if_neg (by omega)]
    congr 1
    omega
theorem val_digs (neg : Bool) : ∀ (w : Nat) (s m : Int) (l : List Int), 0 ≤ s → l.map (comp neg) = digs 256 s w → val neg m l = m * 256 ^ w + s % 256 ^ w := by
  have gen : ∀ (l : List Int) (m : Int) (x : Int), val neg m (l ++ [x]) = 256 * val neg m l + comp neg x := by
    intro l
    induction l with
    | nil => intro m x; simp [val]
    | cons c r ih => intro m x; rw [List.cons_append, val, val, ih]
  intro w
  induction w with
  | zero =>
    intro s m l h0 hl
    have : l = [] := by simpa [digs] using hl
    subst this
    rw [Int.pow_zero, Int.mul_one, Int.emod_one, Int.add_zero]
    rfl
  | succ w ih =>
    intro s m l h0 hl
    unfold digs at hl
    obtain ⟨l1, l2, rfl, h1, h2⟩ := List.map_eq_append_iff.1 hl
    obtain ⟨x, rfl, hx⟩ : ∃ x, l2 = [x] ∧ comp neg x = s % 256 := by
      match l2, h2 with
      | [], h2 => exact absurd h2 (by simp)
      | [x], h2 => exact ⟨x, rfl, by simpa using h2⟩
      | x :: y :: r, h2 => exact absurd h2 (by simp)
    rw [gen, ih (s / 256) m l1 (by omega) h1, hx]
    have hP : (0 : Int) < 256 ^ w := Int.pow_pos (by omega)
    have e1 : s % 256 ^ (w + 1) = 256 * ((s / 256) % 256 ^ w) + s % 256 := by
      rw [Int.pow_succ, Int.mul_comm]
      have h1 := Int.mul_ediv_add_emod s 256
      have h2 := Int.mul_ediv_add_emod (s / 256) (256 ^ w)
      have h3 := Int.emod_nonneg (s / 256) (show (256 : Int) ^ w ≠ 0 by omega)
      have h4 := Int.emod_lt_of_pos (s / 256) hP
      have h7 : s = (256 * ((s / 256) % 256 ^ w) + s % 256) + (256 * 256 ^ w) * (s / 256 / 256 ^ w) := by
        rw [Int.mul_assoc]
        generalize 256 ^ w * (s / 256 / 256 ^ w) = Y at *
        omega
      have h8 : (256 * ((s / 256) % 256 ^ w) + s % 256) % (256 * 256 ^ w) = 256 * ((s / 256) % 256 ^ w) + s % 256 := Int.emod_eq_of_lt (by omega) (by omega)
      conv => lhs; rw [h7]
      rw [Int.add_mul_emod_self_left, h8]
    have e2 : m * 256 ^ (w + 1) = 256 * (m * 256 ^ w) := by rw [Int.pow_succ, ← Int.mul_assoc, Int.mul_comm]
    rw [e1, e2]
    omega
theorem digs_bd (b : Int) (hb : 2 ≤ b) : ∀ (w : Nat) (n : Int), ∀ x ∈ digs b n w, 0 ≤ x ∧ x < b
  | 0, n, x, h => by simp [digs] at h
  | w + 1, n, x, h => by
    unfold digs at h
    rcases List.mem_append.1 h with h | h
    · exact digs_bd b hb w _ x h
    · rw [List.mem_singleton] at h
      subst h
      exact ⟨Int.emod_nonneg n (by omega), Int.emod_lt_of_pos n (by omega)⟩
theorem digs_comp : ∀ (w : Nat) (n : Int), (digs 256 n w).map (comp true) = digs 256 (-n - 1) w
  | 0, _ => rfl
  | w + 1, n => by
    unfold digs
    rw [List.map_append, digs_comp w, show (-n - 1) / 256 = -(n / 256) - 1 by omega]
    congr 1
    simp only [List.map_cons, List.map_nil, comp, if_true]
    congr 1
    omega
theorem digs_comp0 (w : Nat) (n : Int) : (digs 256 n w).map (comp false) = digs 256 n w := by
  conv => rhs; rw [← List.map_id (digs 256 n w)]
  apply List.map_congr_left
  intro x _
  rfl
theorem most_lt : ∀ w : Fin 33, mostOf w.val < 8 ^ w.val ∧ mostOf w.val ≤ 9223372036854775807 := by decide +kernel
theorem get_oct (n : Int) (w : Nat) (t : List Int) (ht : t = [] ∨ t = [0]) (h1 : 1 ≤ w) (h : w ≤ 32) (h0 : 0 ≤ n) (hm : n ≤ mostOf w) : Ev (fun k => num_Get.f k (oct n w ++ t)) (n, 0) := by
  have hml : mostOf w < 8 ^ w ∧ mostOf w ≤ 9223372036854775807 := most_lt ⟨w, by omega⟩
  have hr : ∀ x ∈ oct n w, 48 ≤ x ∧ x ≤ 55 := by
    intro x hx
    unfold oct at hx
    obtain ⟨y, hy, rfl⟩ := List.mem_map.1 hx
    have := digs_bd 8 (by omega) w n y hy
    omega
  have hlen : 0 < (oct n w ++ t).length := by rw [List.length_append, oct_len]; omega
  obtain ⟨x, r, hxr⟩ : ∃ x r, oct n w = x :: r := by
    match h : oct n w with
    | [] => have := oct_len n w; rw [h] at this; simp at this; omega
    | x :: r => exact ⟨x, r, rfl⟩
  have hx := hr x (by rw [hxr]; exact List.mem_cons_self)
  have hall : ∀ y ∈ oct n w ++ t, 0 ≤ y ∧ y ≤ 255 := by
    intro y hy
    rcases List.mem_append.1 hy with hy | hy
    · have := hr y hy; omega
    · rcases ht with rfl | rfl
      · simp at hy
      · simp at hy; omega
  have hrd : rd (oct n w ++ t) 0 = x := by rw [hxr]; rfl
  have hdrop : (oct n w ++ t).dropWhile (fun x => decide (x = 32)) = oct n w ++ t := by
    rw [hxr, List.cons_append, List.dropWhile_cons, if_neg (by simp; omega)]
  have hfin : Hand.octAt 0 (oct n w ++ t) = (n, 0) := by
    have hmod : n % 8 ^ w = n := Int.emod_eq_of_lt h0 (by omega)
    have := octAt_digs w n 0 t h0 (by omega) (by rw [Int.zero_mul, Int.zero_add, hmod]; omega)
    rw [Int.zero_mul, Int.zero_add, hmod] at this
    rw [this]
    rcases ht with rfl | rfl
    · rfl
    · rfl
  have hf : num_Octal.f (oct n w ++ t) = some (n, 0) := by rw [octal_eq _ hall, hdrop, hfin]
  unfold num_Get.f
  simp only [if_pos (show ((oct n w ++ t).length : Int) > 0 by omega), hrd, decide_eq_false (show ¬ x ≥ 128 by omega)]
  refine Ev.step (fun k => num_Get.j0.eq_2 _ _ k) ?_
  simp only [if_neg Bool.false_ne_true, hf, Option.bind_some]
  exact Ev.now _
theorem get_wide (n : Int) (w : Nat) (h2 : 2 ≤ w) (h : w ≤ 32) (h0 : -9223372036854775808 ≤ n) (h1 : n ≤ 9223372036854775807) (hf : fitsB n w = true) : Ev (fun k => num_Get.f k ((if n < 0 then 255 else 128) :: digs 256 n (w - 1))) (n, 0) := by
  have hbd : ∀ x ∈ digs 256 n (w - 1), 0 ≤ x ∧ x ≤ 255 := fun x hx => by have := digs_bd 256 (by omega) _ _ x hx; omega
  have hlen := digs_len 256 (w - 1) n
  have hP : (9223372036854775808 : Int) ≤ 256 ^ (w - 1) ∨ (-(256 ^ (w - 1)) ≤ n ∧ n < 256 ^ (w - 1)) := by
    unfold fitsB at hf
    rw [Bool.or_eq_true, Bool.and_eq_true, decide_eq_true_eq, decide_eq_true_eq, decide_eq_true_eq] at hf
    rcases hf with hf | hf
    · left
      have := pow256 8 (w - 1) (by omega)
      omega
    · exact .inr hf
  obtain ⟨neg, hneg⟩ : ∃ neg : Bool, neg = decide (n < 0) := ⟨_, rfl⟩
  have hwide : Ev (fun k => num_Wide.l0 k (if neg = true then 255 else 0) (carry neg 0) (digs 256 n (w - 1))) (n, 0) := by
    have hw0 := wide_l0 neg (digs 256 n (w - 1)) (by omega) hbd
    have hval : val neg 0 (digs 256 n (w - 1)) = if neg = true then -n - 1 else n := by
      cases neg with
      | true =>
        have hn : n < 0 := of_decide_eq_true hneg.symm
        have := val_digs true (w - 1) (-n - 1) 0 (digs 256 n (w - 1)) (by omega) (digs_comp (w - 1) n)
        rw [this, Int.zero_mul, Int.zero_add, Int.emod_eq_of_lt (by omega) (by omega)]
        rfl
      | false =>
        have hn : ¬ n < 0 := of_decide_eq_false hneg.symm
        have := val_digs false (w - 1) n 0 (digs 256 n (w - 1)) (by omega) (digs_comp0 (w - 1) n)
        rw [this, Int.zero_mul, Int.zero_add, Int.emod_eq_of_lt (by omega) (by omega)]
        rfl
    have hres : wideOf neg (val neg 0 (digs 256 n (w - 1))) = (n, 0) := by
      rw [hval]
      unfold wideOf
      cases neg with
      | true =>
        have hn : n < 0 := of_decide_eq_true hneg.symm
        simp only [if_true]
        rw [if_pos (by omega)]
        congr 1
        omega
      | false =>
        simp only [if_neg Bool.false_ne_true]
        rw [if_pos (by omega)]
    rw [hres] at hw0
    exact hw0
  obtain ⟨c, hc⟩ : ∃ c : Int, c = if n < 0 then 255 else 128 := ⟨_, rfl⟩
  rw [← hc]
  have hc2 : c = if neg = true then 255 else 128 := by
    rw [hc, hneg]
    by_cases hn : n < 0
    · rw [if_pos hn, decide_eq_true hn]; rfl
    · rw [if_neg hn, decide_eq_false hn]; rfl
  have hL : (c :: digs 256 n (w - 1)).length = w := by rw [List.length_cons, hlen]; omega
  have hrd : rd (c :: digs 256 n (w - 1)) 0 = c := rfl
  have hge : c ≥ 128 := by rw [hc]; split <;> omega
  have hj0 : Ev (fun k => num_Wide.j0 k (c :: digs 256 n (w - 1)) false) (n, 0) := by
    refine Ev.step (fun k => num_Wide.j0.eq_2 _ _ k) ?_
    simp only [if_neg Bool.false_ne_true, hL, if_pos (show 0 < (w : Int) by omega), hrd]
    cases neg with
    | true =>
      simp only [if_true] at hc2 hwide
      simp only [if_pos hc2]
      refine Ev.step (fun k => num_Wide.j1.eq_2 _ _ k) ?_
      simp only [if_neg (show ¬ (255 : Int) = 0 by decide)]
      refine Ev.step (fun k => num_Wide.j2.eq_2 _ _ _ k) ?_
      simp only [hL, if_pos (show 1 ≤ (w : Int) by omega), List.drop_succ_cons, List.drop_zero]
      exact hwide
    | false =>
      simp only [if_neg Bool.false_ne_true] at hc2 hwide
      simp only [if_neg (show ¬ c = 255 by omega)]
      refine Ev.step (fun k => num_Wide.j1.eq_2 _ _ k) ?_
      simp only [if_true]
      refine Ev.step (fun k => num_Wide.j2.eq_2 _ _ _ k) ?_
      simp only [hL, if_pos (show 1 ≤ (w : Int) by omega), List.drop_succ_cons, List.drop_zero]
      exact hwide
  have hwf : Ev (fun k => num_Wide.f k (c :: digs 256 n (w - 1))) (n, 0) := by
    unfold num_Wide.f
    simp only [hL, hrd, if_neg (show ¬ (w : Int) < 2 by omega), if_pos (show 0 < (w : Int) by omega)]
    by_cases h128 : c = 128
    · simp only [if_pos h128]; exact hj0
    · have h255 : c = 255 := by rw [hc] at h128 ⊢; split at h128 <;> simp_all
      have : (c != 255) = false := by simp [h255]
      simp only [if_neg h128, this]
      exact hj0
  unfold num_Get.f
  simp only [hL, if_pos (show (w : Int) > 0 by omega), hrd, decide_eq_true hge]
  refine Ev.step (fun k => num_Get.j0.eq_2 _ _ k) ?_
  simp only [if_true]
  refine Ev.bind hwf ?_
  exact Ev.now _
theorem NumBack : oakumlaw01_NumBack.Pure := by
  intro n w wide hn _
  have hb := wf_i64_bd hn
  refine Ev.rounds (g := fun k => oakumlaw01_NumBack.f k n w wide) ?_
  unfold oakumlaw01_NumBack.f
  refine Ev.bind alive_ev ?_
  simp only [if_true]
  by_cases h : w < 2 ∨ 32 < w
  · refine Ev.bind (put_no n w wide h) ?_
    simp only [w64 (n := 2) (by omega) (by omega), if_neg (show ¬ (2 : Int) = 0 by decide)]
    exact Ev.now _
  obtain ⟨m, rfl⟩ := Int.eq_ofNat_of_zero_le (show 0 ≤ w by omega)
  refine Ev.bind (put_ev n m wide (by omega) (by omega)) ?_
  have hz : wrap64 0 = 0 := w64 (by omega) (by omega)
  have hfive : wrap64 5 = 5 := w64 (by omega) (by omega)
  unfold putOf
  by_cases c1 : 0 ≤ n ∧ n ≤ mostOf (m - 1)
  · simp only [if_pos c1, hz, if_true]
    refine Ev.bind (get_oct n (m - 1) [0] (.inr rfl) (by omega) (by omega) c1.1 c1.2) ?_
    have : ((oct n (m - 1) ++ [0]).length : Int) = (m : Int) := by rw [List.length_append, oct_len]; simp; omega
    simp only [if_pos this, hz, if_true, beq_self_eq_true]
    exact Ev.now _
  · by_cases c2 : 0 ≤ n ∧ n ≤ mostOf m
    · simp only [if_neg c1, if_pos c2, hz, if_true]
      have hg := get_oct n m [] (.inl rfl) (by omega) (by omega) c2.1 c2.2
      rw [List.append_nil] at hg
      refine Ev.bind hg ?_
      have : ((oct n m).length : Int) = (m : Int) := by rw [oct_len]
      simp only [if_pos this, hz, if_true, beq_self_eq_true]
      exact Ev.now _
    · by_cases c3 : wide = true ∧ fitsB n m = true
      · simp only [if_neg c1, if_neg c2, if_pos c3, hz, if_true]
        refine Ev.bind (get_wide n m (by omega) (by omega) hb.1 hb.2 c3.2) ?_
        have : (((if n < 0 then 255 else 128) :: digs 256 n (m - 1) : List Int).length : Int) = (m : Int) := by rw [List.length_cons, digs_len]; omega
        simp only [if_pos this, hz, if_true, beq_self_eq_true]
        exact Ev.now _
      · simp only [if_neg c1, if_neg c2, if_neg c3, hfive, if_neg (show ¬ (5 : Int) = 0 by decide)]
        exact Ev.now _

end Go.Proofs.YtnbgjagannmchaaDoor.Pure
