/- The law NumPuts over lists and numbers: for every number and width the printed function of the law comes to true; no further condition. -/
import Derived.Test.YtnbgjagannmchaaDoorPNumPutsx4
set_option linter.unusedVariables false
set_option linter.unusedSimpArgs false
namespace Go.Proofs.YtnbgjagannmchaaDoor.Pure
open Go.RowKit Go.Proofs.YtnbgjagannmchaaDoor.PNumPuts Go.Proofs.YtnbgjagannmchaaDoorW.PrintWords Go.Proofs.YtnbgjagannmchaaDoorW.PrintLast Go.Proofs.YtnbgjagannmchaaDoorW.PrintMore

/-! ### Small words: numbers that fit, rounds, bytes of a cut -/
theorem w64 {n : Int} (h0 : -9223372036854775808 ≤ n) (h1 : n ≤ 9223372036854775807) : wrap64 n = n := by unfold wrap64; omega
theorem bt_nonneg (s : ByteArray) (i : Int) : 0 ≤ bt s i := (bt_range s i).1
theorem bt_le (s : ByteArray) (i : Int) : bt s i ≤ 255 := (bt_range s i).2
theorem bt_nat (s : ByteArray) (n : Nat) (h : n < s.size) : bt s (n : Int) = ((s[n]'h).toNat : Int) := by simp [bt, h]
theorem bt_out (s : ByteArray) (i : Int) (h : s.size ≤ i.toNat) : bt s i = 0 := by unfold bt; rw [dif_neg (by omega)]
theorem bt_extract (s : ByteArray) (m n : Nat) (i : Nat) (hi : m + i < n) (hn : n ≤ s.size) : bt (s.extract m n) (i : Int) = bt s ((m + i : Nat) : Int) := by
  have h1 : i < (s.extract m n).size := by rw [ByteArray.size_extract]; omega
  rw [bt_nat _ _ h1, bt_nat _ _ (by omega)]
  rw [ByteArray.getElem_extract]
theorem bytes_ext {a b : ByteArray} (hs : a.size = b.size) (h : ∀ i : Nat, i < a.size → bt a (i : Int) = bt b (i : Int)) : a = b := by
  apply ByteArray.ext_getElem hs
  intro i h1 h2
  have := h i h1
  rw [bt_nat _ _ h1, bt_nat _ _ h2] at this
  exact UInt8.toNat_inj.1 (by omega)
theorem toList_eq_nil (s : ByteArray) : s.toList = ([] : List UInt8) ↔ s.size = 0 := by
  rw [ByteArray.toList_eq]
  constructor
  · intro h
    have : s.data.toList.length = 0 := by rw [h]; rfl
    rwa [data_length] at this
  · intro h
    apply List.eq_nil_of_length_eq_zero
    rwa [data_length]
theorem toList_inj {a b : ByteArray} : a.toList = b.toList ↔ a = b := by
  constructor
  · intro h
    rw [ByteArray.toList_eq, ByteArray.toList_eq] at h
    exact ByteArray.ext (Array.toList_inj.1 h)
  · intro h; rw [h]
theorem wf_i64_bd {n : Int} (h : (Lit.int .i64 n).wf = true) : -9223372036854775808 ≤ n ∧ n ≤ 9223372036854775807 := by
  simp [Lit.wf, IntKind.min, IntKind.max, IntKind.signed, IntKind.bits] at h
  omega
theorem wf_u8_bd {n : Int} (h : (Lit.int .u8 n).wf = true) : 0 ≤ n ∧ n ≤ 255 := by
  simp [Lit.wf, IntKind.min, IntKind.max, IntKind.signed, IntKind.bits] at h
  omega
/-- Sums that fit (no equation with a wrap stays in a context: linear arithmetic would look into it). -/
theorem wadd1 (n : Nat) (h : n < 9223372036854775807) : wrap64 ((n : Int) + 1) = ((n + 1 : Nat) : Int) := by rw [w64 (by omega) (by omega)]; omega
theorem wadd4 (n : Nat) (h : n < 9223372036854775803) : wrap64 ((n : Int) + 4) = ((n + 4 : Nat) : Int) := by rw [w64 (by omega) (by omega)]; omega
theorem wsub1 (n : Nat) (h0 : 0 < n) (h : n < 9223372036854775807) : wrap64 ((n : Int) - 1) = ((n - 1 : Nat) : Int) := by rw [w64 (by omega) (by omega)]; omega

theorem alive_ev : Ev (fun k => oakumlaw01_alive.f k) true := Ev.of oakumlaw01_alive.mono (k := 40) (by decide +kernel)

/-! ### What is put -/
/-- Digits, the highest first, so many. -/
def digs (b : Int) (n : Int) : Nat → List Int
  | 0 => []
  | w + 1 => digs b (n / b) w ++ [n % b]
theorem digs_len (b : Int) : ∀ (w : Nat) (n : Int), (digs b n w).length = w
  | 0, _ => rfl
  | w + 1, n => by unfold digs; rw [List.length_append, digs_len b w]; rfl
def oct (n : Int) (w : Nat) : List Int := (digs 8 n w).map (· + 48)
theorem oct_len (n : Int) (w : Nat) : (oct n w).length = w := by unfold oct; rw [List.length_map, digs_len]
def mostOf (w : Nat) : Int := if w < 1 then 0 else if w > 20 then 9223372036854775807 else 8 ^ w - 1
def fitsB (n : Int) (w : Nat) : Bool := decide (8 < w) || (decide (-(256 ^ (w - 1)) ≤ n) && decide (n < 256 ^ (w - 1)))
def putOf (n : Int) (w : Nat) (wide : Bool) : List Int × Int :=
  if 0 ≤ n ∧ n ≤ mostOf (w - 1) then (oct n (w - 1) ++ [0], 0)
  else if 0 ≤ n ∧ n ≤ mostOf w then (oct n w, 0)
  else if wide = true ∧ fitsB n w = true then ((if n < 0 then 255 else 128) :: digs 256 n (w - 1), 0)
  else ([], 5)
theorem most_fin : ∀ w : Fin 33, num_Most.f ((w.val : Nat) : Int) = some (mostOf w.val) := by decide +kernel
theorem most_eq (w : Nat) (h : w ≤ 32) : num_Most.f (w : Int) = some (mostOf w) := most_fin ⟨w, by omega⟩
theorem and7 (x : Int) : Go.bits .and .i64 x 7 = x % 8 := by
  have h1 : (BitVec.ofInt 64 x).toNat = (x % 18446744073709551616).toNat := by rw [BitVec.toNat_ofInt]; rfl
  have h3 : (BitVec.ofInt 64 x &&& BitVec.ofInt 64 7).toNat = (x % 18446744073709551616).toNat % 8 := by
    rw [BitVec.toNat_and, h1]
    exact Nat.and_two_pow_sub_one_eq_mod _ 3
  show IntKind.i64.wrap ((BitVec.ofInt 64 x &&& BitVec.ofInt 64 7).toNat : Int) = _
  rw [h3, IntKind.wrap_i64]
  omega
theorem set_zero (m : Nat) (B : List Int) (v : Int) : (List.replicate (m + 1) (0 : Int) ++ B).set m v = List.replicate m 0 ++ (v :: B) := by
  rw [List.replicate_succ', List.append_assoc, List.set_append_right _ _ (by rw [List.length_replicate]; exact Nat.le_refl _), List.length_replicate, Nat.sub_self]
  rfl
theorem zeros_len (m : Nat) (B : List Int) : (List.replicate m (0 : Int) ++ B).length = m + B.length := by rw [List.length_append, List.length_replicate]
theorem wpred (m : Nat) (h : m < 9223372036854775807) : wrap64 ((m : Int) - 1) = (m : Int) - 1 := w64 (by omega) (by omega)
theorem octal_l0 : ∀ (m : Nat) (n : Int) (B : List Int), m ≤ 40 → Ev (fun k => num_octal.l0 k n (List.replicate m 0 ++ B) ((m : Int) - 1)) (oct n m ++ B)
  | 0, n, B, hm => by
    refine Ev.step (fun k => num_octal.l0.eq_2 _ _ _ k) ?_
    simp only [if_neg (show ¬ ((0 : Nat) : Int) - 1 ≥ 0 by omega), List.replicate_zero, List.nil_append]
    exact Ev.now _
  | m + 1, n, B, hm => by
    have ih := octal_l0 m (n / 8) ((n % 8 + 48) :: B) (by omega)
    refine Ev.step (fun k => num_octal.l0.eq_2 _ _ _ k) ?_
    have e1 : (((m + 1 : Nat) : Int) - 1) = (m : Int) := by omega
    rw [e1]
    simp only [if_pos (show (m : Int) ≥ 0 by omega), if_pos (show 0 ≤ (m : Int) by omega), zeros_len, if_pos (show (m : Int) < ((m + 1 + B.length : Nat) : Int) by omega), and7, Int.toNat_natCast, set_zero, wpred m (by omega)]
    have e2 : (48 + n % 8 % 256) % 256 = n % 8 + 48 := by omega
    have e3 : oct n (m + 1) ++ B = oct (n / 8) m ++ ((n % 8 + 48) :: B) := by
      unfold oct
      rw [digs, List.map_append, List.append_assoc]
      rfl
    rw [e2, e3]
    exact ih
theorem octal_ev (n : Int) (w : Nat) (h : w ≤ 32) : Ev (fun k => num_octal.f k n (w : Int)) (oct n w) := by
  unfold num_octal.f
  simp only [if_pos (show 0 ≤ (w : Int) by omega), Int.toNat_natCast, if_pos (show w ≤ 281474976710656 by omega), wpred w (by omega)]
  have := octal_l0 w n [] (by omega)
  rw [List.append_nil, List.append_nil] at this
  exact this
theorem fits_eq (n : Int) (w : Nat) (h0 : 2 ≤ w) (h : w ≤ 32) : num_fits.f n (w : Int) = some (fitsB n w) := by
  unfold num_fits.f fitsB
  by_cases h8 : 8 < w
  · rw [if_pos (by omega), decide_eq_true h8, Bool.true_or]
  · rw [if_neg (by omega), decide_eq_false h8, Bool.false_or, wpred w (by omega), w64 (n := 8 * ((w : Int) - 1)) (by omega) (by omega), if_pos (by omega)]
    have key : ∀ P : Int, 0 < P → shr .i64 n (8 * ((w : Int) - 1)) = n / P → (256 : Int) ^ (w - 1) = P → (if shr .i64 n (8 * ((w : Int) - 1)) = 0 then some true else some (shr .i64 n (8 * ((w : Int) - 1)) == (-1))) = some (decide (-(256 ^ (w - 1)) ≤ n) && decide (n < 256 ^ (w - 1))) := by
      intro P hP e1 e2
      rw [e1, e2]
      have hdm := Int.mul_ediv_add_emod n P
      have hm0 := Int.emod_nonneg n (show P ≠ 0 by omega)
      have hm1 := Int.emod_lt_of_pos n hP
      generalize n / P = q at *
      generalize n % P = r at *
      by_cases hq : q = 0
      · subst hq
        rw [if_pos rfl, Int.mul_zero] at *
        simp only [Option.some.injEq]
        symm
        rw [Bool.and_eq_true, decide_eq_true_eq, decide_eq_true_eq]
        omega
      · rw [if_neg hq]
        congr 1
        by_cases hq1 : q = -1
        · subst hq1
          have : P * -1 = -P := by omega
          rw [this] at hdm
          symm
          rw [show ((-1 : Int) == -1) = true from rfl, Bool.and_eq_true, decide_eq_true_eq, decide_eq_true_eq]
          omega
        · have : (q == -1) = false := beq_eq_false_iff_ne.2 hq1
          rw [this]
          symm
          rw [Bool.and_eq_false_iff, decide_eq_false_iff_not, decide_eq_false_iff_not]
          rcases (show q < 0 ∨ 0 ≤ q by omega) with hneg | hpos
          · left
            have : P * q ≤ P * -2 := Int.mul_le_mul_of_nonneg_left (by omega) (by omega)
            omega
          · right
            have : P * 1 ≤ P * q := Int.mul_le_mul_of_nonneg_left (by omega) (by omega)
            omega
    have hw : w = 2 ∨ w = 3 ∨ w = 4 ∨ w = 5 ∨ w = 6 ∨ w = 7 ∨ w = 8 := by omega
    rcases hw with rfl | rfl | rfl | rfl | rfl | rfl | rfl
    · exact key 256 (by omega) rfl rfl
    · exact key 65536 (by omega) rfl rfl
    · exact key 16777216 (by omega) rfl rfl
    · exact key 4294967296 (by omega) rfl rfl
    · exact key 1099511627776 (by omega) rfl rfl
    · exact key 281474976710656 (by omega) rfl rfl
    · exact key 72057594037927936 (by omega) rfl rfl
theorem put_l0 : ∀ (m : Nat) (n : Int) (B : List Int), m ≤ 40 → Ev (fun k => num_Put.l0 k n (0 :: (List.replicate m 0 ++ B)) (m : Int)) ((if n < 0 then 255 else 128) :: (digs 256 n m ++ B), 0)
  | 0, n, B, hm => by
    refine Ev.step (fun k => num_Put.l0.eq_2 _ _ _ k) ?_
    simp only [if_neg (show ¬ ((0 : Nat) : Int) > 0 by omega), List.replicate_zero, List.nil_append, if_pos (show (0 : Int) < ((0 :: B : List Int).length : Int) by rw [List.length_cons]; omega), Option.bind_some, Int.toNat_zero, List.set_cons_zero, digs]
    by_cases hn : n < 0
    · simp only [if_pos hn]; exact Ev.now _
    · simp only [if_neg hn]; exact Ev.now _
  | m + 1, n, B, hm => by
    have ih := put_l0 m (n / 256) ((n % 256) :: B) (by omega)
    refine Ev.step (fun k => num_Put.l0.eq_2 _ _ _ k) ?_
    have hl : (0 :: (List.replicate (m + 1) (0 : Int) ++ B)).length = m + 2 + B.length := by rw [List.length_cons, zeros_len]; omega
    have e4 : wrap64 (((m + 1 : Nat) : Int) - 1) = (m : Int) := by rw [w64 (by omega) (by omega)]; omega
    simp only [if_pos (show ((m + 1 : Nat) : Int) > 0 by omega), if_pos (show 0 ≤ ((m + 1 : Nat) : Int) by omega), hl, if_pos (show ((m + 1 : Nat) : Int) < ((m + 2 + B.length : Nat) : Int) by omega), Int.toNat_natCast, List.set_cons_succ, set_zero, e4]
    have e1 : (if n / 256 < 0 then (255 : Int) else 128) = if n < 0 then 255 else 128 := by
      by_cases hn : n < 0
      · rw [if_pos hn, if_pos (by omega)]
      · rw [if_neg hn, if_neg (by omega)]
    have e3 : digs 256 n (m + 1) ++ B = digs 256 (n / 256) m ++ ((n % 256) :: B) := by
      rw [digs, List.append_assoc]
      rfl
    rw [e1] at ih
    rw [e3]
    exact ih
theorem put_ev (n : Int) (w : Nat) (wide : Bool) (h0 : 2 ≤ w) (h : w ≤ 32) : Ev (fun k => num_Put.f k n (w : Int) wide) (putOf n w wide) := by
  have hp : wrap64 ((w : Int) - 1) = ((w - 1 : Nat) : Int) := wsub1 w (by omega) (by omega)
  have h2 : Ev (fun k => num_Put.j2 k n (w : Int) wide false) (if wide = true ∧ fitsB n w = true then ((if n < 0 then 255 else 128) :: digs 256 n (w - 1), 0) else ([], 5)) := by
    refine Ev.step (fun k => num_Put.j2.eq_2 _ _ _ _ k) ?_
    simp only [if_neg Bool.false_ne_true]
    cases wide with
    | false =>
      simp only [if_neg Bool.false_ne_true, false_and, if_false, Bool.false_eq_true]
      exact Ev.now _
    | true =>
      simp only [if_true, fits_eq n w h0 h, Option.bind_some, true_and]
      cases hf : fitsB n w with
      | false =>
        simp only [if_neg Bool.false_ne_true]
        exact Ev.now _
      | true =>
        simp only [if_true, if_pos (show 0 ≤ (w : Int) by omega), Int.toNat_natCast, if_pos (show w ≤ 281474976710656 by omega), hp]
        have := put_l0 (w - 1) n [] (by omega)
        rw [List.append_nil, List.append_nil, ← List.replicate_succ, show w - 1 + 1 = w by omega] at this
        exact this
  have h1 : Ev (fun k => num_Put.j1 k n (w : Int) wide false) (if 0 ≤ n ∧ n ≤ mostOf w then (oct n w, 0) else if wide = true ∧ fitsB n w = true then ((if n < 0 then 255 else 128) :: digs 256 n (w - 1), 0) else ([], 5)) := by
    refine Ev.step (fun k => num_Put.j1.eq_2 _ _ _ _ k) ?_
    simp only [if_neg Bool.false_ne_true]
    by_cases hn : 0 ≤ n
    · simp only [if_pos (show n ≥ 0 from hn), most_eq w h, Option.bind_some]
      by_cases hm : n ≤ mostOf w
      · simp only [decide_eq_true hm, if_pos (show 0 ≤ n ∧ n ≤ mostOf w from ⟨hn, hm⟩)]
        refine Ev.step (fun k => num_Put.j2.eq_2 _ _ _ _ k) ?_
        simp only [if_true]
        refine Ev.bind (octal_ev n w h) ?_
        exact Ev.now _
      · simp only [decide_eq_false hm, if_neg (show ¬ (0 ≤ n ∧ n ≤ mostOf w) from fun x => hm x.2)]
        exact h2
    · simp only [if_neg (show ¬ n ≥ 0 from hn), if_neg (show ¬ (0 ≤ n ∧ n ≤ mostOf w) from fun x => hn x.1)]
      exact h2
  unfold num_Put.f putOf
  simp only [if_neg (show ¬ (w : Int) < 2 by omega), decide_eq_false (show ¬ (w : Int) > 32 by omega)]
  refine Ev.step (fun k => num_Put.j0.eq_2 _ _ _ _ k) ?_
  simp only [if_neg Bool.false_ne_true, hp]
  by_cases hn : 0 ≤ n
  · simp only [if_pos (show n ≥ 0 from hn), most_eq (w - 1) (by omega), Option.bind_some]
    by_cases hm : n ≤ mostOf (w - 1)
    · simp only [decide_eq_true hm, if_pos (show 0 ≤ n ∧ n ≤ mostOf (w - 1) from ⟨hn, hm⟩)]
      refine Ev.step (fun k => num_Put.j1.eq_2 _ _ _ _ k) ?_
      simp only [if_true, hp]
      refine Ev.bind (octal_ev n (w - 1) (by omega)) ?_
      simp only [oct_len, if_pos (show w - 1 < 140737488355328 by omega)]
      exact Ev.now _
    · simp only [decide_eq_false hm, if_neg (show ¬ (0 ≤ n ∧ n ≤ mostOf (w - 1)) from fun x => hm x.2)]
      exact h1
  · simp only [if_neg (show ¬ n ≥ 0 from hn), if_neg (show ¬ (0 ≤ n ∧ n ≤ mostOf (w - 1)) from fun x => hn x.1)]
    exact h1
theorem put_no (n w : Int) (wide : Bool) (h : w < 2 ∨ 32 < w) : Ev (fun k => num_Put.f k n w wide) ([], 2) := by
  unfold num_Put.f
  have e : ∀ b : Bool, b = true → Ev (fun k => num_Put.j0 k n w wide b) ([], 2) := by
    intro b hb
    subst hb
    refine Ev.step (fun k => num_Put.j0.eq_2 _ _ _ _ k) ?_
    simp only [if_true]
    exact Ev.now _
  by_cases h2 : w < 2
  · simp only [if_pos h2]; exact e true rfl
  · simp only [if_neg h2]; exact e _ (decide_eq_true (by omega))

/-! ### The reference -/
theorem rmost_fin : ∀ w : Fin 33, oakumref01_Most.f 60 ((w.val : Nat) : Int) = some (mostOf w.val) := by decide +kernel
theorem rmost_ev (w : Nat) (h : w ≤ 32) : Ev (fun k => oakumref01_Most.f k (w : Int)) (mostOf w) := Ev.of (oakumref01_Most.mono _) (k := 60) (rmost_fin ⟨w, by omega⟩)
theorem rpower_fin : ∀ w : Fin 9, oakumref01_Power.f 60 256 ((w.val : Nat) : Int) = some (if w.val < 8 then 256 ^ w.val else 9223372036854775807) := by decide +kernel
theorem rpower_ev (w : Nat) (h : w ≤ 7) : Ev (fun k => oakumref01_Power.f k 256 (w : Int)) (256 ^ w) := by
  have := Ev.of (oakumref01_Power.mono 256 (w : Int)) (k := 60) (rpower_fin ⟨w, by omega⟩)
  rwa [if_pos (show w < 8 by omega)] at this
theorem digits_l0 (b : Int) (hb : 2 ≤ b) (hb2 : b ≤ 256) (w : Nat) (hw : w ≤ 40) : ∀ (m i : Nat) (n : Int) (B : List Int), i + m = w → B.length = i → 0 ≤ n → n ≤ 9223372036854775807 → Ev (fun k => oakumref01_digits.l0 k n b (w : Int) (List.replicate m 0 ++ B) (i : Int)) (digs b n m ++ B)
  | 0, i, n, B, hi, hB, h0, h1 => by
    refine Ev.step (fun k => oakumref01_digits.l0.eq_2 _ _ _ _ _ k) ?_
    simp only [if_neg (show ¬ (i : Int) < (w : Int) by omega), List.replicate_zero, List.nil_append]
    exact Ev.now _
  | m + 1, i, n, B, hi, hB, h0, h1 => by
    have hd0 : 0 ≤ n / b := Int.ediv_nonneg h0 (by omega)
    have hd1 : n / b ≤ n := Int.ediv_le_self b h0
    have ih := digits_l0 b hb hb2 w hw m (i + 1) (n / b) ((n % b) :: B) (by omega) (by rw [List.length_cons, hB]) hd0 (by omega)
    refine Ev.step (fun k => oakumref01_digits.l0.eq_2 _ _ _ _ _ k) ?_
    have e1 : wrap64 (wrap64 ((w : Int) - 1) - (i : Int)) = (m : Int) := by rw [w64 (n := (w : Int) - 1) (by omega) (by omega), w64 (by omega) (by omega)]; omega
    have e2 : wrap64 (Int.tdiv n b) = n / b := by rw [Int.tdiv_eq_ediv_of_nonneg h0, w64 (by omega) (by omega)]
    have hm0 := Int.emod_nonneg n (show b ≠ 0 by omega)
    have hm1 := Int.emod_lt_of_pos n (show 0 < b by omega)
    have e3 : Int.tmod n b % 256 = n % b := by rw [Int.tmod_eq_emod_of_nonneg h0]; omega
    simp only [if_pos (show (i : Int) < (w : Int) by omega), if_neg (show ¬ b = 0 by omega), e1, e2, e3, if_pos (show 0 ≤ (m : Int) by omega), zeros_len, if_pos (show (m : Int) < ((m + 1 + B.length : Nat) : Int) by omega), Int.toNat_natCast, set_zero, wadd1 i (by omega)]
    rw [digs, List.append_assoc]
    exact ih
theorem digits_ev (b n : Int) (hb : 2 ≤ b) (hb2 : b ≤ 256) (w : Nat) (hw : w ≤ 40) (h0 : 0 ≤ n) (h1 : n ≤ 9223372036854775807) : Ev (fun k => oakumref01_digits.f k n b (w : Int)) (digs b n w) := by
  unfold oakumref01_digits.f
  simp only [if_pos (show 0 ≤ (w : Int) by omega), Int.toNat_natCast, if_pos (show w ≤ 281474976710656 by omega)]
  have := digits_l0 b hb hb2 w hw w 0 n [] (by omega) rfl h0 h1
  rw [List.append_nil, List.append_nil] at this
  exact this
theorem set_mid (A B : List Int) (x v : Int) (i : Nat) (h : A.length = i) : (A ++ x :: B).set i v = (A ++ [v]) ++ B := by
  rw [List.set_append_right _ _ (by omega), h, Nat.sub_self, List.set_cons_zero, List.append_assoc]
  rfl
theorem rd_mid (A B : List Int) (x : Int) (i : Nat) (h : A.length = i) : rd (A ++ x :: B) (i : Int) = x := by
  unfold rd
  rw [Int.toNat_natCast, List.getD_eq_getElem?_getD, List.getElem?_append_right (by omega), h, Nat.sub_self]
  rfl
theorem rput_l0 (w k8 : Nat) (hw : w ≤ 40) (hk : k8 ≤ 40) : ∀ (B A : List Int), A.length + B.length = k8 → (∀ x ∈ B, 0 ≤ x ∧ x ≤ 9) → Ev (fun k => oakumref01_Put.l0 k (w : Int) (k8 : Int) (A ++ B) (A.length : Int)) (if k8 < w then A ++ B.map (· + 48) ++ [0] else A ++ B.map (· + 48), 0)
  | [], A, hl, hB => by
    simp only [List.length_nil, Nat.add_zero] at hl
    refine Ev.step (fun k => oakumref01_Put.l0.eq_2 _ _ _ _ k) ?_
    simp only [if_neg (show ¬ (A.length : Int) < (k8 : Int) by omega), List.append_nil, List.map_nil]
    by_cases hw : k8 < w
    · simp only [if_pos (show (k8 : Int) < (w : Int) by omega), if_pos hw, if_pos (show A.length < 140737488355328 by omega)]
      exact Ev.now _
    · simp only [if_neg (show ¬ (k8 : Int) < (w : Int) by omega), if_neg hw]
      exact Ev.now _
  | x :: B, A, hl, hB => by
    have hx := hB x List.mem_cons_self
    have hlen : (A ++ x :: B).length = A.length + (B.length + 1) := by rw [List.length_append, List.length_cons]
    rw [List.length_cons] at hl
    have ih := rput_l0 w k8 hw hk B (A ++ [x + 48]) (by rw [List.length_append]; simp; omega) (fun y hy => hB y (List.mem_cons_of_mem _ hy))
    refine Ev.step (fun k => oakumref01_Put.l0.eq_2 _ _ _ _ k) ?_
    simp only [if_pos (show (A.length : Int) < (k8 : Int) by omega), if_pos (show 0 ≤ (A.length : Int) by omega), hlen, if_pos (show (A.length : Int) < ((A.length + (B.length + 1) : Nat) : Int) by omega), Int.toNat_natCast, rd_mid A B x A.length rfl, set_mid A B x _ A.length rfl, show (x + 48) % 256 = x + 48 by omega, wadd1 A.length (by omega)]
    have e1 : (A ++ [x + 48]).length = A.length + 1 := by rw [List.length_append]; rfl
    rw [e1] at ih
    have e2 : A ++ (x :: B).map (· + 48) = A ++ [x + 48] ++ B.map (· + 48) := by simp
    rw [e2]
    exact ih
theorem digs_bd (b : Int) (hb : 2 ≤ b) : ∀ (w : Nat) (n : Int), ∀ x ∈ digs b n w, 0 ≤ x ∧ x < b
  | 0, n, x, h => by simp [digs] at h
  | w + 1, n, x, h => by
    unfold digs at h
    rcases List.mem_append.1 h with h | h
    · exact digs_bd b hb w _ x h
    · rw [List.mem_singleton] at h
      subst h
      exact ⟨Int.emod_nonneg n (by omega), Int.emod_lt_of_pos n (by omega)⟩
theorem rput_j2 (n : Int) (w k8 : Nat) (hw : w ≤ 32) (hk : k8 ≤ 32) (h0 : 0 ≤ n) (h1 : n ≤ 9223372036854775807) : Ev (fun k => oakumref01_Put.j2 k n (w : Int) (k8 : Int)) (if k8 < w then oct n k8 ++ [0] else oct n k8, 0) := by
  refine Ev.step (fun k => oakumref01_Put.j2.eq_2 _ _ _ k) ?_
  refine Ev.bind (digits_ev 8 n (by omega) (by omega) k8 (by omega) h0 h1) ?_
  have := rput_l0 w k8 (by omega) (by omega) (digs 8 n k8) [] (by rw [digs_len]; simp) (fun x hx => by have := digs_bd 8 (by omega) k8 n x hx; omega)
  simp only [List.nil_append] at this
  exact this
/-- The other sides. -/
theorem digs_neg : ∀ (w : Nat) (n : Int), (digs 256 (-n - 1) w).map (fun x => 255 - x) = digs 256 n w
  | 0, _ => rfl
  | w + 1, n => by
    unfold digs
    rw [List.map_append, show (-n - 1) / 256 = -(n / 256) - 1 by omega, digs_neg w]
    congr 1
    simp only [List.map_cons, List.map_nil]
    congr 1
    omega
theorem rput_l1_neg (n : Int) (hn : n < 0) (w : Nat) (hw : w ≤ 40) : ∀ (B A : List Int), A.length + B.length = w → 0 < w → (∀ x ∈ B, 0 ≤ x ∧ x ≤ 255) → Ev (fun k => oakumref01_Put.l1 k n (w : Int) (A ++ B) (A.length : Int)) ((A ++ B.map (fun x => 255 - x)).set 0 255, 0)
  | [], A, hl, h0, hB => by
    simp only [List.length_nil, Nat.add_zero] at hl
    refine Ev.step (fun k => oakumref01_Put.l1.eq_2 _ _ _ _ k) ?_
    simp only [if_neg (show ¬ (A.length : Int) < (w : Int) by omega), List.append_nil, List.map_nil, if_pos hn, if_pos (show 0 < (A.length : Int) by omega)]
    exact Ev.now _
  | x :: B, A, hl, h0, hB => by
    have hx := hB x List.mem_cons_self
    have hlen : (A ++ x :: B).length = A.length + (B.length + 1) := by rw [List.length_append, List.length_cons]
    rw [List.length_cons] at hl
    have ih := rput_l1_neg n hn w hw B (A ++ [255 - x]) (by rw [List.length_append]; simp; omega) h0 (fun y hy => hB y (List.mem_cons_of_mem _ hy))
    refine Ev.step (fun k => oakumref01_Put.l1.eq_2 _ _ _ _ k) ?_
    simp only [if_pos (show (A.length : Int) < (w : Int) by omega), if_pos hn, if_pos (show 0 ≤ (A.length : Int) by omega), hlen, if_pos (show (A.length : Int) < ((A.length + (B.length + 1) : Nat) : Int) by omega), Int.toNat_natCast, rd_mid A B x A.length rfl, set_mid A B x _ A.length rfl, show (255 - x) % 256 = 255 - x by omega, wadd1 A.length (by omega)]
    have e1 : (A ++ [255 - x]).length = A.length + 1 := by rw [List.length_append]; rfl
    rw [e1] at ih
    have e2 : A ++ (x :: B).map (fun x => 255 - x) = A ++ [255 - x] ++ B.map (fun x => 255 - x) := by simp
    rw [e2]
    exact ih
theorem rput_j5 (n : Int) (w : Nat) (h2 : 2 ≤ w) (hw : w ≤ 32) (h0 : -9223372036854775808 ≤ n) (h1 : n ≤ 9223372036854775807) : Ev (fun k => oakumref01_Put.j5 k n (w : Int) (if n < 0 then -n - 1 else n) false) ((if n < 0 then 255 else 128) :: digs 256 n (w - 1), 0) := by
  have hp : wrap64 ((w : Int) - 1) = ((w - 1 : Nat) : Int) := wsub1 w (by omega) (by omega)
  refine Ev.step (fun k => oakumref01_Put.j5.eq_2 _ _ _ _ k) ?_
  simp only [if_neg Bool.false_ne_true, Option.bind_some, hp]
  by_cases hn : n < 0
  · simp only [if_pos hn]
    refine Ev.bind (digits_ev 256 (-n - 1) (by omega) (by omega) (w - 1) (by omega) (by omega) (by omega)) ?_
    simp only [digs_len, List.length_cons, List.length_nil, if_pos (show 0 + 1 + (w - 1) < 140737488355328 by omega)]
    have := rput_l1_neg n hn w (by omega) ([128] ++ digs 256 (-n - 1) (w - 1)) [] (by rw [List.length_append, digs_len]; simp; omega) (by omega) (fun x hx => by
      rcases List.mem_append.1 hx with hx | hx
      · simp at hx; omega
      · have := digs_bd 256 (by omega) _ _ x hx; omega)
    rw [List.map_append, digs_neg] at this
    exact this
  · simp only [if_neg hn]
    refine Ev.bind (digits_ev 256 n (by omega) (by omega) (w - 1) (by omega) (by omega) (by omega)) ?_
    simp only [digs_len, List.length_cons, List.length_nil, if_pos (show 0 + 1 + (w - 1) < 140737488355328 by omega)]
    refine Ev.step (fun k => oakumref01_Put.l1.eq_2 _ _ _ _ k) ?_
    simp only [if_pos (show (0 : Int) < (w : Int) by omega), if_neg hn]
    exact Ev.now _
theorem most_le : ∀ w : Fin 33, mostOf (w.val - 1) ≤ mostOf w.val := by decide +kernel
theorem pow_bd : ∀ w : Fin 9, 2 ≤ w.val → (256 : Int) ^ (w.val - 1) ≤ 9223372036854775807 := by decide +kernel
theorem rput_ev (n : Int) (w : Nat) (wide : Bool) (h2 : 2 ≤ w) (h : w ≤ 32) (h0 : -9223372036854775808 ≤ n) (h1 : n ≤ 9223372036854775807) : Ev (fun k => oakumref01_Put.f k n (w : Int) wide) (putOf n w wide) := by
  have hp : wrap64 ((w : Int) - 1) = ((w - 1 : Nat) : Int) := wsub1 w (by omega) (by omega)
  have hle : mostOf (w - 1) ≤ mostOf w := most_le ⟨w, by omega⟩
  have hsz : (if n < 0 then wrap64 (-(wrap64 (n + 1))) else n) = (if n < 0 then -n - 1 else n) := by
    by_cases hn : n < 0
    · rw [if_pos hn, if_pos hn, w64 (n := n + 1) (by omega) (by omega), w64 (by omega) (by omega)]; omega
    · rw [if_neg hn, if_neg hn]
  have hj4 : ¬ (0 ≤ n ∧ n ≤ mostOf w) → Ev (fun k => oakumref01_Put.j4 k n (w : Int) wide (if n < 0 then -n - 1 else n)) (putOf n w wide) := by
    intro hno
    have hpo : putOf n w wide = if wide = true ∧ fitsB n w = true then ((if n < 0 then 255 else 128) :: digs 256 n (w - 1), 0) else ([], 5) := by
      unfold putOf
      rw [if_neg (fun x => hno ⟨x.1, by omega⟩), if_neg hno]
    rw [hpo]
    have hbad : Ev (fun k => oakumref01_Put.j5 k n (w : Int) (if n < 0 then -n - 1 else n) true) ([], 5) := by
      refine Ev.step (fun k => oakumref01_Put.j5.eq_2 _ _ _ _ k) ?_
      simp only [if_true]
      exact Ev.now _
    refine Ev.step (fun k => oakumref01_Put.j4.eq_2 _ _ _ _ k) ?_
    cases wide with
    | false =>
      simp only [if_neg Bool.false_ne_true, false_and, if_false, Bool.false_eq_true]
      exact hbad
    | true =>
      simp only [if_true, true_and]
      by_cases h8 : 8 < w
      · have hf : fitsB n w = true := by unfold fitsB; rw [decide_eq_true h8]; rfl
        simp only [if_neg (show ¬ (w : Int) < 9 by omega), hf, if_true]
        exact rput_j5 n w h2 h h0 h1
      · simp only [if_pos (show (w : Int) < 9 by omega), hp]
        refine Ev.bind (rpower_ev (w - 1) (by omega)) ?_
        have hf : fitsB n w = (decide (-(256 ^ (w - 1)) ≤ n) && decide (n < 256 ^ (w - 1))) := by unfold fitsB; rw [decide_eq_false h8, Bool.false_or]
        have hpos : (0 : Int) < 256 ^ (w - 1) := Int.pow_pos (by omega)
        rw [hf]
        generalize (256 : Int) ^ (w - 1) = P at hpos
        by_cases hge : (if n < 0 then -n - 1 else n) ≥ P
        · simp only [decide_eq_true hge]
          have : (decide (-P ≤ n) && decide (n < P)) = false := by
            rw [Bool.and_eq_false_iff, decide_eq_false_iff_not, decide_eq_false_iff_not]
            split at hge <;> omega
          rw [this]
          simp only [if_neg Bool.false_ne_true]
          exact hbad
        · simp only [decide_eq_false hge]
          have : (decide (-P ≤ n) && decide (n < P)) = true := by
            rw [Bool.and_eq_true, decide_eq_true_eq, decide_eq_true_eq]
            split at hge <;> omega
          rw [this]
          simp only [if_true]
          exact rput_j5 n w h2 h h0 h1
  have hj1 : ¬ (0 ≤ n ∧ n ≤ mostOf w) → Ev (fun k => oakumref01_Put.j1 k n (w : Int) wide false) (putOf n w wide) := by
    intro hno
    have := hj4 hno
    refine Ev.step (fun k => oakumref01_Put.j1.eq_2 _ _ _ _ k) ?_
    simp only [if_neg Bool.false_ne_true]
    rw [← hsz] at this
    by_cases hn : n < 0
    · simp only [if_pos hn] at this ⊢; exact this
    · simp only [if_neg hn] at this ⊢; exact this
  unfold oakumref01_Put.f
  simp only [if_neg (show ¬ (w : Int) < 2 by omega), decide_eq_false (show ¬ (w : Int) > 32 by omega)]
  refine Ev.step (fun k => oakumref01_Put.j0.eq_2 _ _ _ _ k) ?_
  simp only [if_neg Bool.false_ne_true]
  by_cases hn : 0 ≤ n
  · simp only [if_pos (show n ≥ 0 from hn)]
    refine Ev.bind (rmost_ev w h) ?_
    by_cases hm : n ≤ mostOf w
    · simp only [decide_eq_true hm]
      refine Ev.step (fun k => oakumref01_Put.j1.eq_2 _ _ _ _ k) ?_
      simp only [if_true, hp]
      refine Ev.bind (rmost_ev (w - 1) (by omega)) ?_
      unfold putOf
      by_cases hm1 : n ≤ mostOf (w - 1)
      · simp only [if_pos hm1, if_pos (show 0 ≤ n ∧ n ≤ mostOf (w - 1) from ⟨hn, hm1⟩)]
        have := rput_j2 n w (w - 1) h (by omega) hn h1
        rw [if_pos (by omega)] at this
        exact this
      · simp only [if_neg hm1, if_neg (show ¬ (0 ≤ n ∧ n ≤ mostOf (w - 1)) from fun x => hm1 x.2), if_pos (show 0 ≤ n ∧ n ≤ mostOf w from ⟨hn, hm⟩)]
        have := rput_j2 n w w h h hn h1
        rw [if_neg (by omega)] at this
        exact this
    · simp only [decide_eq_false hm]
      exact hj1 (fun x => hm x.2)
  · simp only [if_neg (show ¬ n ≥ 0 from hn)]
    exact hj1 (fun x => hn x.1)
theorem rput_no (n w : Int) (wide : Bool) (h : w < 2 ∨ 32 < w) : Ev (fun k => oakumref01_Put.f k n w wide) ([], 2) := by
  unfold oakumref01_Put.f
  have e : ∀ b : Bool, b = true → Ev (fun k => oakumref01_Put.j0 k n w wide b) ([], 2) := by
    intro b hb
    subst hb
    refine Ev.step (fun k => oakumref01_Put.j0.eq_2 _ _ _ _ k) ?_
    simp only [if_true]
    exact Ev.now _
  by_cases h2 : w < 2
  · simp only [if_pos h2]; exact e true rfl
  · simp only [if_neg h2]; exact e _ (decide_eq_true (by omega))
theorem put_code (n : Int) (w : Nat) (wide : Bool) : (putOf n w wide).2 = 0 ∨ (putOf n w wide).2 = 5 := by
  unfold putOf
  split
  · exact .inl rfl
  · split
    · exact .inl rfl
    · split
      · exact .inl rfl
      · exact .inr rfl
theorem most_both (w : Int) : ∃ v, num_Most.f w = some v ∧ Ev (fun k => oakumref01_Most.f k w) v := by
  by_cases h1 : w < 1
  · refine ⟨0, by unfold num_Most.f; rw [if_pos h1], ?_⟩
    unfold oakumref01_Most.f
    simp only [if_pos h1]
    exact Ev.now _
  · by_cases h2 : w > 20
    · refine ⟨9223372036854775807, by unfold num_Most.f; rw [if_neg h1, if_pos h2], ?_⟩
      unfold oakumref01_Most.f
      simp only [if_neg h1, if_pos h2]
      exact Ev.now _
    · obtain ⟨m, rfl⟩ := Int.eq_ofNat_of_zero_le (show 0 ≤ w by omega)
      exact ⟨_, most_eq m (by omega), rmost_ev m (by omega)⟩
theorem NumPuts : oakumlaw01_NumPuts.Pure := by
  intro n w wide hn _
  have hb := wf_i64_bd hn
  refine Ev.rounds (g := fun k => oakumlaw01_NumPuts.f k n w wide) ?_
  unfold oakumlaw01_NumPuts.f
  refine Ev.bind alive_ev ?_
  simp only [if_true]
  obtain ⟨v, hv1, hv2⟩ := most_both w
  obtain ⟨p, hp, e1, e2⟩ : ∃ p : List Int × Int, (p.2 = 0 ∨ p.2 = 5 ∨ p.2 = 2) ∧ Ev (fun k => num_Put.f k n w wide) p ∧ Ev (fun k => oakumref01_Put.f k n w wide) p := by
    by_cases h : w < 2 ∨ 32 < w
    · exact ⟨([], 2), .inr (.inr rfl), put_no n w wide h, rput_no n w wide h⟩
    · obtain ⟨m, rfl⟩ := Int.eq_ofNat_of_zero_le (show 0 ≤ w by omega)
      refine ⟨putOf n m wide, ?_, put_ev n m wide (by omega) (by omega), rput_ev n m wide (by omega) (by omega) hb.1 hb.2⟩
      rcases put_code n m wide with h | h
      · exact .inl h
      · exact .inr (.inl h)
  refine Ev.bind e1 ?_
  refine Ev.bind e2 ?_
  have hw : wrap64 p.2 = p.2 := w64 (by omega) (by omega)
  simp only [hw, if_true, oakumref01_Same.f, beq_self_eq_true, Option.bind_some, hv1]
  refine Ev.bind hv2 ?_
  simp only [beq_self_eq_true]
  exact Ev.now _

end Go.Proofs.YtnbgjagannmchaaDoor.Pure
