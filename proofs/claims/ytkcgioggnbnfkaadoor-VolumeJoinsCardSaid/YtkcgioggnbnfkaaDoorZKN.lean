/- The sum of bytes over numbers: by a table and bit by bit. -/
import Derived.Test.YtkcgioggnbnfkaaDoorZHKit
import Derived.Test.YtkcgioggnbnfkaaDoorZPVolumeJoinsx0
import Derived.Test.YtkcgioggnbnfkaaDoorZPVolumeJoinsx1
import Derived.Test.YtkcgioggnbnfkaaDoorZPVolumeJoinsx2
import Derived.Test.YtkcgioggnbnfkaaDoorZPVolumeJoinsx3
import Derived.Test.YtkcgioggnbnfkaaDoorZPVolumeJoinsx4
import Derived.Test.YtkcgioggnbnfkaaDoorZPVolumeJoinsx5
set_option linter.unusedVariables false
set_option linter.unusedSimpArgs false
namespace Go.Proofs.YtkcgioggnbnfkaaDoor.CrcA
open Go.RowKit Go.Proofs.YtkcgioggnbnfkaaDoorW.PrintWords Go.Proofs.YtkcgioggnbnfkaaDoorW.PrintLast Go.Proofs.YtkcgioggnbnfkaaDoorW.PrintMore Go.Proofs.YtkcgioggnbnfkaaDoorW.HKit
/-- One bit's step. -/
def crcBit (x : Nat) : Nat := if x % 2 = 1 then x / 2 ^^^ 3988292384 else x / 2
def crcBits : Nat → Nat → Nat
  | 0, x => x
  | k + 1, x => crcBits k (crcBit x)
def tabAt (i : Nat) : Nat := crcBits 8 i
theorem xor_mod2 (a b : Nat) : (a ^^^ b) % 2 = (a % 2 + b % 2) % 2 := by
  have h : (a ^^^ b) % 2 ^ 1 = a % 2 ^ 1 ^^^ b % 2 ^ 1 := Nat.xor_mod_two_pow
  rw [show (2 : Nat) ^ 1 = 2 from rfl] at h
  rw [h]
  rcases Nat.mod_two_eq_zero_or_one a with ha | ha <;> rcases Nat.mod_two_eq_zero_or_one b with hb | hb <;> rw [ha, hb] <;> rfl
theorem xor_div2 (a b : Nat) : (a ^^^ b) / 2 = a / 2 ^^^ b / 2 := Nat.xor_div_two
theorem crcBit_xor (a b : Nat) : crcBit (a ^^^ b) = crcBit a ^^^ crcBit b := by
  unfold crcBit
  rw [xor_mod2, xor_div2]
  rcases Nat.mod_two_eq_zero_or_one a with ha | ha <;> rcases Nat.mod_two_eq_zero_or_one b with hb | hb <;> rw [ha, hb]
  · rfl
  · simp [Nat.xor_assoc]
  · simp only [↓reduceIte, Nat.reduceAdd, Nat.reduceMod, Nat.zero_ne_one]
    rw [Nat.xor_assoc, Nat.xor_assoc, Nat.xor_comm (b / 2)]
  · simp only [↓reduceIte, Nat.reduceAdd, Nat.reduceMod, Nat.zero_ne_one]
    rw [Nat.xor_assoc, ← Nat.xor_assoc 3988292384, Nat.xor_comm 3988292384, Nat.xor_assoc (b / 2), Nat.xor_self, Nat.xor_zero]
theorem crcBits_xor : ∀ (k a b : Nat), crcBits k (a ^^^ b) = crcBits k a ^^^ crcBits k b
  | 0, a, b => rfl
  | k + 1, a, b => by
    show crcBits k (crcBit (a ^^^ b)) = crcBits k (crcBit a) ^^^ crcBits k (crcBit b)
    rw [crcBit_xor, crcBits_xor k]
theorem crcBits_even : ∀ (k a : Nat), crcBits k (a * 2 ^ k) = a
  | 0, a => by show a * 2 ^ 0 = a; omega
  | k + 1, a => by
    show crcBits k (crcBit (a * 2 ^ (k + 1))) = a
    have h : crcBit (a * 2 ^ (k + 1)) = a * 2 ^ k := by
      have e : a * 2 ^ (k + 1) = 2 * (a * 2 ^ k) := by rw [Nat.pow_succ]; rw [Nat.mul_comm (2 ^ k) 2, ← Nat.mul_assoc, Nat.mul_comm a 2, Nat.mul_assoc]
      unfold crcBit
      rw [e]
      rw [if_neg (by omega)]
      omega
    rw [h, crcBits_even k]
theorem byte_split (y : Nat) : (y / 256 * 2 ^ 8) ^^^ (y % 256) = y := by
  apply Nat.eq_of_testBit_eq
  intro i
  rw [Nat.testBit_xor, Nat.testBit_mul_two_pow, show (256 : Nat) = 2 ^ 8 from rfl, Nat.testBit_mod_two_pow]
  by_cases h : 8 ≤ i
  · rw [Nat.testBit_div_two_pow, show i - 8 + 8 = i by omega]
    simp [h, Nat.not_lt.2 h]
  · simp [h, Nat.lt_of_not_le h]
/-- One byte: eight bits, or a look into the table. -/
theorem crc_byte (y : Nat) : crcBits 8 y = y / 256 ^^^ tabAt (y % 256) := by
  conv => lhs; rw [← byte_split y]
  rw [crcBits_xor, crcBits_even]
  rfl
theorem xor_lt (a b n : Nat) (ha : a < 2 ^ n) (hb : b < 2 ^ n) : a ^^^ b < 2 ^ n := Nat.xor_lt_two_pow ha hb
theorem crcBit_lt (x : Nat) (h : x < 4294967296) : crcBit x < 4294967296 := by
  unfold crcBit
  split
  · exact xor_lt _ _ 32 (by omega) (by decide)
  · omega
theorem crcBits_lt : ∀ (k x : Nat), x < 4294967296 → crcBits k x < 4294967296
  | 0, _, h => h
  | k + 1, x, h => crcBits_lt k _ (crcBit_lt x h)
/-- All bytes' steps. -/
def crcAll (x : Nat) : List Int → Nat
  | [] => x
  | c :: l => crcAll (crcBits 8 (x ^^^ c.toNat)) l
/-- The sum of bytes. -/
def crcFin (x : Nat) : Nat := 4294967295 - x
def crcSum (l : List Int) : Nat := crcFin (crcAll 4294967295 l)
theorem div_xor (a b : Nat) (hb : b < 256) : (a ^^^ b) / 256 = a / 256 := by
  have h : (a ^^^ b) / 2 ^ 8 = a / 2 ^ 8 ^^^ b / 2 ^ 8 := Nat.xor_div_two_pow
  rw [show (256 : Nat) = 2 ^ 8 from rfl, h, show b / 2 ^ 8 = 0 by omega, Nat.xor_zero]
theorem mod_xor (a b : Nat) (hb : b < 256) : (a ^^^ b) % 256 = (a % 256) ^^^ b := by
  have h : (a ^^^ b) % 2 ^ 8 = a % 2 ^ 8 ^^^ b % 2 ^ 8 := Nat.xor_mod_two_pow
  rw [show (256 : Nat) = 2 ^ 8 from rfl, h, show b % 2 ^ 8 = b by omega]
/-- A byte's step by the table, as the code does it. -/
theorem crc_step (x c : Nat) (hc : c < 256) : crcBits 8 (x ^^^ c) = x / 256 ^^^ tabAt ((x % 256) ^^^ c) := by
  rw [crc_byte, div_xor _ _ hc, mod_xor _ _ hc]
end Go.Proofs.YtkcgioggnbnfkaaDoor.CrcA
/- The bytes of any number in a field: over numbers and lists alone. -/
set_option linter.unusedVariables false
set_option linter.unusedSimpArgs false
namespace Go.Proofs.YtkcgioggnbnfkaaDoor.NumP
open Go.RowKit Go.Proofs.YtkcgioggnbnfkaaDoorW.PrintWords Go.Proofs.YtkcgioggnbnfkaaDoorW.PrintLast Go.Proofs.YtkcgioggnbnfkaaDoorW.PrintMore Go.Proofs.YtkcgioggnbnfkaaDoor.PVolumeJoins
theorem w64 {n : Int} (h0 : -9223372036854775808 ≤ n) (h1 : n ≤ 9223372036854775807) : wrap64 n = n := by unfold wrap64; omega
/-- Sums that fit (no equation with a wrap stays in a context: linear arithmetic would look into it). -/
theorem wadd1 (n : Nat) (h : n < 9223372036854775807) : wrap64 ((n : Int) + 1) = ((n + 1 : Nat) : Int) := by rw [w64 (by omega) (by omega)]; omega
theorem wsub1 (n : Nat) (h0 : 0 < n) (h : n < 9223372036854775807) : wrap64 ((n : Int) - 1) = ((n - 1 : Nat) : Int) := by rw [w64 (by omega) (by omega)]; omega
/-- Digits, the highest first, so many. -/
def digs (b : Int) (n : Int) : Nat → List Int
  | 0 => []
  | w + 1 => digs b (n / b) w ++ [n % b]
theorem digs_len (b : Int) : ∀ (w : Nat) (n : Int), (digs b n w).length = w
  | 0, _ => rfl
  | w + 1, n => by unfold digs; rw [List.length_append, digs_len b w]; rfl
def oct (n : Int) (w : Nat) : List Int := (digs 8 n w).map (· + 48)
theorem oct_len (n : Int) (w : Nat) : (oct n w).length = w := by unfold oct; rw [List.length_map, digs_len]
def mostOf (w : Nat) : Int := if w < 1 then 0 else if w > 20 then 9223372036854775807 else 8 ^ w - 1
def fitsB (n : Int) (w : Nat) : Bool := decide (8 < w) || (decide (-(256 ^ (w - 1)) ≤ n) && decide (n < 256 ^ (w - 1)))
def putOf (n : Int) (w : Nat) (wide : Bool) : List Int × Int :=
  if 0 ≤ n ∧ n ≤ mostOf (w - 1) then (oct n (w - 1) ++ [0], 0)
  else if 0 ≤ n ∧ n ≤ mostOf w then (oct n w, 0)
  else if wide = true ∧ fitsB n w = true then ((if n < 0 then 255 else 128) :: digs 256 n (w - 1), 0)
  else ([], 5)
theorem most_fin : ∀ w : Fin 33, num_Most.f ((w.val : Nat) : Int) = some (mostOf w.val) := by decide +kernel
theorem most_eq (w : Nat) (h : w ≤ 32) : num_Most.f (w : Int) = some (mostOf w) := most_fin ⟨w, by omega⟩
theorem and7 (x : Int) : Go.bits .and .i64 x 7 = x % 8 := by
  have h1 : (BitVec.ofInt 64 x).toNat = (x % 18446744073709551616).toNat := by rw [BitVec.toNat_ofInt]; rfl
  have h3 : (BitVec.ofInt 64 x &&& BitVec.ofInt 64 7).toNat = (x % 18446744073709551616).toNat % 8 := by
    rw [BitVec.toNat_and, h1]
    exact Nat.and_two_pow_sub_one_eq_mod _ 3
  show IntKind.i64.wrap ((BitVec.ofInt 64 x &&& BitVec.ofInt 64 7).toNat : Int) = _
  rw [h3, IntKind.wrap_i64]
  omega
theorem set_zero (m : Nat) (B : List Int) (v : Int) : (List.replicate (m + 1) (0 : Int) ++ B).set m v = List.replicate m 0 ++ (v :: B) := by
  rw [List.replicate_succ', List.append_assoc, List.set_append_right _ _ (by rw [List.length_replicate]; exact Nat.le_refl _), List.length_replicate, Nat.sub_self]
  rfl
theorem zeros_len (m : Nat) (B : List Int) : (List.replicate m (0 : Int) ++ B).length = m + B.length := by rw [List.length_append, List.length_replicate]
theorem wpred (m : Nat) (h : m < 9223372036854775807) : wrap64 ((m : Int) - 1) = (m : Int) - 1 := w64 (by omega) (by omega)
theorem octal_l0 : ∀ (m : Nat) (n : Int) (B : List Int), m ≤ 40 → Ev (fun k => num_octal.l0 k n (List.replicate m 0 ++ B) ((m : Int) - 1)) (oct n m ++ B)
  | 0, n, B, hm => by
    refine Ev.step (fun k => num_octal.l0.eq_2 _ _ _ k) ?_
    simp only [if_neg (show ¬ ((0 : Nat) : Int) - 1 ≥ 0 by omega), List.replicate_zero, List.nil_append]
    exact Ev.now _
  | m + 1, n, B, hm => by
    have ih := octal_l0 m (n / 8) ((n % 8 + 48) :: B) (by omega)
    refine Ev.step (fun k => num_octal.l0.eq_2 _ _ _ k) ?_
    have e1 : (((m + 1 : Nat) : Int) - 1) = (m : Int) := by omega
    rw [e1]
    simp only [if_pos (show (m : Int) ≥ 0 by omega), if_pos (show 0 ≤ (m : Int) by omega), zeros_len, if_pos (show (m : Int) < ((m + 1 + B.length : Nat) : Int) by omega), and7, Int.toNat_natCast, set_zero, wpred m (by omega)]
    have e2 : (48 + n % 8 % 256) % 256 = n % 8 + 48 := by omega
    have e3 : oct n (m + 1) ++ B = oct (n / 8) m ++ ((n % 8 + 48) :: B) := by
      unfold oct
      rw [digs, List.map_append, List.append_assoc]
      rfl
    rw [e2, e3]
    exact ih
theorem octal_ev (n : Int) (w : Nat) (h : w ≤ 32) : Ev (fun k => num_octal.f k n (w : Int)) (oct n w) := by
  unfold num_octal.f
  simp only [if_pos (show 0 ≤ (w : Int) by omega), Int.toNat_natCast, if_pos (show w ≤ 281474976710656 by omega), wpred w (by omega)]
  have := octal_l0 w n [] (by omega)
  rw [List.append_nil, List.append_nil] at this
  exact this
theorem fits_eq (n : Int) (w : Nat) (h0 : 2 ≤ w) (h : w ≤ 32) : num_fits.f n (w : Int) = some (fitsB n w) := by
  unfold num_fits.f fitsB
  by_cases h8 : 8 < w
  · rw [if_pos (by omega), decide_eq_true h8, Bool.true_or]
  · rw [if_neg (by omega), decide_eq_false h8, Bool.false_or, wpred w (by omega), w64 (n := 8 * ((w : Int) - 1)) (by omega) (by omega), if_pos (by omega)]
    have key : ∀ P : Int, 0 < P → shr .i64 n (8 * ((w : Int) - 1)) = n / P → (256 : Int) ^ (w - 1) = P → (if shr .i64 n (8 * ((w : Int) - 1)) = 0 then some true else some (shr .i64 n (8 * ((w : Int) - 1)) == (-1))) = some (decide (-(256 ^ (w - 1)) ≤ n) && decide (n < 256 ^ (w - 1))) := by
      intro P hP e1 e2
      rw [e1, e2]
      have hdm := Int.mul_ediv_add_emod n P
      have hm0 := Int.emod_nonneg n (show P ≠ 0 by omega)
      have hm1 := Int.emod_lt_of_pos n hP
      generalize n / P = q at *
      generalize n % P = r at *
      by_cases hq : q = 0
      · subst hq
        rw [if_pos rfl, Int.mul_zero] at *
        simp only [Option.some.injEq]
        symm
        rw [Bool.and_eq_true, decide_eq_true_eq, decide_eq_true_eq]
        omega
      · rw [if_neg hq]
        congr 1
        by_cases hq1 : q = -1
        · subst hq1
          have : P * -1 = -P := by omega
          rw [this] at hdm
          symm
          rw [show ((-1 : Int) == -1) = true from rfl, Bool.and_eq_true, decide_eq_true_eq, decide_eq_true_eq]
          omega
        · have : (q == -1) = false := beq_eq_false_iff_ne.2 hq1
          rw [this]
          symm
          rw [Bool.and_eq_false_iff, decide_eq_false_iff_not, decide_eq_false_iff_not]
          rcases (show q < 0 ∨ 0 ≤ q by omega) with hneg | hpos
          · left
            have : P * q ≤ P * -2 := Int.mul_le_mul_of_nonneg_left (by omega) (by omega)
            omega
          · right
            have : P * 1 ≤ P * q := Int.mul_le_mul_of_nonneg_left (by omega) (by omega)
            omega
    have hw : w = 2 ∨ w = 3 ∨ w = 4 ∨ w = 5 ∨ w = 6 ∨ w = 7 ∨ w = 8 := by omega
    rcases hw with rfl | rfl | rfl | rfl | rfl | rfl | rfl
    · exact key 256 (by omega) rfl rfl
    · exact key 65536 (by omega) rfl rfl
    · exact key 16777216 (by omega) rfl rfl
    · exact key 4294967296 (by omega) rfl rfl
    · exact key 1099511627776 (by omega) rfl rfl
    · exact key 281474976710656 (by omega) rfl rfl
    · exact key 72057594037927936 (by omega) rfl rfl
theorem put_l0 : ∀ (m : Nat) (n : Int) (B : List Int), m ≤ 40 → Ev (fun k => num_Put.l0 k n (0 :: (List.replicate m 0 ++ B)) (m : Int)) ((if n < 0 then 255 else 128) :: (digs 256 n m ++ B), 0)
  | 0, n, B, hm => by
    refine Ev.step (fun k => num_Put.l0.eq_2 _ _ _ k) ?_
    simp only [if_neg (show ¬ ((0 : Nat) : Int) > 0 by omega), List.replicate_zero, List.nil_append, if_pos (show (0 : Int) < ((0 :: B : List Int).length : Int) by rw [List.length_cons]; omega), Option.bind_some, Int.toNat_zero, List.set_cons_zero, digs]
    by_cases hn : n < 0
    · simp only [if_pos hn]; exact Ev.now _
    · simp only [if_neg hn]; exact Ev.now _
  | m + 1, n, B, hm => by
    have ih := put_l0 m (n / 256) ((n % 256) :: B) (by omega)
    refine Ev.step (fun k => num_Put.l0.eq_2 _ _ _ k) ?_
    have hl : (0 :: (List.replicate (m + 1) (0 : Int) ++ B)).length = m + 2 + B.length := by rw [List.length_cons, zeros_len]; omega
    have e4 : wrap64 (((m + 1 : Nat) : Int) - 1) = (m : Int) := by rw [w64 (by omega) (by omega)]; omega
    simp only [if_pos (show ((m + 1 : Nat) : Int) > 0 by omega), if_pos (show 0 ≤ ((m + 1 : Nat) : Int) by omega), hl, if_pos (show ((m + 1 : Nat) : Int) < ((m + 2 + B.length : Nat) : Int) by omega), Int.toNat_natCast, List.set_cons_succ, set_zero, e4]
    have e1 : (if n / 256 < 0 then (255 : Int) else 128) = if n < 0 then 255 else 128 := by
      by_cases hn : n < 0
      · rw [if_pos hn, if_pos (by omega)]
      · rw [if_neg hn, if_neg (by omega)]
    have e3 : digs 256 n (m + 1) ++ B = digs 256 (n / 256) m ++ ((n % 256) :: B) := by
      rw [digs, List.append_assoc]
      rfl
    rw [e1] at ih
    rw [e3]
    exact ih
theorem put_ev (n : Int) (w : Nat) (wide : Bool) (h0 : 2 ≤ w) (h : w ≤ 32) : Ev (fun k => num_Put.f k n (w : Int) wide) (putOf n w wide) := by
  have hp : wrap64 ((w : Int) - 1) = ((w - 1 : Nat) : Int) := wsub1 w (by omega) (by omega)
  have h2 : Ev (fun k => num_Put.j2 k n (w : Int) wide false) (if wide = true ∧ fitsB n w = true then ((if n < 0 then 255 else 128) :: digs 256 n (w - 1), 0) else ([], 5)) := by
    refine Ev.step (fun k => num_Put.j2.eq_2 _ _ _ _ k) ?_
    simp only [if_neg Bool.false_ne_true]
    cases wide with
    | false =>
      simp only [if_neg Bool.false_ne_true, false_and, if_false, Bool.false_eq_true]
      exact Ev.now _
    | true =>
      simp only [if_true, fits_eq n w h0 h, Option.bind_some, true_and]
      cases hf : fitsB n w with
      | false =>
        simp only [if_neg Bool.false_ne_true]
        exact Ev.now _
      | true =>
        simp only [if_true, if_pos (show 0 ≤ (w : Int) by omega), Int.toNat_natCast, if_pos (show w ≤ 281474976710656 by omega), hp]
        have := put_l0 (w - 1) n [] (by omega)
        rw [List.append_nil, List.append_nil, ← List.replicate_succ, show w - 1 + 1 = w by omega] at this
        exact this
  have h1 : Ev (fun k => num_Put.j1 k n (w : Int) wide false) (if 0 ≤ n ∧ n ≤ mostOf w then (oct n w, 0) else if wide = true ∧ fitsB n w = true then ((if n < 0 then 255 else 128) :: digs 256 n (w - 1), 0) else ([], 5)) := by
    refine Ev.step (fun k => num_Put.j1.eq_2 _ _ _ _ k) ?_
    simp only [if_neg Bool.false_ne_true]
    by_cases hn : 0 ≤ n
    · simp only [if_pos (show n ≥ 0 from hn), most_eq w h, Option.bind_some]
      by_cases hm : n ≤ mostOf w
      · simp only [decide_eq_true hm, if_pos (show 0 ≤ n ∧ n ≤ mostOf w from ⟨hn, hm⟩)]
        refine Ev.step (fun k => num_Put.j2.eq_2 _ _ _ _ k) ?_
        simp only [if_true]
        refine Ev.bind (octal_ev n w h) ?_
        exact Ev.now _
      · simp only [decide_eq_false hm, if_neg (show ¬ (0 ≤ n ∧ n ≤ mostOf w) from fun x => hm x.2)]
        exact h2
    · simp only [if_neg (show ¬ n ≥ 0 from hn), if_neg (show ¬ (0 ≤ n ∧ n ≤ mostOf w) from fun x => hn x.1)]
      exact h2
  unfold num_Put.f putOf
  simp only [if_neg (show ¬ (w : Int) < 2 by omega), decide_eq_false (show ¬ (w : Int) > 32 by omega)]
  refine Ev.step (fun k => num_Put.j0.eq_2 _ _ _ _ k) ?_
  simp only [if_neg Bool.false_ne_true, hp]
  by_cases hn : 0 ≤ n
  · simp only [if_pos (show n ≥ 0 from hn), most_eq (w - 1) (by omega), Option.bind_some]
    by_cases hm : n ≤ mostOf (w - 1)
    · simp only [decide_eq_true hm, if_pos (show 0 ≤ n ∧ n ≤ mostOf (w - 1) from ⟨hn, hm⟩)]
      refine Ev.step (fun k => num_Put.j1.eq_2 _ _ _ _ k) ?_
      simp only [if_true, hp]
      refine Ev.bind (octal_ev n (w - 1) (by omega)) ?_
      simp only [oct_len, if_pos (show w - 1 < 140737488355328 by omega)]
      exact Ev.now _
    · simp only [decide_eq_false hm, if_neg (show ¬ (0 ≤ n ∧ n ≤ mostOf (w - 1)) from fun x => hm x.2)]
      exact h1
  · simp only [if_neg (show ¬ n ≥ 0 from hn), if_neg (show ¬ (0 ≤ n ∧ n ≤ mostOf (w - 1)) from fun x => hn x.1)]
    exact h1
theorem put_no (n w : Int) (wide : Bool) (h : w < 2 ∨ 32 < w) : Ev (fun k => num_Put.f k n w wide) ([], 2) := by
  unfold num_Put.f
  have e : ∀ b : Bool, b = true → Ev (fun k => num_Put.j0 k n w wide b) ([], 2) := by
    intro b hb
    subst hb
    refine Ev.step (fun k => num_Put.j0.eq_2 _ _ _ _ k) ?_
    simp only [if_true]
    exact Ev.now _
  by_cases h2 : w < 2
  · simp only [if_pos h2]; exact e true rfl
  · simp only [if_neg h2]; exact e _ (decide_eq_true (by omega))
end Go.Proofs.YtkcgioggnbnfkaaDoor.NumP
/- The number of any bytes as a field: over numbers and lists alone. -/
set_option linter.unusedVariables false
set_option linter.unusedSimpArgs false
namespace Go.Proofs.YtkcgioggnbnfkaaDoor.NumG
open Go.RowKit Go.Proofs.YtkcgioggnbnfkaaDoorW.PrintWords Go.Proofs.YtkcgioggnbnfkaaDoorW.PrintLast Go.Proofs.YtkcgioggnbnfkaaDoorW.PrintMore Go.Proofs.YtkcgioggnbnfkaaDoor.PVolumeJoins Go.Proofs.YtkcgioggnbnfkaaDoor.NumP
theorem rd_drop (l : List Int) (i : Nat) (h : i < l.length) : l.drop i = rd l (i : Int) :: l.drop (i + 1) := by
  rw [List.drop_eq_getElem_cons h]
  congr 1
  unfold rd
  rw [Int.toNat_natCast, List.getD_eq_getElem?_getD, List.getElem?_eq_getElem h]
  rfl
theorem octal_eq (l : List Int) (h : ∀ x ∈ l, 0 ≤ x ∧ x ≤ 255) : num_Octal.f l = some (Go.Proofs.YtkcgioggnbnfkaaDoor.Hand.octAt 0 (l.dropWhile (fun x => decide (x = 32)))) := by
  unfold num_Octal.f
  rw [if_pos]
  rw [List.all_eq_true]
  intro x hx
  have := h x hx
  simp only [Bool.and_eq_true, decide_eq_true_eq]
  omega
theorem w48 {a : Int} (h0 : 0 ≤ a - 48) (h1 : a - 48 ≤ 9223372036854775807) : wrap64 (wrap64 a - 48) = a - 48 := by unfold wrap64; omega
/-- A digit, or its other side. -/
def comp (neg : Bool) (c : Int) : Int := if neg = true then 255 - c else c
def val (neg : Bool) (n : Int) : List Int → Int
  | [] => n
  | c :: r => val neg (256 * n + comp neg c) r
theorem comp_bd (neg : Bool) (c : Int) (h : 0 ≤ c ∧ c ≤ 255) : 0 ≤ comp neg c ∧ comp neg c ≤ 255 := by
  unfold comp; split <;> omega
theorem pow256 (a b : Nat) (h : a ≤ b) : (256 : Int) ^ a ≤ 256 ^ b := by
  obtain ⟨d, rfl⟩ : ∃ d, b = a + d := ⟨b - a, by omega⟩
  rw [Int.pow_add]
  have h1 : (0 : Int) < 256 ^ d := Int.pow_pos (by omega)
  have h2 : (0 : Int) ≤ 256 ^ a := Int.pow_nonneg (by omega)
  have h3 : (256 : Int) ^ a * 1 ≤ 256 ^ a * 256 ^ d := Int.mul_le_mul_of_nonneg_left (by omega) h2
  rwa [Int.mul_one] at h3
theorem val_ge (neg : Bool) : ∀ (l : List Int), (∀ x ∈ l, 0 ≤ x ∧ x ≤ 255) → ∀ n, 0 ≤ n → n * 256 ^ l.length ≤ val neg n l
  | [], _, n, h0 => by simp [val]
  | c :: r, h, n, h0 => by
    have hc := comp_bd neg c (h c List.mem_cons_self)
    have ih := val_ge neg r (fun x hx => h x (List.mem_cons_of_mem _ hx)) (256 * n + comp neg c) (by omega)
    unfold val
    refine Int.le_trans ?_ ih
    rw [List.length_cons, Int.pow_succ, show n * (256 ^ r.length * 256) = (256 * n) * 256 ^ r.length by rw [Int.mul_comm (256 ^ r.length) 256, ← Int.mul_assoc, Int.mul_comm n 256]]
    exact Int.mul_le_mul_of_nonneg_right (by omega) (Int.pow_nonneg (by omega))
theorem val_lt (neg : Bool) : ∀ (l : List Int), (∀ x ∈ l, 0 ≤ x ∧ x ≤ 255) → ∀ n, 0 ≤ n → val neg n l < (n + 1) * 256 ^ l.length
  | [], _, n, h0 => by simp [val]; omega
  | c :: r, h, n, h0 => by
    have hc := comp_bd neg c (h c List.mem_cons_self)
    have ih := val_lt neg r (fun x hx => h x (List.mem_cons_of_mem _ hx)) (256 * n + comp neg c) (by omega)
    unfold val
    refine Int.lt_of_lt_of_le ih ?_
    rw [List.length_cons, Int.pow_succ, show (n + 1) * (256 ^ r.length * 256) = (256 * (n + 1)) * 256 ^ r.length by rw [Int.mul_comm (256 ^ r.length) 256, ← Int.mul_assoc, Int.mul_comm (n + 1) 256]]
    exact Int.mul_le_mul_of_nonneg_right (by omega) (Int.pow_nonneg (by omega))
theorem val_self (neg : Bool) (l : List Int) (h : ∀ x ∈ l, 0 ≤ x ∧ x ≤ 255) (n : Int) (h0 : 0 ≤ n) : n ≤ val neg n l := by
  have h1 := val_ge neg l h n h0
  have h2 : (1 : Int) ≤ 256 ^ l.length := by
    have : (0 : Int) < 256 ^ l.length := Int.pow_pos (by omega)
    omega
  have h3 : n * 1 ≤ n * 256 ^ l.length := Int.mul_le_mul_of_nonneg_left h2 h0
  omega
/-- The number that the digits tell, and whether it fits. -/
def wideOf (neg : Bool) (v : Int) : Int × Int := if v < 9223372036854775808 then (if neg = true then -v - 1 else v, 0) else (0, 5)
/-- What the code carries: the number, or its other side, of 64 bits. -/
def carry (neg : Bool) (m : Int) : Int := if neg = true then 18446744073709551615 - m else m
theorem or_byte (x c : Int) (h0 : 0 ≤ x) (hc : 0 ≤ c ∧ c ≤ 255) : Go.bits .or .u64 (IntKind.u64.wrap (x * 256)) (IntKind.u64.wrap c) = x * 256 % 18446744073709551616 + c := by
  rw [IntKind.wrap_u64, IntKind.wrap_u64]
  obtain ⟨a, rfl⟩ := Int.eq_ofNat_of_zero_le h0
  obtain ⟨b, rfl⟩ := Int.eq_ofNat_of_zero_le hc.1
  rw [show ((b : Int)) % 18446744073709551616 = (b : Int) by omega]
  have hq : ((a : Int) * 256) % 18446744073709551616 = ((2 ^ 8 * (a % 72057594037927936) : Nat) : Int) := by omega
  rw [hq, Go.u64_or_nat _ _ (by omega) (by omega), ← Nat.two_pow_add_eq_or_of_lt (show b < 2 ^ 8 by omega)]
  omega
theorem wide_l1 (neg : Bool) (l : List Int) (hl : l.length ≤ 2000) (hb : ∀ x ∈ l, 0 ≤ x ∧ x ≤ 255) : ∀ (d i : Nat) (m : Int), i + d = l.length → 0 ≤ m → val neg m (l.drop i) < 9223372036854775808 →
    Ev (fun k => num_Wide.l1 k (carry neg m) l (l.length : Int) (i : Int)) (wideOf neg (val neg m (l.drop i)))
  | 0, i, m, hd, h0, hv => by
    refine Ev.step (fun k => num_Wide.l1.eq_2 (carry neg m) l (l.length : Int) (i : Int) k) ?_
    have hnil : l.drop i = [] := List.drop_eq_nil_of_le (by omega)
    rw [hnil] at hv ⊢
    simp only [if_neg (show ¬ (i : Int) < (l.length : Int) by omega)]
    unfold wideOf
    rw [if_pos hv]
    unfold val at hv ⊢
    have : wrap64 (carry neg m) = if neg = true then -m - 1 else m := by
      unfold carry
      cases neg
      · simp only [if_neg Bool.false_ne_true]; exact w64 (by omega) (by omega)
      · simp only [if_true]; unfold wrap64; omega
    rw [this]
    exact Ev.now _
  | d + 1, i, m, hd, h0, hv => by
    have ih := wide_l1 neg l hl hb d (i + 1)
    have hmem : rd l (i : Int) ∈ l := List.mem_of_mem_drop (i := i) (by rw [rd_drop l i (by omega)]; exact List.mem_cons_self)
    have hx := hb _ hmem
    have e : val neg m (l.drop i) = val neg (256 * m + comp neg (rd l (i : Int))) (l.drop (i + 1)) := by rw [rd_drop l i (by omega), val]
    rw [e] at hv ⊢
    have hcb := comp_bd neg _ hx
    have hself := val_self neg (l.drop (i + 1)) (fun y hy => hb y (List.mem_of_mem_drop hy)) (256 * m + comp neg (rd l (i : Int))) (by omega)
    refine Ev.step (fun k => num_Wide.l1.eq_2 (carry neg m) l (l.length : Int) (i : Int) k) ?_
    simp only [if_pos (show (i : Int) < (l.length : Int) by omega), if_pos (show 0 ≤ (i : Int) by omega), wadd1 i (by omega)]
    clear hmem e
    generalize rd l (i : Int) = x at hx hcb hv hself ⊢
    have hcr : Go.bits .or .u64 (IntKind.u64.wrap (carry neg m * 256)) (IntKind.u64.wrap x) = carry neg (256 * m + comp neg x) := by
      have hc0 : 0 ≤ carry neg m := by unfold carry; split <;> omega
      rw [or_byte _ _ hc0 hx]
      cases neg
      · simp only [carry, comp, if_neg Bool.false_ne_true] at hself hv hcb ⊢; omega
      · simp only [carry, comp, if_true] at hself hv hcb ⊢; omega
    rw [hcr]
    exact ih _ (by omega) (by omega) hv
theorem wide_l0 (neg : Bool) : ∀ (l : List Int), l.length ≤ 2000 → (∀ x ∈ l, 0 ≤ x ∧ x ≤ 255) → Ev (fun k => num_Wide.l0 k (if neg = true then 255 else 0) (carry neg 0) l) (wideOf neg (val neg 0 l))
  | [], hl, hb => by
    refine Ev.step (fun k => num_Wide.l0.eq_2 _ _ _ k) ?_
    simp only [List.length_nil, if_neg (show ¬ ((0 : Nat) : Int) > 8 by omega), if_neg (show ¬ ((0 : Nat) : Int) = 8 by omega)]
    refine Ev.step (fun k => num_Wide.j4.eq_2 _ _ _ k) ?_
    simp only [if_neg Bool.false_ne_true]
    exact wide_l1 neg [] (by simp) hb 0 0 0 rfl (by omega) (by simp [val])
  | c :: r, hl, hb => by
    have ih := wide_l0 neg r (by simp at hl; omega) (fun x hx => hb x (List.mem_cons_of_mem _ hx))
    have hc := hb c List.mem_cons_self
    have hcb := comp_bd neg c hc
    have hr : ∀ x ∈ r, 0 ≤ x ∧ x ≤ 255 := fun x hx => hb x (List.mem_cons_of_mem _ hx)
    have hv : val neg 0 (c :: r) = val neg (comp neg c) r := by rw [val, Int.mul_zero, Int.zero_add]
    have hrd : rd (c :: r) 0 = c := rfl
    have hlen : (c :: r).length = r.length + 1 := rfl
    obtain ⟨fill, hfill⟩ : ∃ f : Int, f = if neg = true then 255 else 0 := ⟨_, rfl⟩
    rw [← hfill] at ih ⊢
    refine Ev.step (fun k => num_Wide.l0.eq_2 _ _ _ k) ?_
    simp only [hrd, hlen, if_pos (show (0 : Int) < ((r.length + 1 : Nat) : Int) by omega), if_pos (show (1 : Int) ≤ ((r.length + 1 : Nat) : Int) by omega), List.drop_succ_cons, List.drop_zero]
    have hl1 : ∀ h : val neg 0 (c :: r) < 9223372036854775808, Ev (fun k => num_Wide.j4 k (carry neg 0) (c :: r) false) (wideOf neg (val neg 0 (c :: r))) := by
      intro h
      refine Ev.step (fun k => num_Wide.j4.eq_2 _ _ _ k) ?_
      simp only [if_neg Bool.false_ne_true]
      exact wide_l1 neg (c :: r) hl hb (c :: r).length 0 0 (by omega) (by omega) h
    by_cases h8 : 8 < r.length + 1
    · simp only [if_pos (show ((r.length + 1 : Nat) : Int) > 8 by omega)]
      by_cases hz : c = fill
      · simp only [if_pos hz]
        have : comp neg c = 0 := by rw [hz, hfill]; unfold comp; cases neg <;> rfl
        rw [hv, this]
        exact ih
      · simp only [if_neg hz]
        have hne : 1 ≤ comp neg c := by
          unfold comp at hcb ⊢
          cases neg
          · simp only [if_neg Bool.false_ne_true] at hfill hcb ⊢; omega
          · simp only [if_true] at hfill hcb ⊢; omega
        have hg := val_ge neg r hr (comp neg c) (by omega)
        have hp : (256 : Int) ^ 8 ≤ 256 ^ r.length := by
          exact pow256 _ _ (by omega)
        have hq : 1 * (256 : Int) ^ 8 ≤ comp neg c * 256 ^ r.length := Int.mul_le_mul hne hp (by omega) (by omega)
        have : wideOf neg (val neg 0 (c :: r)) = (0, 5) := by
          unfold wideOf
          rw [hv, if_neg (by omega)]
        rw [this]
        exact Ev.now _
    · simp only [if_neg (show ¬ ((r.length + 1 : Nat) : Int) > 8 by omega)]
      by_cases h7 : r.length + 1 = 8
      · have hr7 : r.length = 7 := by omega
        simp only [if_pos (show ((r.length + 1 : Nat) : Int) = 8 by omega)]
        by_cases hs : comp neg c < 128
        · have : (c / 128 != fill / 128) = false := by
            unfold comp at hs hcb
            cases neg
            · simp only [if_neg Bool.false_ne_true] at hs hcb hfill; subst hfill; simp; omega
            · simp only [if_true] at hs hcb hfill; subst hfill; simp; omega
          rw [this]
          refine hl1 ?_
          have hlt := val_lt neg r hr (comp neg c) (by omega)
          rw [hr7] at hlt
          rw [hv]
          omega
        · have : (c / 128 != fill / 128) = true := by
            unfold comp at hs hcb
            cases neg
            · simp only [if_neg Bool.false_ne_true] at hs hcb hfill; subst hfill; simp; omega
            · simp only [if_true] at hs hcb hfill; subst hfill; simp; omega
          rw [this]
          refine Ev.step (fun k => num_Wide.j4.eq_2 _ _ _ k) ?_
          simp only [if_true]
          have hg := val_ge neg r hr (comp neg c) (by omega)
          rw [hr7] at hg
          have : wideOf neg (val neg 0 (c :: r)) = (0, 5) := by
            unfold wideOf
            rw [hv, if_neg (by omega)]
          rw [this]
          exact Ev.now _
      · simp only [if_neg (show ¬ ((r.length + 1 : Nat) : Int) = 8 by omega)]
        refine hl1 ?_
        have hlt := val_lt neg r hr (comp neg c) (by omega)
        have hp : (256 : Int) ^ r.length ≤ 256 ^ 6 := by
          exact pow256 _ _ (by omega)
        have hq : (comp neg c + 1) * (256 : Int) ^ r.length ≤ (comp neg c + 1) * 256 ^ 6 := Int.mul_le_mul_of_nonneg_left hp (by omega)
        rw [hv]
        omega
theorem octAt_digs : ∀ (w : Nat) (n m : Int) (t : List Int), 0 ≤ n → 0 ≤ m → m * 8 ^ w + n % 8 ^ w ≤ 9223372036854775807 → Go.Proofs.YtkcgioggnbnfkaaDoor.Hand.octAt m (oct n w ++ t) = Go.Proofs.YtkcgioggnbnfkaaDoor.Hand.octAt (m * 8 ^ w + n % 8 ^ w) t
  | 0, n, m, t, h0, hm, hb => by
    have : m * 8 ^ 0 + n % 8 ^ 0 = m := by rw [Int.pow_zero, Int.mul_one, Int.emod_one, Int.add_zero]
    rw [this]
    rfl
  | w + 1, n, m, t, h0, hm, hb => by
    have hP : (0 : Int) < 8 ^ w := Int.pow_pos (by omega)
    have e1 : n % 8 ^ (w + 1) = 8 * ((n / 8) % 8 ^ w) + n % 8 := by
      rw [Int.pow_succ, Int.mul_comm]
      have h1 := Int.mul_ediv_add_emod n 8
      have h2 := Int.mul_ediv_add_emod (n / 8) (8 ^ w)
      have h3 := Int.emod_nonneg (n / 8) (show (8 : Int) ^ w ≠ 0 by omega)
      have h4 := Int.emod_lt_of_pos (n / 8) hP
      have h5 := Int.emod_nonneg n (show (8 : Int) ≠ 0 by omega)
      have h6 := Int.emod_lt_of_pos n (show (0 : Int) < 8 by omega)
      have h7 : n = (8 * ((n / 8) % 8 ^ w) + n % 8) + (8 * 8 ^ w) * (n / 8 / 8 ^ w) := by
        rw [Int.mul_assoc]
        generalize 8 ^ w * (n / 8 / 8 ^ w) = Y at *
        omega
      have h8 : (8 * ((n / 8) % 8 ^ w) + n % 8) % (8 * 8 ^ w) = 8 * ((n / 8) % 8 ^ w) + n % 8 := Int.emod_eq_of_lt (by omega) (by omega)
      conv => lhs; rw [h7]
      rw [Int.add_mul_emod_self_left, h8]
    have e2 : m * 8 ^ (w + 1) = 8 * (m * 8 ^ w) := by rw [Int.pow_succ, ← Int.mul_assoc, Int.mul_comm]
    rw [e1, e2] at hb ⊢
    have h3 := Int.emod_nonneg (n / 8) (show (8 : Int) ^ w ≠ 0 by omega)
    have h5 := Int.emod_nonneg n (show (8 : Int) ≠ 0 by omega)
    have h6 := Int.emod_lt_of_pos n (show (0 : Int) < 8 by omega)
    have hm0 : 0 ≤ m * 8 ^ w := Int.mul_nonneg hm (by omega)
    have ih := octAt_digs w (n / 8) m ([n % 8 + 48] ++ t) (by omega) hm (by omega)
    have e3 : oct n (w + 1) ++ t = oct (n / 8) w ++ ([n % 8 + 48] ++ t) := by
      unfold oct
      rw [digs, List.map_append, List.append_assoc]
      rfl
    rw [e3, ih, List.singleton_append]
    conv => lhs; unfold Go.Proofs.YtkcgioggnbnfkaaDoor.Hand.octAt
    rw [if_pos (by omega), if_neg (by omega)]
    congr 1
    omega
theorem digs_bd (b : Int) (hb : 2 ≤ b) : ∀ (w : Nat) (n : Int), ∀ x ∈ digs b n w, 0 ≤ x ∧ x < b
  | 0, n, x, h => by simp [digs] at h
  | w + 1, n, x, h => by
    unfold digs at h
    rcases List.mem_append.1 h with h | h
    · exact digs_bd b hb w _ x h
    · rw [List.mem_singleton] at h
      subst h
      exact ⟨Int.emod_nonneg n (by omega), Int.emod_lt_of_pos n (by omega)⟩
theorem most_lt : ∀ w : Fin 33, mostOf w.val < 8 ^ w.val ∧ mostOf w.val ≤ 9223372036854775807 := by decide +kernel
theorem get_oct (n : Int) (w : Nat) (t : List Int) (ht : t = [] ∨ t = [0]) (h1 : 1 ≤ w) (h : w ≤ 32) (h0 : 0 ≤ n) (hm : n ≤ mostOf w) : Ev (fun k => num_Get.f k (oct n w ++ t)) (n, 0) := by
  have hml : mostOf w < 8 ^ w ∧ mostOf w ≤ 9223372036854775807 := most_lt ⟨w, by omega⟩
  have hr : ∀ x ∈ oct n w, 48 ≤ x ∧ x ≤ 55 := by
    intro x hx
    unfold oct at hx
    obtain ⟨y, hy, rfl⟩ := List.mem_map.1 hx
    have := digs_bd 8 (by omega) w n y hy
    omega
  have hlen : 0 < (oct n w ++ t).length := by rw [List.length_append, oct_len]; omega
  obtain ⟨x, r, hxr⟩ : ∃ x r, oct n w = x :: r := by
    match h : oct n w with
    | [] => have := oct_len n w; rw [h] at this; simp at this; omega
    | x :: r => exact ⟨x, r, rfl⟩
  have hx := hr x (by rw [hxr]; exact List.mem_cons_self)
  have hall : ∀ y ∈ oct n w ++ t, 0 ≤ y ∧ y ≤ 255 := by
    intro y hy
    rcases List.mem_append.1 hy with hy | hy
    · have := hr y hy; omega
    · rcases ht with rfl | rfl
      · simp at hy
      · simp at hy; omega
  have hrd : rd (oct n w ++ t) 0 = x := by rw [hxr]; rfl
  have hdrop : (oct n w ++ t).dropWhile (fun x => decide (x = 32)) = oct n w ++ t := by
    rw [hxr, List.cons_append, List.dropWhile_cons, if_neg (by simp; omega)]
  have hfin : Go.Proofs.YtkcgioggnbnfkaaDoor.Hand.octAt 0 (oct n w ++ t) = (n, 0) := by
    have hmod : n % 8 ^ w = n := Int.emod_eq_of_lt h0 (by omega)
    have := octAt_digs w n 0 t h0 (by omega) (by rw [Int.zero_mul, Int.zero_add, hmod]; omega)
    rw [Int.zero_mul, Int.zero_add, hmod] at this
    rw [this]
    rcases ht with rfl | rfl
    · rfl
    · rfl
  have hf : num_Octal.f (oct n w ++ t) = some (n, 0) := by rw [octal_eq _ hall, hdrop, hfin]
  unfold num_Get.f
  simp only [if_pos (show ((oct n w ++ t).length : Int) > 0 by omega), hrd, decide_eq_false (show ¬ x ≥ 128 by omega)]
  refine Ev.step (fun k => num_Get.j0.eq_2 _ _ k) ?_
  simp only [if_neg Bool.false_ne_true, hf, Option.bind_some]
  exact Ev.now _
theorem ev_one {α : Type} {g : Nat → Option α} {a b : α} (h : Ev g a) (k : Ev g b) : a = b := by
  obtain ⟨K, h⟩ := h
  obtain ⟨L, k⟩ := k
  have := (h (K + L) (by omega)).symm.trans (k (K + L) (by omega))
  exact Option.some.inj this
theorem wide_some (l : List Int) (hl : l.length ≤ 2000) (hb : ∀ x ∈ l, 0 ≤ x ∧ x ≤ 255) : ∃ p : Int × Int, Ev (fun k => num_Wide.f k l) p := by
  have hno : ∀ b : Bool, b = true → Ev (fun k => num_Wide.j0 k l b) (0, 5) := by
    intro b e
    subst e
    refine Ev.step (fun k => num_Wide.j0.eq_2 _ _ k) ?_
    simp only [if_true]
    exact Ev.now _
  by_cases h2 : l.length < 2
  · refine ⟨(0, 5), ?_⟩
    unfold num_Wide.f
    simp only [if_pos (show (l.length : Int) < 2 by omega)]
    exact hno true rfl
  have hgo : ∀ neg : Bool, rd l 0 = (if neg = true then 255 else 128) → Ev (fun k => num_Wide.j0 k l false) (wideOf neg (val neg 0 (l.drop 1))) := by
    intro neg hf
    have h0 := wide_l0 neg (l.drop 1) (by rw [List.length_drop]; omega) (fun x hx => hb x (List.mem_of_mem_drop hx))
    refine Ev.step (fun k => num_Wide.j0.eq_2 _ _ k) ?_
    simp only [if_neg Bool.false_ne_true, if_pos (show 0 < (l.length : Int) by omega), hf]
    cases neg with
    | true =>
      simp only [if_true]
      refine Ev.step (fun k => num_Wide.j1.eq_2 _ _ k) ?_
      simp only [if_neg (show ¬ (255 : Int) = 0 by decide)]
      refine Ev.step (fun k => num_Wide.j2.eq_2 _ _ _ k) ?_
      simp only [if_pos (show 1 ≤ (l.length : Int) by omega)]
      exact h0
    | false =>
      simp only [if_neg Bool.false_ne_true, if_neg (show ¬ (128 : Int) = 255 by decide)]
      refine Ev.step (fun k => num_Wide.j1.eq_2 _ _ k) ?_
      simp only [if_true]
      refine Ev.step (fun k => num_Wide.j2.eq_2 _ _ _ k) ?_
      simp only [if_pos (show 1 ≤ (l.length : Int) by omega)]
      exact h0
  by_cases h128 : rd l 0 = 128
  · refine ⟨wideOf false (val false 0 (l.drop 1)), ?_⟩
    unfold num_Wide.f
    simp only [if_neg (show ¬ (l.length : Int) < 2 by omega), if_pos (show 0 < (l.length : Int) by omega), if_pos h128]
    exact hgo false (by rw [h128]; rfl)
  · by_cases h255 : rd l 0 = 255
    · have hb1 : (rd l 0 != 255) = false := by simp [h255]
      refine ⟨wideOf true (val true 0 (l.drop 1)), ?_⟩
      unfold num_Wide.f
      simp only [if_neg (show ¬ (l.length : Int) < 2 by omega), if_pos (show 0 < (l.length : Int) by omega), if_neg h128, hb1]
      exact hgo true (by rw [h255]; rfl)
    · have hb1 : (rd l 0 != 255) = true := by simp [h255]
      refine ⟨(0, 5), ?_⟩
      unfold num_Wide.f
      simp only [if_neg (show ¬ (l.length : Int) < 2 by omega), if_pos (show 0 < (l.length : Int) by omega), if_neg h128, hb1]
      exact hno true rfl
theorem get_some (l0 : List Int) (hl : l0.length ≤ 2000) (hb : ∀ x ∈ l0, 0 ≤ x ∧ x ≤ 255) : ∃ q : Int × Int, Ev (fun k => num_Get.f k l0) q := by
  obtain ⟨p, e1⟩ := wide_some l0 hl hb
  have hoe := octal_eq l0 hb
  have hwide : Ev (fun k => num_Get.j0 k l0 true) p := by
    refine Ev.step (fun k => num_Get.j0.eq_2 _ _ k) ?_
    simp only [if_true]
    refine Ev.bind e1 ?_
    exact Ev.now _
  have hoct : Ev (fun k => num_Get.j0 k l0 false) (Go.Proofs.YtkcgioggnbnfkaaDoor.Hand.octAt 0 (l0.dropWhile (fun x => decide (x = 32)))) := by
    refine Ev.step (fun k => num_Get.j0.eq_2 _ _ k) ?_
    simp only [if_neg Bool.false_ne_true, hoe, Option.bind_some]
    exact Ev.now _
  unfold num_Get.f
  by_cases h0 : 0 < l0.length
  · simp only [if_pos (show (l0.length : Int) > 0 by omega)]
    by_cases h128 : rd l0 0 ≥ 128
    · simp only [decide_eq_true h128]
      exact ⟨p, hwide⟩
    · simp only [decide_eq_false h128]
      exact ⟨_, hoct⟩
  · simp only [if_neg (show ¬ (l0.length : Int) > 0 by omega)]
    exact ⟨_, hoct⟩
open Classical in
/-- The number of a field, and its code. -/
noncomputable def getOf (l : List Int) : Int × Int := if h : ∃ q : Int × Int, Ev (fun k => num_Get.f k l) q then Classical.choose h else (0, 0)
theorem get_ev (l : List Int) (hl : l.length ≤ 2000) (hb : ∀ x ∈ l, 0 ≤ x ∧ x ≤ 255) : Ev (fun k => num_Get.f k l) (getOf l) := by
  have h := get_some l hl hb
  unfold getOf
  rw [dif_pos h]
  exact Classical.choose_spec h
def put12 (n : Int) : List Int := (putOf n 12 false).1
def fits12 (n : Int) : Bool := decide (0 ≤ n) && decide (n ≤ 68719476735)
theorem most12 : mostOf 12 = 68719476735 := by decide
theorem most11 : mostOf 11 = 8589934591 := by decide
theorem put12_code (n : Int) : (putOf n 12 false).2 = if fits12 n = true then 0 else 5 := by
  unfold putOf fits12
  rw [show 12 - 1 = 11 from rfl, most12, most11]
  by_cases h0 : 0 ≤ n
  · by_cases h1 : n ≤ 8589934591
    · rw [if_pos ⟨h0, h1⟩, if_pos (by simp; omega)]
    · rw [if_neg (by omega)]
      by_cases h2 : n ≤ 68719476735
      · rw [if_pos ⟨h0, h2⟩, if_pos (by simp; omega)]
      · rw [if_neg (by omega), if_neg (by simp), if_neg (by simp; omega)]
  · rw [if_neg (by omega), if_neg (by omega), if_neg (by simp), if_neg (by simp; omega)]
theorem put12_form (n : Int) (h : fits12 n = true) : put12 n = oct n 11 ++ [0] ∨ put12 n = oct n 12 := by
  unfold fits12 at h
  simp at h
  unfold put12 putOf
  rw [show 12 - 1 = 11 from rfl, most12, most11]
  by_cases h1 : n ≤ 8589934591
  · rw [if_pos ⟨h.1, h1⟩]; exact .inl rfl
  · rw [if_neg (by omega), if_pos ⟨h.1, h.2⟩]; exact .inr rfl
theorem put12_len (n : Int) (h : fits12 n = true) : (put12 n).length = 12 := by
  rcases put12_form n h with e | e <;> rw [e]
  · rw [List.length_append, oct_len]; rfl
  · rw [oct_len]
theorem put12_bd (n : Int) (h : fits12 n = true) : ∀ x ∈ put12 n, 0 ≤ x ∧ x ≤ 255 := by
  have hr : ∀ w, ∀ x ∈ oct n w, 0 ≤ x ∧ x ≤ 255 := by
    intro w x hx
    unfold oct at hx
    obtain ⟨y, hy, rfl⟩ := List.mem_map.1 hx
    have := digs_bd 8 (by omega) w n y hy
    omega
  rcases put12_form n h with e | e <;> rw [e] <;> intro x hx
  · rcases List.mem_append.1 hx with hx | hx
    · exact hr _ x hx
    · simp at hx; omega
  · exact hr _ x hx
theorem get_put12 (n : Int) (h : fits12 n = true) : getOf (put12 n) = (n, 0) := by
  have hev := get_ev (put12 n) (by rw [put12_len n h]; omega) (put12_bd n h)
  refine ev_one hev ?_
  have h' := h
  unfold fits12 at h'
  simp at h'
  unfold put12 putOf
  rw [show 12 - 1 = 11 from rfl, most12, most11]
  by_cases h1 : n ≤ 8589934591
  · rw [if_pos ⟨h'.1, h1⟩]
    exact get_oct n 11 [0] (.inr rfl) (by decide) (by decide) h'.1 (by rw [most11]; exact h1)
  · rw [if_neg (by omega), if_pos ⟨h'.1, h'.2⟩]
    have := get_oct n 12 [] (.inl rfl) (by decide) (by decide) h'.1 (by rw [most12]; exact h'.2)
    rwa [List.append_nil] at this
/-- The same as octal text. -/
theorem octAt_put12 (n : Int) (h : fits12 n = true) : Go.Proofs.YtkcgioggnbnfkaaDoor.Hand.octAt 0 ((put12 n).dropWhile (fun x => decide (x = 32))) = (n, 0) := by
  have h' := h
  unfold fits12 at h'
  simp at h'
  have key : ∀ (w : Nat) (t : List Int), t = [] ∨ t = [0] → 1 ≤ w → w ≤ 32 → n ≤ mostOf w → Go.Proofs.YtkcgioggnbnfkaaDoor.Hand.octAt 0 ((oct n w ++ t).dropWhile (fun x => decide (x = 32))) = (n, 0) := by
    intro w t ht h1 hw hm
    have hev := get_oct n w t ht h1 hw h'.1 hm
    have hml : mostOf w < 8 ^ w ∧ mostOf w ≤ 9223372036854775807 := most_lt ⟨w, by omega⟩
    have hr : ∀ x ∈ oct n w, 48 ≤ x ∧ x ≤ 55 := by
      intro x hx
      unfold oct at hx
      obtain ⟨y, hy, rfl⟩ := List.mem_map.1 hx
      have := digs_bd 8 (by omega) w n y hy
      omega
    obtain ⟨x, r, hxr⟩ : ∃ x r, oct n w = x :: r := by
      match h : oct n w with
      | [] => have := oct_len n w; rw [h] at this; simp at this; omega
      | x :: r => exact ⟨x, r, rfl⟩
    have hx := hr x (by rw [hxr]; exact List.mem_cons_self)
    have hdrop : (oct n w ++ t).dropWhile (fun x => decide (x = 32)) = oct n w ++ t := by
      rw [hxr, List.cons_append, List.dropWhile_cons, if_neg (by simp; omega)]
    have hmod : n % 8 ^ w = n := Int.emod_eq_of_lt h'.1 (by omega)
    have := octAt_digs w n 0 t h'.1 (by omega) (by rw [Int.zero_mul, Int.zero_add, hmod]; omega)
    rw [Int.zero_mul, Int.zero_add, hmod] at this
    rw [hdrop, this]
    rcases ht with rfl | rfl
    · rfl
    · rfl
  unfold put12 putOf
  rw [show 12 - 1 = 11 from rfl, most12, most11]
  by_cases h1 : n ≤ 8589934591
  · rw [if_pos ⟨h'.1, h1⟩]
    exact key 11 [0] (.inr rfl) (by decide) (by decide) (by rw [most11]; exact h1)
  · rw [if_neg (by omega), if_pos ⟨h'.1, h'.2⟩]
    have := key 12 [] (.inl rfl) (by decide) (by decide) (by rw [most12]; exact h'.2)
    rwa [List.append_nil] at this
end Go.Proofs.YtkcgioggnbnfkaaDoor.NumG
/- The document's Put of numbers: over numbers and lists alone. -/
set_option linter.unusedVariables false
set_option linter.unusedSimpArgs false
namespace Go.Proofs.YtkcgioggnbnfkaaDoor.PutN
open Go.RowKit Go.Proofs.YtkcgioggnbnfkaaDoorW.PrintWords Go.Proofs.YtkcgioggnbnfkaaDoorW.PrintLast Go.Proofs.YtkcgioggnbnfkaaDoorW.PrintMore Go.Proofs.YtkcgioggnbnfkaaDoor.PVolumeJoins Go.Proofs.YtkcgioggnbnfkaaDoor.NumP
theorem rmost_fin : ∀ w : Fin 33, oakumref01_Most.f 60 ((w.val : Nat) : Int) = some (mostOf w.val) := by decide +kernel
theorem rmost_ev (w : Nat) (h : w ≤ 32) : Ev (fun k => oakumref01_Most.f k (w : Int)) (mostOf w) := Ev.of (oakumref01_Most.mono _) (k := 60) (rmost_fin ⟨w, by omega⟩)
theorem rpower_fin : ∀ w : Fin 9, oakumref01_Power.f 60 256 ((w.val : Nat) : Int) = some (if w.val < 8 then 256 ^ w.val else 9223372036854775807) := by decide +kernel
theorem rpower_ev (w : Nat) (h : w ≤ 7) : Ev (fun k => oakumref01_Power.f k 256 (w : Int)) (256 ^ w) := by
  have := Ev.of (oakumref01_Power.mono 256 (w : Int)) (k := 60) (rpower_fin ⟨w, by omega⟩)
  rwa [if_pos (show w < 8 by omega)] at this
theorem digits_l0 (b : Int) (hb : 2 ≤ b) (hb2 : b ≤ 256) (w : Nat) (hw : w ≤ 40) : ∀ (m i : Nat) (n : Int) (B : List Int), i + m = w → B.length = i → 0 ≤ n → n ≤ 9223372036854775807 → Ev (fun k => oakumref01_digits.l0 k n b (w : Int) (List.replicate m 0 ++ B) (i : Int)) (digs b n m ++ B)
  | 0, i, n, B, hi, hB, h0, h1 => by
    refine Ev.step (fun k => oakumref01_digits.l0.eq_2 _ _ _ _ _ k) ?_
    simp only [if_neg (show ¬ (i : Int) < (w : Int) by omega), List.replicate_zero, List.nil_append]
    exact Ev.now _
  | m + 1, i, n, B, hi, hB, h0, h1 => by
    have hd0 : 0 ≤ n / b := Int.ediv_nonneg h0 (by omega)
    have hd1 : n / b ≤ n := Int.ediv_le_self b h0
    have ih := digits_l0 b hb hb2 w hw m (i + 1) (n / b) ((n % b) :: B) (by omega) (by rw [List.length_cons, hB]) hd0 (by omega)
    refine Ev.step (fun k => oakumref01_digits.l0.eq_2 _ _ _ _ _ k) ?_
    have e1 : wrap64 (wrap64 ((w : Int) - 1) - (i : Int)) = (m : Int) := by rw [w64 (n := (w : Int) - 1) (by omega) (by omega), w64 (by omega) (by omega)]; omega
    have e2 : wrap64 (Int.tdiv n b) = n / b := by rw [Int.tdiv_eq_ediv_of_nonneg h0, w64 (by omega) (by omega)]
    have hm0 := Int.emod_nonneg n (show b ≠ 0 by omega)
    have hm1 := Int.emod_lt_of_pos n (show 0 < b by omega)
    have e3 : Int.tmod n b % 256 = n % b := by rw [Int.tmod_eq_emod_of_nonneg h0]; omega
    simp only [if_pos (show (i : Int) < (w : Int) by omega), if_neg (show ¬ b = 0 by omega), e1, e2, e3, if_pos (show 0 ≤ (m : Int) by omega), zeros_len, if_pos (show (m : Int) < ((m + 1 + B.length : Nat) : Int) by omega), Int.toNat_natCast, set_zero, wadd1 i (by omega)]
    rw [digs, List.append_assoc]
    exact ih
theorem digits_ev (b n : Int) (hb : 2 ≤ b) (hb2 : b ≤ 256) (w : Nat) (hw : w ≤ 40) (h0 : 0 ≤ n) (h1 : n ≤ 9223372036854775807) : Ev (fun k => oakumref01_digits.f k n b (w : Int)) (digs b n w) := by
  unfold oakumref01_digits.f
  simp only [if_pos (show 0 ≤ (w : Int) by omega), Int.toNat_natCast, if_pos (show w ≤ 281474976710656 by omega)]
  have := digits_l0 b hb hb2 w hw w 0 n [] (by omega) rfl h0 h1
  rw [List.append_nil, List.append_nil] at this
  exact this
theorem set_mid (A B : List Int) (x v : Int) (i : Nat) (h : A.length = i) : (A ++ x :: B).set i v = (A ++ [v]) ++ B := by
  rw [List.set_append_right _ _ (by omega), h, Nat.sub_self, List.set_cons_zero, List.append_assoc]
  rfl
theorem rd_mid (A B : List Int) (x : Int) (i : Nat) (h : A.length = i) : rd (A ++ x :: B) (i : Int) = x := by
  unfold rd
  rw [Int.toNat_natCast, List.getD_eq_getElem?_getD, List.getElem?_append_right (by omega), h, Nat.sub_self]
  rfl
theorem rput_l0 (w k8 : Nat) (hw : w ≤ 40) (hk : k8 ≤ 40) : ∀ (B A : List Int), A.length + B.length = k8 → (∀ x ∈ B, 0 ≤ x ∧ x ≤ 9) → Ev (fun k => oakumref01_Put.l0 k (w : Int) (k8 : Int) (A ++ B) (A.length : Int)) (if k8 < w then A ++ B.map (· + 48) ++ [0] else A ++ B.map (· + 48), 0)
  | [], A, hl, hB => by
    simp only [List.length_nil, Nat.add_zero] at hl
    refine Ev.step (fun k => oakumref01_Put.l0.eq_2 _ _ _ _ k) ?_
    simp only [if_neg (show ¬ (A.length : Int) < (k8 : Int) by omega), List.append_nil, List.map_nil]
    by_cases hw : k8 < w
    · simp only [if_pos (show (k8 : Int) < (w : Int) by omega), if_pos hw, if_pos (show A.length < 140737488355328 by omega)]
      exact Ev.now _
    · simp only [if_neg (show ¬ (k8 : Int) < (w : Int) by omega), if_neg hw]
      exact Ev.now _
  | x :: B, A, hl, hB => by
    have hx := hB x List.mem_cons_self
    have hlen : (A ++ x :: B).length = A.length + (B.length + 1) := by rw [List.length_append, List.length_cons]
    rw [List.length_cons] at hl
    have ih := rput_l0 w k8 hw hk B (A ++ [x + 48]) (by rw [List.length_append]; simp; omega) (fun y hy => hB y (List.mem_cons_of_mem _ hy))
    refine Ev.step (fun k => oakumref01_Put.l0.eq_2 _ _ _ _ k) ?_
    simp only [if_pos (show (A.length : Int) < (k8 : Int) by omega), if_pos (show 0 ≤ (A.length : Int) by omega), hlen, if_pos (show (A.length : Int) < ((A.length + (B.length + 1) : Nat) : Int) by omega), Int.toNat_natCast, rd_mid A B x A.length rfl, set_mid A B x _ A.length rfl, show (x + 48) % 256 = x + 48 by omega, wadd1 A.length (by omega)]
    have e1 : (A ++ [x + 48]).length = A.length + 1 := by rw [List.length_append]; rfl
    rw [e1] at ih
    have e2 : A ++ (x :: B).map (· + 48) = A ++ [x + 48] ++ B.map (· + 48) := by simp
    rw [e2]
    exact ih
theorem digs_bd (b : Int) (hb : 2 ≤ b) : ∀ (w : Nat) (n : Int), ∀ x ∈ digs b n w, 0 ≤ x ∧ x < b
  | 0, n, x, h => by simp [digs] at h
  | w + 1, n, x, h => by
    unfold digs at h
    rcases List.mem_append.1 h with h | h
    · exact digs_bd b hb w _ x h
    · rw [List.mem_singleton] at h
      subst h
      exact ⟨Int.emod_nonneg n (by omega), Int.emod_lt_of_pos n (by omega)⟩
theorem rput_j2 (n : Int) (w k8 : Nat) (hw : w ≤ 32) (hk : k8 ≤ 32) (h0 : 0 ≤ n) (h1 : n ≤ 9223372036854775807) : Ev (fun k => oakumref01_Put.j2 k n (w : Int) (k8 : Int)) (if k8 < w then oct n k8 ++ [0] else oct n k8, 0) := by
  refine Ev.step (fun k => oakumref01_Put.j2.eq_2 _ _ _ k) ?_
  refine Ev.bind (digits_ev 8 n (by omega) (by omega) k8 (by omega) h0 h1) ?_
  have := rput_l0 w k8 (by omega) (by omega) (digs 8 n k8) [] (by rw [digs_len]; simp) (fun x hx => by have := digs_bd 8 (by omega) k8 n x hx; omega)
  simp only [List.nil_append] at this
  exact this
/-- The other sides. -/
theorem digs_neg : ∀ (w : Nat) (n : Int), (digs 256 (-n - 1) w).map (fun x => 255 - x) = digs 256 n w
  | 0, _ => rfl
  | w + 1, n => by
    unfold digs
    rw [List.map_append, show (-n - 1) / 256 = -(n / 256) - 1 by omega, digs_neg w]
    congr 1
    simp only [List.map_cons, List.map_nil]
    congr 1
    omega
theorem rput_l1_neg (n : Int) (hn : n < 0) (w : Nat) (hw : w ≤ 40) : ∀ (B A : List Int), A.length + B.length = w → 0 < w → (∀ x ∈ B, 0 ≤ x ∧ x ≤ 255) → Ev (fun k => oakumref01_Put.l1 k n (w : Int) (A ++ B) (A.length : Int)) ((A ++ B.map (fun x => 255 - x)).set 0 255, 0)
  | [], A, hl, h0, hB => by
    simp only [List.length_nil, Nat.add_zero] at hl
    refine Ev.step (fun k => oakumref01_Put.l1.eq_2 _ _ _ _ k) ?_
    simp only [if_neg (show ¬ (A.length : Int) < (w : Int) by omega), List.append_nil, List.map_nil, if_pos hn, if_pos (show 0 < (A.length : Int) by omega)]
    exact Ev.now _
  | x :: B, A, hl, h0, hB => by
    have hx := hB x List.mem_cons_self
    have hlen : (A ++ x :: B).length = A.length + (B.length + 1) := by rw [List.length_append, List.length_cons]
    rw [List.length_cons] at hl
    have ih := rput_l1_neg n hn w hw B (A ++ [255 - x]) (by rw [List.length_append]; simp; omega) h0 (fun y hy => hB y (List.mem_cons_of_mem _ hy))
    refine Ev.step (fun k => oakumref01_Put.l1.eq_2 _ _ _ _ k) ?_
    simp only [if_pos (show (A.length : Int) < (w : Int) by omega), if_pos hn, if_pos (show 0 ≤ (A.length : Int) by omega), hlen, if_pos (show (A.length : Int) < ((A.length + (B.length + 1) : Nat) : Int) by omega), Int.toNat_natCast, rd_mid A B x A.length rfl, set_mid A B x _ A.length rfl, show (255 - x) % 256 = 255 - x by omega, wadd1 A.length (by omega)]
    have e1 : (A ++ [255 - x]).length = A.length + 1 := by rw [List.length_append]; rfl
    rw [e1] at ih
    have e2 : A ++ (x :: B).map (fun x => 255 - x) = A ++ [255 - x] ++ B.map (fun x => 255 - x) := by simp
    rw [e2]
    exact ih
theorem rput_j5 (n : Int) (w : Nat) (h2 : 2 ≤ w) (hw : w ≤ 32) (h0 : -9223372036854775808 ≤ n) (h1 : n ≤ 9223372036854775807) : Ev (fun k => oakumref01_Put.j5 k n (w : Int) (if n < 0 then -n - 1 else n) false) ((if n < 0 then 255 else 128) :: digs 256 n (w - 1), 0) := by
  have hp : wrap64 ((w : Int) - 1) = ((w - 1 : Nat) : Int) := wsub1 w (by omega) (by omega)
  refine Ev.step (fun k => oakumref01_Put.j5.eq_2 _ _ _ _ k) ?_
  simp only [if_neg Bool.false_ne_true, Option.bind_some, hp]
  by_cases hn : n < 0
  · simp only [if_pos hn]
    refine Ev.bind (digits_ev 256 (-n - 1) (by omega) (by omega) (w - 1) (by omega) (by omega) (by omega)) ?_
    simp only [digs_len, List.length_cons, List.length_nil, if_pos (show 0 + 1 + (w - 1) < 140737488355328 by omega)]
    have := rput_l1_neg n hn w (by omega) ([128] ++ digs 256 (-n - 1) (w - 1)) [] (by rw [List.length_append, digs_len]; simp; omega) (by omega) (fun x hx => by
      rcases List.mem_append.1 hx with hx | hx
      · simp at hx; omega
      · have := digs_bd 256 (by omega) _ _ x hx; omega)
    rw [List.map_append, digs_neg] at this
    exact this
  · simp only [if_neg hn]
    refine Ev.bind (digits_ev 256 n (by omega) (by omega) (w - 1) (by omega) (by omega) (by omega)) ?_
    simp only [digs_len, List.length_cons, List.length_nil, if_pos (show 0 + 1 + (w - 1) < 140737488355328 by omega)]
    refine Ev.step (fun k => oakumref01_Put.l1.eq_2 _ _ _ _ k) ?_
    simp only [if_pos (show (0 : Int) < (w : Int) by omega), if_neg hn]
    exact Ev.now _
theorem most_le : ∀ w : Fin 33, mostOf (w.val - 1) ≤ mostOf w.val := by decide +kernel
theorem rput_ev (n : Int) (w : Nat) (wide : Bool) (h2 : 2 ≤ w) (h : w ≤ 32) (h0 : -9223372036854775808 ≤ n) (h1 : n ≤ 9223372036854775807) : Ev (fun k => oakumref01_Put.f k n (w : Int) wide) (putOf n w wide) := by
  have hp : wrap64 ((w : Int) - 1) = ((w - 1 : Nat) : Int) := wsub1 w (by omega) (by omega)
  have hle : mostOf (w - 1) ≤ mostOf w := most_le ⟨w, by omega⟩
  have hsz : (if n < 0 then wrap64 (-(wrap64 (n + 1))) else n) = (if n < 0 then -n - 1 else n) := by
    by_cases hn : n < 0
    · rw [if_pos hn, if_pos hn, w64 (n := n + 1) (by omega) (by omega), w64 (by omega) (by omega)]; omega
    · rw [if_neg hn, if_neg hn]
  have hj4 : ¬ (0 ≤ n ∧ n ≤ mostOf w) → Ev (fun k => oakumref01_Put.j4 k n (w : Int) wide (if n < 0 then -n - 1 else n)) (putOf n w wide) := by
    intro hno
    have hpo : putOf n w wide = if wide = true ∧ fitsB n w = true then ((if n < 0 then 255 else 128) :: digs 256 n (w - 1), 0) else ([], 5) := by
      unfold putOf
      rw [if_neg (fun x => hno ⟨x.1, by omega⟩), if_neg hno]
    rw [hpo]
    have hbad : Ev (fun k => oakumref01_Put.j5 k n (w : Int) (if n < 0 then -n - 1 else n) true) ([], 5) := by
      refine Ev.step (fun k => oakumref01_Put.j5.eq_2 _ _ _ _ k) ?_
      simp only [if_true]
      exact Ev.now _
    refine Ev.step (fun k => oakumref01_Put.j4.eq_2 _ _ _ _ k) ?_
    cases wide with
    | false =>
      simp only [if_neg Bool.false_ne_true, false_and, if_false, Bool.false_eq_true]
      exact hbad
    | true =>
      simp only [if_true, true_and]
      by_cases h8 : 8 < w
      · have hf : fitsB n w = true := by unfold fitsB; rw [decide_eq_true h8]; rfl
        simp only [if_neg (show ¬ (w : Int) < 9 by omega), hf, if_true]
        exact rput_j5 n w h2 h h0 h1
      · simp only [if_pos (show (w : Int) < 9 by omega), hp]
        refine Ev.bind (rpower_ev (w - 1) (by omega)) ?_
        have hf : fitsB n w = (decide (-(256 ^ (w - 1)) ≤ n) && decide (n < 256 ^ (w - 1))) := by unfold fitsB; rw [decide_eq_false h8, Bool.false_or]
        have hpos : (0 : Int) < 256 ^ (w - 1) := Int.pow_pos (by omega)
        rw [hf]
        generalize (256 : Int) ^ (w - 1) = P at hpos
        by_cases hge : (if n < 0 then -n - 1 else n) ≥ P
        · simp only [decide_eq_true hge]
          have : (decide (-P ≤ n) && decide (n < P)) = false := by
            rw [Bool.and_eq_false_iff, decide_eq_false_iff_not, decide_eq_false_iff_not]
            split at hge <;> omega
          rw [this]
          simp only [if_neg Bool.false_ne_true]
          exact hbad
        · simp only [decide_eq_false hge]
          have : (decide (-P ≤ n) && decide (n < P)) = true := by
            rw [Bool.and_eq_true, decide_eq_true_eq, decide_eq_true_eq]
            split at hge <;> omega
          rw [this]
          simp only [if_true]
          exact rput_j5 n w h2 h h0 h1
  have hj1 : ¬ (0 ≤ n ∧ n ≤ mostOf w) → Ev (fun k => oakumref01_Put.j1 k n (w : Int) wide false) (putOf n w wide) := by
    intro hno
    have := hj4 hno
    refine Ev.step (fun k => oakumref01_Put.j1.eq_2 _ _ _ _ k) ?_
    simp only [if_neg Bool.false_ne_true]
    rw [← hsz] at this
    by_cases hn : n < 0
    · simp only [if_pos hn] at this ⊢; exact this
    · simp only [if_neg hn] at this ⊢; exact this
  unfold oakumref01_Put.f
  simp only [if_neg (show ¬ (w : Int) < 2 by omega), decide_eq_false (show ¬ (w : Int) > 32 by omega)]
  refine Ev.step (fun k => oakumref01_Put.j0.eq_2 _ _ _ _ k) ?_
  simp only [if_neg Bool.false_ne_true]
  by_cases hn : 0 ≤ n
  · simp only [if_pos (show n ≥ 0 from hn)]
    refine Ev.bind (rmost_ev w h) ?_
    by_cases hm : n ≤ mostOf w
    · simp only [decide_eq_true hm]
      refine Ev.step (fun k => oakumref01_Put.j1.eq_2 _ _ _ _ k) ?_
      simp only [if_true, hp]
      refine Ev.bind (rmost_ev (w - 1) (by omega)) ?_
      unfold putOf
      by_cases hm1 : n ≤ mostOf (w - 1)
      · simp only [if_pos hm1, if_pos (show 0 ≤ n ∧ n ≤ mostOf (w - 1) from ⟨hn, hm1⟩)]
        have := rput_j2 n w (w - 1) h (by omega) hn h1
        rw [if_pos (by omega)] at this
        exact this
      · simp only [if_neg hm1, if_neg (show ¬ (0 ≤ n ∧ n ≤ mostOf (w - 1)) from fun x => hm1 x.2), if_pos (show 0 ≤ n ∧ n ≤ mostOf w from ⟨hn, hm⟩)]
        have := rput_j2 n w w h h hn h1
        rw [if_neg (by omega)] at this
        exact this
    · simp only [decide_eq_false hm]
      exact hj1 (fun x => hm x.2)
  · simp only [if_neg (show ¬ n ≥ 0 from hn)]
    exact hj1 (fun x => hn x.1)
end Go.Proofs.YtkcgioggnbnfkaaDoor.PutN
/- The document's Octal: over numbers and lists alone. -/
set_option linter.unusedVariables false
set_option linter.unusedSimpArgs false
namespace Go.Proofs.YtkcgioggnbnfkaaDoor.OctR
open Go.RowKit Go.Proofs.YtkcgioggnbnfkaaDoorW.PrintWords Go.Proofs.YtkcgioggnbnfkaaDoorW.PrintLast Go.Proofs.YtkcgioggnbnfkaaDoorW.PrintMore Go.Proofs.YtkcgioggnbnfkaaDoor.PVolumeJoins Go.Proofs.YtkcgioggnbnfkaaDoor.NumP Go.Proofs.YtkcgioggnbnfkaaDoor.NumG
/-- A code told as yes or no. -/
def res (p : Int × Int) : Int × Bool := (p.1, decide (p.2 = 0))
theorem oct_l2 (l : List Int) (n : Int) (hl : l.length ≤ 2000) : ∀ (d i : Nat), i + d = l.length → Ev (fun k => oakumref01_Octal.l2 k l (i : Int) n) (if Go.Proofs.YtkcgioggnbnfkaaDoor.Hand.padAll (l.drop i) = true then (n, true) else (0, false))
  | 0, i, hd => by
    refine Ev.step (fun k => oakumref01_Octal.l2.eq_2 l (i : Int) n k) ?_
    have : l.drop i = [] := List.drop_eq_nil_of_le (by omega)
    simp only [if_neg (show ¬ (i : Int) < (l.length : Int) by omega), this]
    exact Ev.now _
  | d + 1, i, hd => by
    refine Ev.step (fun k => oakumref01_Octal.l2.eq_2 l (i : Int) n k) ?_
    have ih := oct_l2 l n hl d (i + 1) (by omega)
    rw [rd_drop l i (by omega)]
    simp only [if_pos (show (i : Int) < (l.length : Int) by omega), if_pos (show 0 ≤ (i : Int) by omega), wadd1 i (by omega)]
    generalize rd l (i : Int) = x
    by_cases h0 : x = 0
    · simp only [if_pos h0]
      have : Go.Proofs.YtkcgioggnbnfkaaDoor.Hand.padAll (x :: l.drop (i + 1)) = Go.Proofs.YtkcgioggnbnfkaaDoor.Hand.padAll (l.drop (i + 1)) := by unfold Go.Proofs.YtkcgioggnbnfkaaDoor.Hand.padAll; rw [List.all_cons]; simp [Go.Proofs.YtkcgioggnbnfkaaDoor.Hand.pad, h0]
      rw [this]
      exact ih
    · by_cases h1 : x = 32
      · simp only [if_neg h0, if_pos h1]
        have : Go.Proofs.YtkcgioggnbnfkaaDoor.Hand.padAll (x :: l.drop (i + 1)) = Go.Proofs.YtkcgioggnbnfkaaDoor.Hand.padAll (l.drop (i + 1)) := by unfold Go.Proofs.YtkcgioggnbnfkaaDoor.Hand.padAll; rw [List.all_cons]; simp [Go.Proofs.YtkcgioggnbnfkaaDoor.Hand.pad, h1]
        rw [this]
        exact ih
      · simp only [if_neg h0, if_neg h1]
        have : Go.Proofs.YtkcgioggnbnfkaaDoor.Hand.padAll (x :: l.drop (i + 1)) = false := by unfold Go.Proofs.YtkcgioggnbnfkaaDoor.Hand.padAll; rw [List.all_cons]; simp [Go.Proofs.YtkcgioggnbnfkaaDoor.Hand.pad, h0, h1]
        rw [this]
        exact Ev.now _
theorem oct_l1 (l : List Int) (hl : l.length ≤ 2000) (hb : ∀ x ∈ l, 0 ≤ x ∧ x ≤ 255) : ∀ (d i : Nat) (n : Int), i + d = l.length → 0 ≤ n → n ≤ 9223372036854775807 → Ev (fun k => oakumref01_Octal.l1 k l (i : Int) n) (res (Go.Proofs.YtkcgioggnbnfkaaDoor.Hand.octAt n (l.drop i)))
  | 0, i, n, hd, h0, h1 => by
    have hnil : l.drop i = [] := List.drop_eq_nil_of_le (by omega)
    have h2 := oct_l2 l n hl 0 i hd
    refine Ev.step (fun k => oakumref01_Octal.l1.eq_2 l (i : Int) n k) ?_
    simp only [if_neg (show ¬ (i : Int) < (l.length : Int) by omega)]
    refine Ev.step (fun k => oakumref01_Octal.j3.eq_2 l (i : Int) n false k) ?_
    simp only [if_neg Bool.false_ne_true]
    rw [hnil] at h2 ⊢
    exact h2
  | d + 1, i, n, hd, h0, h1 => by
    have h2 := oct_l2 l n hl (d + 1) i hd
    have ih := oct_l1 l hl hb d (i + 1)
    have hmem : rd l (i : Int) ∈ l := List.mem_of_mem_drop (i := i) (by rw [rd_drop l i (by omega)]; exact List.mem_cons_self)
    have hx := hb _ hmem
    refine Ev.step (fun k => oakumref01_Octal.l1.eq_2 l (i : Int) n k) ?_
    rw [rd_drop l i (by omega)] at h2 ⊢
    simp only [if_pos (show (i : Int) < (l.length : Int) by omega), if_pos (show 0 ≤ (i : Int) by omega)]
    clear hmem
    by_cases hd1 : 48 ≤ rd l (i : Int) ∧ rd l (i : Int) ≤ 55
    · simp only [if_pos (show rd l (i : Int) ≥ 48 from hd1.1), decide_eq_true hd1.2]
      refine Ev.step (fun k => oakumref01_Octal.j3.eq_2 l (i : Int) n true k) ?_
      simp only [if_true]
      unfold Go.Proofs.YtkcgioggnbnfkaaDoor.Hand.octAt
      rw [if_pos hd1]
      by_cases hn : 1152921504606846975 < n
      · simp only [if_pos (show n > 1152921504606846975 from hn), if_pos hn]
        exact Ev.now _
      · simp only [if_neg (show ¬ n > 1152921504606846975 from hn), if_neg hn, if_pos (show (i : Int) < (l.length : Int) by omega), if_pos (show 0 ≤ (i : Int) by omega), wadd1 i (by omega)]
        generalize rd l (i : Int) = x at hx hd1
        rw [w64 (n := 8 * n) (by omega) (by omega), w64 (n := x) (by omega) (by omega), w48 (a := 8 * n + x) (by omega) (by omega), show 8 * n + x - 48 = n * 8 + (x - 48) by omega]
        exact ih _ (by omega) (by omega) (by omega)
    · have hf : Ev (fun k => oakumref01_Octal.j3 k l (i : Int) n false) (res (Go.Proofs.YtkcgioggnbnfkaaDoor.Hand.octAt n (rd l (i : Int) :: l.drop (i + 1)))) := by
        refine Ev.step (fun k => oakumref01_Octal.j3.eq_2 l (i : Int) n false k) ?_
        simp only [if_neg Bool.false_ne_true]
        have : res (Go.Proofs.YtkcgioggnbnfkaaDoor.Hand.octAt n (rd l (i : Int) :: l.drop (i + 1))) = (if Go.Proofs.YtkcgioggnbnfkaaDoor.Hand.padAll (rd l (i : Int) :: l.drop (i + 1)) = true then (n, true) else (0, false)) := by
          unfold Go.Proofs.YtkcgioggnbnfkaaDoor.Hand.octAt
          rw [if_neg hd1]
          split <;> rfl
        rw [this]
        exact h2
      by_cases hge : rd l (i : Int) ≥ 48
      · have : decide (rd l (i : Int) ≤ 55) = false := decide_eq_false (by omega)
        simp only [if_pos hge, this]
        exact hf
      · simp only [if_neg hge]
        exact hf
theorem oct_l0 (l : List Int) (hl : l.length ≤ 2000) (hb : ∀ x ∈ l, 0 ≤ x ∧ x ≤ 255) : ∀ (d i : Nat), i + d = l.length → Ev (fun k => oakumref01_Octal.l0 k l (i : Int)) (res (Go.Proofs.YtkcgioggnbnfkaaDoor.Hand.octAt 0 ((l.drop i).dropWhile (fun x => decide (x = 32)))))
  | 0, i, hd => by
    have hnil : l.drop i = [] := List.drop_eq_nil_of_le (by omega)
    have h1 := oct_l1 l hl hb 0 i 0 hd (by omega) (by omega)
    refine Ev.step (fun k => oakumref01_Octal.l0.eq_2 l (i : Int) k) ?_
    simp only [if_neg (show ¬ (i : Int) < (l.length : Int) by omega)]
    refine Ev.step (fun k => oakumref01_Octal.j1.eq_2 l (i : Int) k) ?_
    rw [hnil] at h1 ⊢
    exact h1
  | d + 1, i, hd => by
    have h1 := oct_l1 l hl hb (d + 1) i 0 hd (by omega) (by omega)
    have ih := oct_l0 l hl hb d (i + 1) (by omega)
    refine Ev.step (fun k => oakumref01_Octal.l0.eq_2 l (i : Int) k) ?_
    rw [rd_drop l i (by omega)] at h1 ⊢
    simp only [if_pos (show (i : Int) < (l.length : Int) by omega), if_pos (show 0 ≤ (i : Int) by omega)]
    by_cases hx : rd l (i : Int) = 32
    · simp only [if_pos hx, wadd1 i (by omega)]
      rw [List.dropWhile_cons, if_pos (decide_eq_true hx)]
      exact ih
    · simp only [if_neg hx]
      refine Ev.step (fun k => oakumref01_Octal.j1.eq_2 l (i : Int) k) ?_
      rw [List.dropWhile_cons, if_neg (by simpa using hx)]
      exact h1
theorem roct_ev (l : List Int) (hl : l.length ≤ 2000) (hb : ∀ x ∈ l, 0 ≤ x ∧ x ≤ 255) : Ev (fun k => oakumref01_Octal.f k l) (res (Go.Proofs.YtkcgioggnbnfkaaDoor.Hand.octAt 0 (l.dropWhile (fun x => decide (x = 32))))) := by
  have := oct_l0 l hl hb l.length 0 (by omega)
  rw [List.drop_zero] at this
  exact this
end Go.Proofs.YtkcgioggnbnfkaaDoor.OctR
/- Noughts alone: over numbers and lists alone. -/
set_option linter.unusedVariables false
set_option linter.unusedSimpArgs false
namespace Go.Proofs.YtkcgioggnbnfkaaDoor.BlkP
open Go.RowKit Go.Proofs.YtkcgioggnbnfkaaDoorW.PrintWords Go.Proofs.YtkcgioggnbnfkaaDoorW.PrintLast Go.Proofs.YtkcgioggnbnfkaaDoorW.PrintMore Go.Proofs.YtkcgioggnbnfkaaDoor.PVolumeJoins
theorem w64 {n : Int} (h0 : -9223372036854775808 ≤ n) (h1 : n ≤ 9223372036854775807) : wrap64 n = n := by unfold wrap64; omega
/-- Sums that fit (no equation with a wrap stays in a context: linear arithmetic would look into it). -/
theorem wadd1 (n : Nat) (h : n < 9223372036854775807) : wrap64 ((n : Int) + 1) = ((n + 1 : Nat) : Int) := by rw [w64 (by omega) (by omega)]; omega
theorem wsub1 (n : Nat) (h0 : 0 < n) (h : n < 9223372036854775807) : wrap64 ((n : Int) - 1) = ((n - 1 : Nat) : Int) := by rw [w64 (by omega) (by omega)]; omega
theorem rd_nat (l : List Int) (n : Nat) : rd l (n : Int) = l.getD n 0 := by unfold rd; simp
theorem all_step (l : List Int) (i : Nat) (hi : i < l.length) : (l.drop i).all (fun x => decide (x = 0)) = (decide (l[i] = 0) && (l.drop (i + 1)).all (fun x => decide (x = 0))) := by
  rw [List.drop_eq_getElem_cons hi]; rfl
theorem blank_l0 (l : List Int) (hl : l.length ≤ 100000) : ∀ (d i : Nat), i + d = l.length → Ev (fun k => text_Blank.l0 k l (l.length : Int) (i : Int)) ((l.drop i).all (fun x => decide (x = 0)))
  | 0, i, h => by
    refine Ev.step (fun k => text_Blank.l0.eq_2 ..) ?_
    rw [List.drop_of_length_le (by omega)]
    simp only [if_neg (show ¬ (i : Int) < (l.length : Int) by omega), List.all_nil]
    exact Ev.now _
  | d + 1, i, h => by
    refine Ev.step (fun k => text_Blank.l0.eq_2 ..) ?_
    have hi : i < l.length := by omega
    have hr : l.getD i 0 = l[i] := by rw [List.getD_eq_getElem?_getD, List.getElem?_eq_getElem hi]; rfl
    rw [all_step l i hi]
    simp only [if_pos (show (i : Int) < (l.length : Int) by omega), if_pos (show (0 : Int) ≤ (i : Int) by omega), rd_nat, hr, wadd1 i (by omega)]
    by_cases h0 : l[i] = 0
    · simp only [if_pos h0, decide_eq_true h0, Bool.true_and]
      exact blank_l0 l hl d (i + 1) (by omega)
    · simp only [if_neg h0, decide_eq_false h0, Bool.false_and]
      exact Ev.now _
theorem refblank_l0 (l : List Int) (hr0 : ∀ x ∈ l, 0 ≤ x) (hl : l.length ≤ 100000) : ∀ (d i : Nat), i + d = l.length → Ev (fun k => oakumref02_Blank.l0 k l (i : Int)) ((l.drop i).all (fun x => decide (x = 0)))
  | 0, i, h => by
    refine Ev.step (fun k => oakumref02_Blank.l0.eq_2 ..) ?_
    rw [List.drop_of_length_le (by omega)]
    simp only [if_neg (show ¬ (i : Int) < (l.length : Int) by omega), List.all_nil]
    exact Ev.now _
  | d + 1, i, h => by
    refine Ev.step (fun k => oakumref02_Blank.l0.eq_2 ..) ?_
    have hi : i < l.length := by omega
    have hr : l.getD i 0 = l[i] := by rw [List.getD_eq_getElem?_getD, List.getElem?_eq_getElem hi]; rfl
    have hp := hr0 l[i] (List.getElem_mem hi)
    rw [all_step l i hi]
    simp only [if_pos (show (i : Int) < (l.length : Int) by omega), if_pos (show (0 : Int) ≤ (i : Int) by omega), rd_nat, hr, wadd1 i (by omega)]
    by_cases h0 : l[i] = 0
    · simp only [if_neg (show ¬ l[i] > 0 by omega), decide_eq_true h0, Bool.true_and]
      exact refblank_l0 l hr0 hl d (i + 1) (by omega)
    · simp only [if_pos (show l[i] > 0 by omega), decide_eq_false h0, Bool.false_and]
      exact Ev.now _
/-- Noughts alone? -/
def blank (l : List Int) : Bool := l.all (fun x => decide (x = 0))
theorem blank_ev (l : List Int) (hl : l.length ≤ 100000) : Ev (fun k => text_Blank.f k l) (blank l) := by
  have := blank_l0 l hl l.length 0 (by omega)
  rw [List.drop_zero] at this
  exact this
theorem rblank_ev (l : List Int) (hb : ∀ x ∈ l, 0 ≤ x ∧ x ≤ 255) (hl : l.length ≤ 100000) : Ev (fun k => oakumref02_Blank.f k l) (blank l) := by
  have := refblank_l0 l (fun x hx => (hb x hx).1) hl l.length 0 (by omega)
  rw [List.drop_zero] at this
  exact this
end Go.Proofs.YtkcgioggnbnfkaaDoor.BlkP
/- The document's sum of bytes: over numbers and lists alone. -/
set_option linter.unusedVariables false
set_option linter.unusedSimpArgs false
namespace Go.Proofs.YtkcgioggnbnfkaaDoor.CrcP
open Go.RowKit Go.Proofs.YtkcgioggnbnfkaaDoorW.PrintWords Go.Proofs.YtkcgioggnbnfkaaDoorW.PrintLast Go.Proofs.YtkcgioggnbnfkaaDoorW.PrintMore Go.Proofs.YtkcgioggnbnfkaaDoor.PVolumeJoins Go.Proofs.YtkcgioggnbnfkaaDoor.CrcA
theorem w64 {n : Int} (h0 : -9223372036854775808 ≤ n) (h1 : n ≤ 9223372036854775807) : wrap64 n = n := by unfold wrap64; omega
/-- Sums that fit (no equation with a wrap stays in a context: linear arithmetic would look into it). -/
theorem wadd1 (n : Nat) (h : n < 9223372036854775807) : wrap64 ((n : Int) + 1) = ((n + 1 : Nat) : Int) := by rw [w64 (by omega) (by omega)]; omega
theorem wsub1 (n : Nat) (h0 : 0 < n) (h : n < 9223372036854775807) : wrap64 ((n : Int) - 1) = ((n - 1 : Nat) : Int) := by rw [w64 (by omega) (by omega)]; omega
theorem u64_id (x : Int) (h0 : 0 ≤ x) (h1 : x < 18446744073709551616) : IntKind.u64.wrap x = x := by
  show x % 18446744073709551616 = x
  omega
theorem xor64 (a b : Nat) (ha : a < 18446744073709551616) (hb : b < 18446744073709551616) : Go.bits .xor .u64 (a : Int) (b : Int) = ((a ^^^ b : Nat) : Int) := by
  have h1 : ∀ x : Nat, x < 18446744073709551616 → (BitVec.ofInt 64 (x : Int)).toNat = x := fun x hx => by rw [BitVec.toNat_ofInt]; omega
  have hlt : a ^^^ b < 2 ^ 64 := Nat.xor_lt_two_pow (by omega) (by omega)
  show IntKind.u64.wrap (((BitVec.ofInt 64 (a : Int) ^^^ BitVec.ofInt 64 (b : Int)).toNat : Int)) = _
  rw [BitVec.toNat_xor, h1 a ha, h1 b hb]
  exact u64_id _ (by omega) (by omega)
theorem more_l1 (l : List Int) (i : Nat) (r : Int) : ∀ (d k : Nat) (x : Nat), k + d = 8 → x < 4294967296 → Ev (fun n => oakumref32_More.l0 n l ((crcBits d x : Nat) : Int) (wrap64 ((i : Int) + 1))) r → Ev (fun n => oakumref32_More.l1 n l (x : Int) (i : Int) (k : Int)) r
  | 0, k, x, h, hx, hr => by
    refine Ev.step (fun n => oakumref32_More.l1.eq_2 ..) ?_
    simp only [if_neg (show ¬ (k : Int) < 8 by omega)]
    exact hr
  | d + 1, k, x, h, hx, hr => by
    have hw : wrap64 ((k : Int) + 1) = ((k + 1 : Nat) : Int) := by rw [w64 (by omega) (by omega)]; omega
    have hm : Int.tmod (x : Int) 2 = ((x % 2 : Nat) : Int) := by rw [Int.tmod_eq_emod_of_nonneg (by omega)]; omega
    have hd : Int.tdiv (x : Int) 2 = ((x / 2 : Nat) : Int) := by rw [Int.tdiv_eq_ediv_of_nonneg (by omega)]; omega
    have hu : IntKind.u64.wrap ((x / 2 : Nat) : Int) = ((x / 2 : Nat) : Int) := u64_id _ (by omega) (by omega)
    have hxr : Go.bits .xor .u64 ((x / 2 : Nat) : Int) 3988292384 = ((x / 2 ^^^ 3988292384 : Nat) : Int) := xor64 (x / 2) 3988292384 (by omega) (by omega)
    have hlt := crcBit_lt x hx
    have hr' : Ev (fun n => oakumref32_More.l0 n l ((crcBits d (crcBit x) : Nat) : Int) (wrap64 ((i : Int) + 1))) r := hr
    have ih := more_l1 l i r d (k + 1) (crcBit x) (by omega) hlt hr'
    refine Ev.step (fun n => oakumref32_More.l1.eq_2 ..) ?_
    simp only [if_pos (show (k : Int) < 8 by omega), hm, hd, hu, hw]
    by_cases hb : x % 2 = 1
    · rw [hb]
      simp only [Int.cast_ofNat_Int, if_true, hxr]
      unfold crcBit at ih
      rw [if_pos hb] at ih
      exact ih
    · have hb0 : x % 2 = 0 := by omega
      rw [hb0]
      simp only [Int.cast_ofNat_Int, if_neg (show ¬ (0 : Int) = 1 by decide)]
      unfold crcBit at ih
      rw [if_neg hb] at ih
      exact ih
theorem more_in (k : Nat) (l : List Int) (x : Int) (i : Nat) (h : i < l.length) : oakumref32_More.l0 (k + 1) l x (i : Int) = oakumref32_More.l1 k l (Go.bits .xor .u64 x (IntKind.u64.wrap (rd l (i : Int)))) (i : Int) 0 := by
  rw [oakumref32_More.l0.eq_2, if_pos (by omega : (i : Int) < (l.length : Int)), if_pos (by omega : (0 : Int) ≤ (i : Int))]
theorem more_l0 (l : List Int) (hl : l.length ≤ 100000) (hb : ∀ c ∈ l, 0 ≤ c ∧ c ≤ 255) (d : Nat) : ∀ (i : Nat) (x : Nat), i + d = l.length → x < 4294967296 → Ev (fun n => oakumref32_More.l0 n l (x : Int) (i : Int)) ((crcFin (crcAll x (l.drop i)) : Nat) : Int) := by
  induction d with
  | zero =>
    intro i x h hx
    have hf : (crcFin x : Int) = 4294967295 - (x : Int) := by unfold crcFin; omega
    have hu : IntKind.u64.wrap (4294967295 - (x : Int)) % 4294967296 = (crcFin x : Int) := by rw [u64_id _ (by omega) (by omega), hf]; omega
    have hd : crcAll x (l.drop i) = x := by rw [List.drop_of_length_le (by omega)]; rfl
    rw [hd]
    refine Ev.step (fun n => oakumref32_More.l0.eq_2 ..) ?_
    simp only [if_neg (show ¬ (i : Int) < (l.length : Int) by omega), hu]
    exact Ev.now _
  | succ d ih =>
    intro i x h hx
    have hi : i < l.length := by omega
    have hc := hb l[i] (List.getElem_mem hi)
    have hrd : rd l (i : Int) = l[i] := by simp [rd, List.getD, hi]
    obtain ⟨c, hcn⟩ := Int.eq_ofNat_of_zero_le hc.1
    have hu : IntKind.u64.wrap (rd l (i : Int)) = (c : Int) := by rw [hrd, hcn]; exact u64_id _ (by omega) (by omega)
    have hxr : Go.bits .xor .u64 (x : Int) (c : Int) = ((x ^^^ c : Nat) : Int) := xor64 x c (by omega) (by omega)
    have hlt : x ^^^ c < 4294967296 := xor_lt _ _ 32 (by omega) (by omega)
    have hw : wrap64 ((i : Int) + 1) = ((i + 1 : Nat) : Int) := by rw [w64 (by omega) (by omega)]; omega
    have hall : crcAll x (l.drop i) = crcAll (crcBits 8 (x ^^^ c)) (l.drop (i + 1)) := by
      rw [List.drop_eq_getElem_cons hi]
      show crcAll (crcBits 8 (x ^^^ (l[i]).toNat)) (l.drop (i + 1)) = _
      rw [show (l[i]).toNat = c by rw [hcn]; rfl]
    rw [hall]
    have ih' := ih (i + 1) (crcBits 8 (x ^^^ c)) (by omega) (crcBits_lt 8 _ hlt)
    rw [← hw] at ih'
    generalize hX : crcBits 8 (x ^^^ c) = X at ih'
    have hm := fun (hr : Ev (fun n => oakumref32_More.l0 n l ((crcBits 8 (x ^^^ c) : Nat) : Int) (wrap64 ((i : Int) + 1))) ((crcFin (crcAll X (l.drop (i + 1))) : Nat) : Int)) => more_l1 l i _ 8 0 (x ^^^ c) (by omega) hlt hr
    rw [hX] at hm
    have hm2 := hm ih'
    have hm3 : Ev (fun n => oakumref32_More.l1 n l (Go.bits .xor .u64 (x : Int) (IntKind.u64.wrap (rd l (i : Int)))) (i : Int) 0) ((crcFin (crcAll X (l.drop (i + 1))) : Nat) : Int) := by
      rw [hu, hxr]
      exact hm2
    exact Ev.step (fun n => more_in n l (x : Int) i hi) hm3
/-- The document's sum of bytes. -/
theorem more_ev (l : List Int) (hl : l.length ≤ 100000) (hb : ∀ c ∈ l, 0 ≤ c ∧ c ≤ 255) : Ev (fun n => oakumref32_More.f n 0 l) ((crcSum l : Nat) : Int) := by
  unfold oakumref32_More.f
  have h := more_l0 l hl hb l.length 0 4294967295 (by omega) (by decide)
  rw [List.drop_zero] at h
  have hz : IntKind.u64.wrap (4294967295 - IntKind.u64.wrap 0) = 4294967295 := by
    rw [u64_id 0 (by omega) (by omega), u64_id _ (by omega) (by omega)]
    omega
  rw [hz]
  unfold crcSum
  simp only [Int.cast_ofNat_Int, Int.natCast_zero] at h
  exact h
end Go.Proofs.YtkcgioggnbnfkaaDoor.CrcP
