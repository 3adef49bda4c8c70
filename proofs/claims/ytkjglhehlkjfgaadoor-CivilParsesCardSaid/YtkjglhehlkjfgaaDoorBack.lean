/- A right date's text is read as that date: plain laws. -/
import Derived.Test.YtkjglhehlkjfgaaDoorHandF
set_option linter.unusedVariables false
set_option linter.unusedSimpArgs false
namespace Go.Proofs.YtkjglhehlkjfgaaDoor.Hand
open Go.RowKit Go.Proofs.YtkjglhehlkjfgaaDoor.Civ
theorem digit_nat (d : Nat) (h : d ≤ 9) : (UInt8.ofNat (48 + d)).toNat = 48 + d := by
  simp [UInt8.toNat_ofNat']
  omega
theorem parse_digit (M acc d : Nat) (hd : d ≤ 9) (ha : acc < 1844674407370955162) (hm : acc * 10 + d ≤ M) (rest : List UInt8) : Lib.parseUintM M acc (UInt8.ofNat (48 + d) :: rest) = Lib.parseUintM M (acc * 10 + d) rest := by
  rw [Lib.parseUintM, digit_nat d hd, if_pos (by omega), if_neg (by omega), if_neg (by omega)]
  congr 1
  omega
theorem parse_dec (M : Nat) (hM : M ≤ 18446744073709551615) : ∀ (k u : Nat), u < k → u ≤ M → ∀ rest, Lib.parseUintM M 0 (Lib.decDigits u ++ rest) = Lib.parseUintM M u rest := by
  intro k
  induction k with
  | zero => intro u h; omega
  | succ k ih =>
    intro u hk hu rest
    by_cases h : u < 10
    · rw [Lib.decDigits_one h]
      show Lib.parseUintM M 0 (UInt8.ofNat (48 + u) :: rest) = _
      rw [parse_digit M 0 u (by omega) (by omega) (by omega)]
      simp
    · rw [Lib.decDigits, dif_neg h, List.append_assoc, ih (u / 10) (by omega) (by omega)]
      show Lib.parseUintM M (u / 10) (UInt8.ofNat (48 + u % 10) :: rest) = _
      rw [parse_digit M (u / 10) (u % 10) (by omega) (by omega) (by omega), show u / 10 * 10 + u % 10 = u by omega]
theorem parse_zeros (M k : Nat) (l : List UInt8) : Lib.parseUintM M 0 (List.replicate k 48 ++ l) = Lib.parseUintM M 0 l := by
  induction k with
  | zero => rfl
  | succ k ih =>
    rw [List.replicate_succ, List.cons_append, show (48 : UInt8) = UInt8.ofNat (48 + 0) from rfl, parse_digit M 0 0 (by omega) (by omega) (by omega)]
    exact ih
theorem decDigits_ne (u : Nat) : Lib.decDigits u ≠ [] := by
  intro h
  have := Lib.decDigits_length u
  rw [h] at this
  have := Lib.nDigits_pos u
  simp at *
  omega
theorem parse_padded (k u : Nat) (hu : u ≤ 18446744073709551615) : Lib.parseUintB 64 (List.replicate k 48 ++ Lib.decDigits u) = .ok u := by
  unfold Lib.parseUintB
  rw [if_neg (by simp [decDigits_ne]), parse_zeros, ← List.append_nil (Lib.decDigits u), parse_dec _ (by decide) (u + 1) u (by omega) (by simpa using hu)]
  rfl
/-- All are digits. -/
def AllDig (l : List UInt8) : Prop := ∀ c ∈ l, 48 ≤ c.toNat ∧ c.toNat ≤ 57
theorem dec_dig : ∀ (k u : Nat), u < k → AllDig (Lib.decDigits u) := by
  intro k
  induction k with
  | zero => intro u h; omega
  | succ k ih =>
    intro u hk c hc
    by_cases h : u < 10
    · rw [Lib.decDigits_one h] at hc
      have hc := List.mem_singleton.1 hc
      subst hc
      rw [digit_nat u (by omega)]
      omega
    · rw [Lib.decDigits, dif_neg h] at hc
      rcases List.mem_append.1 hc with hc | hc
      · exact ih (u / 10) (by omega) c hc
      · have hc := List.mem_singleton.1 hc
        subst hc
        rw [digit_nat (u % 10) (by omega)]
        omega
theorem abs_dig (Y : Int) : AllDig (absL Y) := by
  intro c hc
  unfold absL at hc
  rcases List.mem_append.1 hc with hc | hc
  · have := List.eq_of_mem_replicate hc
    subst this
    decide
  · exact dec_dig (Y.natAbs + 1) Y.natAbs (by omega) c hc
theorem intAt_year (Y : Int) (h0 : -9223372036854775808 ≤ Y) (h1 : Y ≤ 9223372036854775807) : intAt ⟨(signL Y ++ absL Y).toArray⟩ = some Y := by
  have hp : Lib.parseUintB 64 (absL Y) = .ok Y.natAbs := parse_padded _ _ (by omega)
  have key : Lib.parseIntB 64 (signL Y ++ absL Y) = .ok Y := by
    unfold signL
    by_cases hy : Y < 0
    · rw [if_pos hy]
      show Lib.parseIntB 64 (45 :: absL Y) = _
      unfold Lib.parseIntB
      simp only [show (45 : UInt8).toNat = 45 from rfl, or_true, if_true, hp]
      rw [if_neg (by simp), if_neg (by simp; omega)]
      simp
      omega
    · rw [if_neg hy]
      show Lib.parseIntB 64 (absL Y) = _
      have hd := abs_dig Y
      cases hl : absL Y with
      | nil =>
        exfalso
        unfold absL at hl
        exact decDigits_ne _ (List.append_eq_nil_iff.1 hl).2
      | cons c r =>
        rw [hl] at hp hd
        have hc := hd c (by simp)
        unfold Lib.parseIntB
        simp only [show ¬ (c.toNat = 43 ∨ c.toNat = 45) by omega, if_false, hp]
        rw [if_neg (by simp; omega), if_neg (by omega), if_neg (by omega)]
        congr 1
        omega
  unfold intAt
  rw [show (⟨(signL Y ++ absL Y).toArray⟩ : ByteArray).data.toList = signL Y ++ absL Y by simp, key]
theorem u8At_two (n : Int) (h0 : 0 ≤ n) (h1 : n < 100) : u8At (twoS n) = some n.toNat := by
  have key : Lib.parseUintB 8 (twoL n) = .ok n.toNat := by
    rw [twoL_eq n h0 h1]
    unfold Lib.parseUintB
    rw [if_neg (by simp), parse_digit _ 0 (n.toNat / 10) (by omega) (by omega) (by simp; omega), parse_digit _ _ (n.toNat % 10) (by omega) (by omega) (by simp; omega), show (0 * 10 + n.toNat / 10) * 10 + n.toNat % 10 = n.toNat by omega]
    rfl
  unfold u8At twoS
  rw [show (⟨(twoL n).toArray⟩ : ByteArray).data.toList = twoL n by simp, key]
theorem ext_list (l : List UInt8) (a b : Nat) : (⟨l.toArray⟩ : ByteArray).extract a b = ⟨((l.drop a).take (b - a)).toArray⟩ := by
  apply ByteArray.ext
  simp [ByteArray.data_extract, List.extract_eq_take_drop]
theorem parsed_text (Y M D h m s : Int) (h0 : -9223372036854775808 ≤ Y) (h1 : Y ≤ 9223372036854775807) (hr : rightB Y M D h m s = true) : Parsed (textV Y M D h m s) Y M.toNat D.toNat h.toNat m.toNat s.toNat := by
  obtain ⟨⟨a1, a2, a3, a4⟩, b1, b2, b3, b4, b5, b6⟩ := (rightB_iff ..).1 hr
  have hdm := dpm_pos Y M a1 a2
  have ht : textV Y M D h m s = ⟨(textL Y M D h m s).toArray⟩ := by unfold textV; rw [hr]; rfl
  obtain ⟨yr, hyr⟩ : ∃ yr, yr = signL Y ++ absL Y := ⟨_, rfl⟩
  have hL : textL Y M D h m s = yr ++ ([45] ++ twoL M ++ [45] ++ twoL D ++ [32] ++ twoL h ++ [58] ++ twoL m ++ [58] ++ twoL s) := by
    unfold textL
    rw [hyr]
    simp only [List.append_assoc]
  have hz : (textV Y M D h m s).size = yr.length + 15 := by
    rw [ht]
    show (textL Y M D h m s).toArray.size = _
    rw [List.size_toArray, hL, twoL_eq M (by omega) (by omega), twoL_eq D (by omega) (by omega), twoL_eq h (by omega) (by omega), twoL_eq m (by omega) (by omega), twoL_eq s (by omega) (by omega)]
    simp
  have hy4 : 4 ≤ yr.length := by
    rw [hyr, List.length_append]
    unfold absL
    rw [List.length_append, List.length_replicate]
    omega
  have hpc : ∀ i, i < 5 → pcS (textV Y M D h m s) i = ⟨(((textL Y M D h m s).drop (yr.length + 1 + 3 * i)).take 2).toArray⟩ := by
    intro i hi
    unfold pcS
    rw [hz, ht, ext_list]
    rw [show yr.length + 15 - 15 + 1 + 3 * i = yr.length + 1 + 3 * i by omega, show yr.length + 15 - 15 + 3 + 3 * i - (yr.length + 1 + 3 * i) = 2 by omega]
  have hdrop : ∀ k, (textL Y M D h m s).drop (yr.length + k) = ([45] ++ twoL M ++ [45] ++ twoL D ++ [32] ++ twoL h ++ [58] ++ twoL m ++ [58] ++ twoL s).drop k := by
    intro k
    rw [hL, List.drop_append]
    simp
  have e0 : pcS (textV Y M D h m s) 0 = twoS M := by
    rw [hpc 0 (by decide), show yr.length + 1 + 3 * 0 = yr.length + 1 by omega, hdrop]
    unfold twoS
    rw [twoL_eq M (by omega) (by omega)]
    rfl
  have e1 : pcS (textV Y M D h m s) 1 = twoS D := by
    rw [hpc 1 (by decide), show yr.length + 1 + 3 * 1 = yr.length + 4 by omega, hdrop]
    unfold twoS
    rw [twoL_eq M (by omega) (by omega), twoL_eq D (by omega) (by omega)]
    rfl
  have e2 : pcS (textV Y M D h m s) 2 = twoS h := by
    rw [hpc 2 (by decide), show yr.length + 1 + 3 * 2 = yr.length + 7 by omega, hdrop]
    unfold twoS
    rw [twoL_eq M (by omega) (by omega), twoL_eq D (by omega) (by omega), twoL_eq h (by omega) (by omega)]
    rfl
  have e3 : pcS (textV Y M D h m s) 3 = twoS m := by
    rw [hpc 3 (by decide), show yr.length + 1 + 3 * 3 = yr.length + 10 by omega, hdrop]
    unfold twoS
    rw [twoL_eq M (by omega) (by omega), twoL_eq D (by omega) (by omega), twoL_eq h (by omega) (by omega), twoL_eq m (by omega) (by omega)]
    rfl
  have e4 : pcS (textV Y M D h m s) 4 = twoS s := by
    rw [hpc 4 (by decide), show yr.length + 1 + 3 * 4 = yr.length + 13 by omega, hdrop]
    unfold twoS
    rw [twoL_eq M (by omega) (by omega), twoL_eq D (by omega) (by omega), twoL_eq h (by omega) (by omega), twoL_eq m (by omega) (by omega), twoL_eq s (by omega) (by omega)]
    rfl
  have ey : yrS (textV Y M D h m s) = ⟨(signL Y ++ absL Y).toArray⟩ := by
    unfold yrS
    rw [hz, ht, ext_list, show yr.length + 15 - 15 - 0 = yr.length by omega, List.drop_zero, hL, List.take_left', hyr]
    rfl
  refine ⟨by omega, by rw [ey]; exact intAt_year Y h0 h1, by rw [e0]; exact u8At_two M (by omega) (by omega), by rw [e1]; exact u8At_two D (by omega) (by omega), by rw [e2]; exact u8At_two h (by omega) (by omega), by rw [e3]; exact u8At_two m (by omega) (by omega), by rw [e4]; exact u8At_two s (by omega) (by omega), ?_⟩
  rw [Int.toNat_of_nonneg (by omega), Int.toNat_of_nonneg (by omega), Int.toNat_of_nonneg (by omega), Int.toNat_of_nonneg (by omega), Int.toNat_of_nonneg (by omega)]
theorem parsed_right {s : ByteArray} {Y : Int} {a b c d e : Nat} (h : Parsed s Y a b c d e) : rightB Y a b c d e = true := by
  obtain ⟨h19, _, _, _, _, _, _, ht⟩ := h
  cases hr : rightB Y a b c d e
  · exfalso
    unfold textV at ht
    rw [hr] at ht
    subst ht
    simp at h19
    exact absurd h19 (by decide)
  · rfl
theorem textV_size (Y M D h m s : Int) (h0 : -9223372036854775808 ≤ Y) (h1 : Y ≤ 9223372036854775807) (hr : rightB Y M D h m s = true) : (textV Y M D h m s).size ≤ 100 := by
  obtain ⟨⟨a1, a2, a3, a4⟩, b1, b2, b3, b4, b5, b6⟩ := (rightB_iff ..).1 hr
  have hdm := dpm_pos Y M a1 a2
  have hd := decLen Y h0 h1
  unfold textV
  rw [hr, if_pos rfl]
  show (textL Y M D h m s).toArray.size ≤ 100
  rw [List.size_toArray]
  unfold textL
  simp only [List.length_append, twoL_len M (by omega) (by omega), twoL_len D (by omega) (by omega), twoL_len h (by omega) (by omega), twoL_len m (by omega) (by omega), twoL_len s (by omega) (by omega)]
  have h2 : (signL Y).length ≤ 1 := by unfold signL; split <;> simp
  have h3 : (absL Y).length ≤ 24 := by
    unfold absL
    rw [List.length_append, List.length_replicate]
    omega
  simp
  omega
end Go.Proofs.YtkjglhehlkjfgaaDoor.Hand
