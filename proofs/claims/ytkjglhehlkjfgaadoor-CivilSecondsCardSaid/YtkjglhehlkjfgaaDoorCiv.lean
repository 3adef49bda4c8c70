/- Dates and their days: plain laws on whole numbers. -/
set_option linter.unusedVariables false
namespace Go.Proofs.YtkjglhehlkjfgaaDoor.Civ
def leap (y : Int) : Bool := y % 400 == 0 || (y % 4 == 0 && y % 100 != 0)
def dpm (y m : Int) : Int := if m < 1 ∨ 12 < m then 0 else if m = 2 then (if leap y then 29 else 28) else if m = 4 ∨ m = 6 ∨ m = 9 ∨ m = 11 then 30 else 31
/-- The day number (from 1970 on) of the first of a month. -/
def first (y m : Int) : Int :=
  let y' := if m < 3 then y - 1 else y
  let mp := if m < 3 then m + 9 else m - 3
  365 * y' + y' / 4 - y' / 100 + y' / 400 + (153 * mp + 2) / 5 - 719468
theorem leap_iff (y : Int) : leap y = true ↔ y % 400 = 0 ∨ (y % 4 = 0 ∧ y % 100 ≠ 0) := by
  simp [leap]
theorem first_next (y m : Int) (h1 : 1 ≤ m) (h2 : m ≤ 11) : first y (m + 1) = first y m + dpm y m := by
  have hl := leap_iff y
  have hm : m = 1 ∨ m = 2 ∨ m = 3 ∨ m = 4 ∨ m = 5 ∨ m = 6 ∨ m = 7 ∨ m = 8 ∨ m = 9 ∨ m = 10 ∨ m = 11 := by omega
  rcases hm with rfl | rfl | rfl | rfl | rfl | rfl | rfl | rfl | rfl | rfl | rfl <;> simp only [first, dpm] <;> simp
  all_goals first | omega | skip
  by_cases h : leap y = true
  · rw [h]; simp; rw [hl] at h; omega
  · have h' : leap y = false := by simpa using h
    rw [h']; simp; rw [hl] at h; omega
theorem first_year (y : Int) : first (y + 1) 1 = first y 12 + 31 := by
  simp [first]; omega
theorem first_yearlen (y : Int) : first (y + 1) 1 = first y 1 + (if leap y then 366 else 365) := by
  have hl := leap_iff y
  simp only [first]
  by_cases h : leap y = true
  · rw [h]; simp; rw [hl] at h; omega
  · have h' : leap y = false := by simpa using h
    rw [h']; simp; rw [hl] at h; omega
theorem dpm_pos (y m : Int) (h1 : 1 ≤ m) (h2 : m ≤ 12) : 28 ≤ dpm y m ∧ dpm y m ≤ 31 := by
  unfold dpm
  repeat' split
  all_goals omega
/-- By the months' number. -/
def F (n : Int) : Int := first (n / 12) (n % 12 + 1)
theorem F_next (n : Int) : F (n + 1) = F n + dpm (n / 12) (n % 12 + 1) := by
  unfold F
  by_cases h : n % 12 = 11
  · have e1 : (n + 1) / 12 = n / 12 + 1 := by omega
    have e2 : (n + 1) % 12 = 0 := by omega
    rw [e1, e2, h]
    have := first_year (n / 12)
    simp [dpm]
    simpa using this
  · have e1 : (n + 1) / 12 = n / 12 := by omega
    have e2 : (n + 1) % 12 = n % 12 + 1 := by omega
    rw [e1, e2]
    exact first_next _ _ (by omega) (by omega)
theorem F_mono (n : Int) (k : Nat) : F n + 28 * k ≤ F (n + k) := by
  induction k with
  | zero => simp
  | succ k ih =>
    have h := F_next (n + k)
    have := dpm_pos ((n + k) / 12) ((n + k) % 12 + 1) (by omega) (by omega)
    rw [show n + ((k + 1 : Nat) : Int) = n + k + 1 by omega, h]
    omega
/-- The day of a date. -/
def dayNo (y m d : Int) : Int := first y m + d - 1
def Right3 (y m d : Int) : Prop := 1 ≤ m ∧ m ≤ 12 ∧ 1 ≤ d ∧ d ≤ dpm y m
theorem first_F (y m : Int) (h1 : 1 ≤ m) (h2 : m ≤ 12) : first y m = F (12 * y + (m - 1)) := by
  unfold F
  have e1 : (12 * y + (m - 1)) / 12 = y := by omega
  have e2 : (12 * y + (m - 1)) % 12 + 1 = m := by omega
  rw [e1, e2]
/-- An earlier date has an earlier day. -/
theorem day_lt {y m d y' m' d' : Int} (h : Right3 y m d) (h' : Right3 y' m' d') (hl : y < y' ∨ (y = y' ∧ (m < m' ∨ (m = m' ∧ d < d')))) : dayNo y m d < dayNo y' m' d' := by
  obtain ⟨a1, a2, a3, a4⟩ := h
  obtain ⟨b1, b2, b3, b4⟩ := h'
  by_cases he : y = y' ∧ m = m'
  · obtain ⟨rfl, rfl⟩ := he
    simp only [dayNo]
    omega
  · have hlt : 12 * y + (m - 1) < 12 * y' + (m' - 1) := by omega
    obtain ⟨k, hk⟩ : ∃ k : Nat, 12 * y' + (m' - 1) = 12 * y + (m - 1) + 1 + k := ⟨(12 * y' + (m' - 1) - (12 * y + (m - 1)) - 1).toNat, by omega⟩
    have h1 := F_mono (12 * y + (m - 1) + 1) k
    have h2 := F_next (12 * y + (m - 1))
    have e1 : (12 * y + (m - 1)) / 12 = y := by omega
    have e2 : (12 * y + (m - 1)) % 12 + 1 = m := by omega
    rw [e1, e2] at h2
    rw [← hk] at h1
    simp only [dayNo, first_F y m a1 a2, first_F y' m' b1 b2]
    omega
theorem day_inj {y m d y' m' d' : Int} (h : Right3 y m d) (h' : Right3 y' m' d') (he : dayNo y m d = dayNo y' m' d') : y = y' ∧ m = m' ∧ d = d' := by
  by_cases hl : y < y' ∨ (y = y' ∧ (m < m' ∨ (m = m' ∧ d < d')))
  · have := day_lt h h' hl; omega
  · by_cases hl' : y' < y ∨ (y' = y ∧ (m' < m ∨ (m' = m ∧ d' < d)))
    · have := day_lt h' h hl'; omega
    · omega
def start (y : Int) : Int := 365 * y + y / 4 - y / 100
def gg (d : Int) : Int := d - d / 1460 + d / 36524 - d / 146096
theorem gg_mono {a b : Int} (h0 : 0 ≤ a) (h : a ≤ b) : gg a ≤ gg b := by
  unfold gg
  have e1 : a / 146096 = a / 36524 / 4 := by omega
  have e2 : b / 146096 = b / 36524 / 4 := by omega
  have h1 : b / 1460 - a / 1460 ≤ b - a := by omega
  have h2 : a / 36524 ≤ b / 36524 := by omega
  rw [e1, e2]
  omega
theorem start_ex (n : Nat) : ∀ d : Int, 0 ≤ d → d < start n → ∃ y : Nat, y < n ∧ start y ≤ d ∧ d < start (y + 1 : Nat) := by
  induction n with
  | zero => intro d h0 h1; simp [start] at h1; omega
  | succ n ih =>
    intro d h0 h1
    by_cases h : d < start n
    · obtain ⟨y, a, b, c⟩ := ih d h0 h
      exact ⟨y, by omega, b, c⟩
    · exact ⟨n, by omega, by omega, h1⟩
def chk (y : Nat) : Bool := decide (365 * (y : Int) ≤ gg (start y)) && decide (gg (start (y + 1 : Nat) - 1) < 365 * (y + 1 : Int))
theorem chk_all : (List.range 400).all chk = true := by decide +kernel
theorem chk_at (y : Nat) (h : y < 400) : 365 * (y : Int) ≤ gg (start y) ∧ gg (start (y + 1 : Nat) - 1) < 365 * (y + 1 : Int) := by
  have := List.all_eq_true.1 chk_all y (List.mem_range.2 h)
  simpa [chk] using this
/-- The program's year in a round, and the day in it. -/
theorem round_year (d : Int) (h0 : 0 ≤ d) (h1 : d < 146097) :
    let y := gg d / 365
    0 ≤ y ∧ y ≤ 399 ∧ 0 ≤ d - start y ∧ d - start y ≤ 365 ∧ (d - start y = 365 → (y + 1) % 4 = 0 ∧ ((y + 1) % 100 ≠ 0 ∨ (y + 1) % 400 = 0)) := by
  intro y
  have hy : y = gg d / 365 := rfl
  clear_value y
  by_cases he : d = 146096
  · subst he
    have hg : gg 146096 / 365 = 399 := by decide
    rw [hg] at hy
    subst hy
    decide
  · obtain ⟨k, hk, h2, h3⟩ := start_ex 400 d h0 (by have : start (400 : Nat) = 146096 := by decide
                                                    rw [this]; omega)
    obtain ⟨c1, c2⟩ := chk_at k hk
    have hs : 0 ≤ start k := by unfold start; omega
    have m1 := gg_mono hs h2
    have m2 := gg_mono (a := d) (b := start (k + 1 : Nat) - 1) h0 (by omega)
    have hyk : y = k := by omega
    subst hyk
    clear m1 m2 c1 c2 hy hs
    simp only [start] at *
    push_cast at *
    have f1 : (k : Int) / 100 ≤ ((k : Int) + 1) / 100 := by omega
    have f2 : ((k : Int) + 1) / 4 ≤ (k : Int) / 4 + 1 := by omega
    refine ⟨by omega, by omega, by omega, by omega, fun h => ?_⟩
    have f3 : ((k : Int) + 1) / 4 = (k : Int) / 4 + 1 := by omega
    have f4 : ((k : Int) + 1) / 100 = (k : Int) / 100 := by omega
    clear h f1 f2 h2 h3 h0 h1 he
    omega
/-- The program's year, month and day of a day. -/
def rnd (n : Int) : Int := (n + 719468) / 146097
def din (n : Int) : Int := (n + 719468) % 146097
def yin (n : Int) : Int := gg (din n) / 365
def dyr (n : Int) : Int := din n - start (yin n)
def mon (n : Int) : Int := (5 * dyr n + 2) / 153
def ofM (n : Int) : Int := if mon n + 3 > 12 then mon n + 3 - 12 else mon n + 3
def ofY (n : Int) : Int := if mon n + 3 > 12 then rnd n * 400 + yin n + 1 else rnd n * 400 + yin n
def ofD (n : Int) : Int := dyr n - (153 * mon n + 2) / 5 + 1
theorem of_day (n : Int) : Right3 (ofY n) (ofM n) (ofD n) ∧ dayNo (ofY n) (ofM n) (ofD n) = n := by
  have hr := round_year (din n) (by unfold din; omega) (by unfold din; omega)
  have hn : n = 146097 * rnd n + din n - 719468 := by unfold rnd din; omega
  have hyn : yin n = gg (din n) / 365 := rfl
  simp only [← hyn] at hr
  have hd : dyr n = din n - start (yin n) := rfl
  have hm : mon n = (5 * dyr n + 2) / 153 := rfl
  have hD : ofD n = dyr n - (153 * mon n + 2) / 5 + 1 := rfl
  have hM : ofM n = if mon n + 3 > 12 then mon n + 3 - 12 else mon n + 3 := rfl
  have hY : ofY n = if mon n + 3 > 12 then rnd n * 400 + yin n + 1 else rnd n * 400 + yin n := rfl
  rw [← hd] at hr
  obtain ⟨r1, r2, r3, r4, r5⟩ := hr
  generalize ofY n = Y at *
  generalize ofM n = M at *
  generalize ofD n = D at *
  generalize mon n = mp at *
  generalize dyr n = d2 at *
  generalize yin n = y at *
  generalize rnd n = R at *
  generalize din n = d at *
  clear hyn
  have hmp : 0 ≤ mp ∧ mp ≤ 11 := by omega
  have hfirst : dayNo Y M D = n := by
    unfold dayNo first
    by_cases h : mp + 3 > 12
    · rw [if_pos h] at hM hY
      have : M < 3 := by omega
      simp only [this, if_true]
      rw [hM, hY, hD]
      have e : mp + 3 - 12 + 9 = mp := by omega
      rw [e]
      have k4 : (R * 400 + y + 1 - 1) / 4 = 100 * R + y / 4 := by omega
      have k100 : (R * 400 + y + 1 - 1) / 100 = 4 * R + y / 100 := by omega
      have k400 : (R * 400 + y + 1 - 1) / 400 = R := by omega
      rw [k4, k100, k400]
      simp only [start] at hd
      omega
    · rw [if_neg h] at hM hY
      have : ¬ M < 3 := by omega
      simp only [this, if_false]
      rw [hM, hY, hD]
      have e : mp + 3 - 3 = mp := by omega
      rw [e]
      have k4 : (R * 400 + y) / 4 = 100 * R + y / 4 := by omega
      have k100 : (R * 400 + y) / 100 = 4 * R + y / 100 := by omega
      have k400 : (R * 400 + y) / 400 = R := by omega
      rw [k4, k100, k400]
      simp only [start] at hd
      omega
  refine ⟨⟨?_, ?_, ?_, ?_⟩, hfirst⟩
  · split at hM <;> omega
  · split at hM <;> omega
  · omega
  · clear hfirst hn
    have hl := leap_iff Y
    have hc : mp = 0 ∨ mp = 1 ∨ mp = 2 ∨ mp = 3 ∨ mp = 4 ∨ mp = 5 ∨ mp = 6 ∨ mp = 7 ∨ mp = 8 ∨ mp = 9 ∨ mp = 10 ∨ mp = 11 := by omega
    rcases hc with rfl | rfl | rfl | rfl | rfl | rfl | rfl | rfl | rfl | rfl | rfl | rfl <;> simp at hM hY <;> subst hM <;> simp [dpm] <;> try omega
    by_cases h : leap Y = true
    · rw [h]; simp; omega
    · have h' : leap Y = false := by simpa using h
      rw [h']; simp; rw [hl] at h; omega
end Go.Proofs.YtkjglhehlkjfgaaDoor.Civ
