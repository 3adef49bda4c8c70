/- How much a reader holds when so many blocks were asked for, over numbers and lists alone. -/
import Derived.Test.YtepcdngdllciiaaEnds
set_option linter.unusedVariables false
set_option linter.unusedSimpArgs false
namespace Go.Proofs.Ytepcdngdllciiaa.Hand
open Go.RowKit Go.Proofs.YtepcdngdllciiaaW.PrintWords Go.Proofs.YtepcdngdllciiaaW.PrintLast Go.Proofs.YtepcdngdllciiaaW.PrintMore Go.Proofs.YtepcdngdllciiaaW.HKit Go.Proofs.Ytepcdngdllciiaa.PSourceBlocks
/-- How many bytes have come, how many were told, how many pieces came, when so many blocks were asked for. -/
def st (szs : List Int) (n : Nat) : Nat → Nat × Nat × Nat
  | 0 => (0, 0, 0)
  | i + 1 => ((adv szs n (st szs n i).2.1 (n - (st szs n i).1) (st szs n i).1 (st szs n i).2.2).1, (if 512 ≤ (adv szs n (st szs n i).2.1 (n - (st szs n i).1) (st szs n i).1 (st szs n i).2.2).1 - (st szs n i).2.1 then (st szs n i).2.1 + 512 else (st szs n i).2.1),
      (adv szs n (st szs n i).2.1 (n - (st szs n i).1) (st szs n i).1 (st szs n i).2.2).2)
/-- What stands of a place. -/
def StOk (szs : List Int) (n i a t j : Nat) : Prop :=
  t = 512 * min i (n / 512) ∧ t ≤ a ∧ a ≤ n ∧ j ≤ a ∧ ∃ (pre : List Int) (F : Nat), ends szs n n 0 0 = pre ++ ends szs n F a j ∧ pre.length = j ∧ n - a ≤ F
theorem adv_pre (szs : List Int) (n t : Nat) (L : List Int) : ∀ f a j, a ≤ n → j ≤ a → (∃ (pre : List Int) (F : Nat), L = pre ++ ends szs n F a j ∧ pre.length = j ∧ n - a ≤ F) →
    (adv szs n t f a j).2 ≤ (adv szs n t f a j).1 ∧ ∃ (pre : List Int) (F : Nat), L = pre ++ ends szs n F (adv szs n t f a j).1 (adv szs n t f a j).2 ∧ pre.length = (adv szs n t f a j).2 ∧ n - (adv szs n t f a j).1 ≤ F
  | 0, a, j, ha, hj, h => ⟨hj, h⟩
  | f + 1, a, j, ha, hj, h => by
    by_cases hc : a - t < 512 ∧ a < n
    · have ea : adv szs n t (f + 1) a j = adv szs n t f (a + plen szs n a j) (j + 1) := by simp only [adv]; rw [if_pos hc]
      have hp := plen_pos szs j hc.2
      rw [ea]
      refine adv_pre szs n t L f _ _ (by omega) (by omega) ?_
      obtain ⟨pre, F, hL, hpre, hF⟩ := h
      obtain ⟨F, rfl⟩ : ∃ m, F = m + 1 := ⟨F - 1, by omega⟩
      unfold ends at hL
      rw [if_pos hc.2] at hL
      exact ⟨pre ++ [((a + plen szs n a j : Nat) : Int)], F, by rw [hL]; simp, by simp [hpre], by omega⟩
    · have ea : adv szs n t (f + 1) a j = (a, j) := by simp only [adv]; rw [if_neg hc]
      rw [ea]
      exact ⟨hj, h⟩
theorem st_ok (szs : List Int) (n : Nat) : ∀ i, StOk szs n i (st szs n i).1 (st szs n i).2.1 (st szs n i).2.2
  | 0 => ⟨by simp [st], Nat.le_refl _, Nat.zero_le _, Nat.le_refl _, [], n, rfl, rfl, Nat.sub_le _ _⟩
  | i + 1 => by
    obtain ⟨h1, h2, h3, h4, h5⟩ := st_ok szs n i
    simp only [st]
    generalize (st szs n i).1 = a at *
    generalize (st szs n i).2.1 = t at *
    generalize (st szs n i).2.2 = j at *
    have hl := adv_le szs n t (n - a) a j h3 (Nat.le_refl _)
    obtain ⟨k1, k2⟩ := adv_pre szs n t (ends szs n n 0 0) (n - a) a j h3 h4 h5
    generalize adv szs n t (n - a) a j = r at *
    refine ⟨?_, ?_, hl.2.1, k1, k2⟩
    · split <;> omega
    · split <;> omega
theorem held_l0 (szs : List Int) (n : Nat) (hn : n ≤ 1000000) : ∀ d i, i + d ≤ 1000000 → oakumref13_Held.l0 ((n + 2) * d + 1) ((i + d : Nat) : Int) (ends szs n n 0 0) ((st szs n i).1 : Int) ((st szs n i).2.1 : Int) ((st szs n i).2.2 : Int) (i : Int) =
    some (((st szs n (i + d)).1 : Int) - ((st szs n (i + d)).2.1 : Int))
  | 0, i, hi => by
    obtain ⟨h1, h2, h3, h4, h5⟩ := st_ok szs n i
    simp only [oakumref13_Held.l0, Nat.mul_zero, Nat.zero_add, Nat.add_zero]
    rw [if_neg (by omega), w64 (by omega) (by omega)]
  | d + 1, i, hi => by
    have ih := held_l0 szs n hn d (i + 1) (by omega)
    have ok := st_ok szs n i
    have e1 : i + 1 + d = i + (d + 1) := by omega
    rw [e1] at ih
    obtain ⟨h1, h2, h3, h4, pre, F, hL, hpre, hF⟩ := ok
    have hs : st szs n (i + 1) = ((adv szs n (st szs n i).2.1 (n - (st szs n i).1) (st szs n i).1 (st szs n i).2.2).1, (if 512 ≤ (adv szs n (st szs n i).2.1 (n - (st szs n i).1) (st szs n i).1 (st szs n i).2.2).1 - (st szs n i).2.1 then (st szs n i).2.1 + 512 else (st szs n i).2.1),
      (adv szs n (st szs n i).2.1 (n - (st szs n i).1) (st szs n i).1 (st szs n i).2.2).2) := rfl
    rw [hs] at ih
    have hm := held_l1 szs n hn ((i + (d + 1) : Nat) : Int) (st szs n i).2.1 i (by omega) (n - (st szs n i).1) F (st szs n i).1 (st szs n i).2.2 pre (ends szs n n 0 0) ((n + 2) * d + 1) _ hL hpre h2 h3 hF (Nat.le_refl _) (by omega) ih
    have hmono : ∀ k, LeO (oakumref13_Held.l1 k ((i + (d + 1) : Nat) : Int) (ends szs n n 0 0) ((st szs n i).1 : Int) ((st szs n i).2.1 : Int) ((st szs n i).2.2 : Int) (i : Int)) (oakumref13_Held.l1 (k + 1) ((i + (d + 1) : Nat) : Int) (ends szs n n 0 0) ((st szs n i).1 : Int) ((st szs n i).2.1 : Int) ((st szs n i).2.2 : Int) (i : Int)) :=
      fun k => (oakumref13_Held.mono_l k).2 _ _ _ _ _ _
    have e2 : (n + 2) * (d + 1) = (n + 2) * d + n + 2 := by rw [Nat.mul_succ]; omega
    have hm2 := at_rounds hmono (k' := (n + 2) * (d + 1)) (by omega) hm
    have e3 : (n + 2) * (d + 1) + 1 = ((n + 2) * (d + 1)) + 1 := rfl
    simp only [oakumref13_Held.l0]
    rw [if_pos (by omega)]
    exact hm2
theorem held_f (szs : List Int) (n i : Nat) (hn : n ≤ 1000000) (hs : szs.length ≤ 1000000) (hi : i ≤ 1000000) : ∃ k, oakumref13_Held.f k (n : Int) szs (i : Int) = some (((st szs n i).1 : Int) - ((st szs n i).2.1 : Int)) := by
  refine ⟨(n + 2) * i + 1 + n, ?_⟩
  have h0 := held_l0 szs n hn i 0 (by omega)
  have hmono : ∀ k, LeO (oakumref13_Held.l0 k ((i : Nat) : Int) (ends szs n n 0 0) 0 0 0 0) (oakumref13_Held.l0 (k + 1) ((i : Nat) : Int) (ends szs n n 0 0) 0 0 0 0) := fun k => (oakumref13_Held.mono_l k).1 _ _ _ _ _ _
  simp only [Nat.zero_add] at h0
  have h1 := at_rounds hmono (k' := (n + 2) * i + 1 + n) (by omega) h0
  unfold oakumref13_Held.f
  rw [ends_f szs n hn hs _ (by omega), Option.bind_some]
  exact h1
end Go.Proofs.Ytepcdngdllciiaa.Hand
