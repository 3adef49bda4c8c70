/- The pieces' ends, and how much a reader holds, over numbers and lists alone: what the printed references tell, and what gather does; conditions stand with each. -/
import Derived.Test.YtepcdngdllciiaaHandD
import Derived.Test.YtepcdngdllciiaaPSourceBlocksx1
import Derived.IntWalk
set_option linter.unusedVariables false
set_option linter.unusedSimpArgs false
namespace Go.Proofs.Ytepcdngdllciiaa.Hand
open Go.RowKit Go.Proofs.YtepcdngdllciiaaW.PrintWords Go.Proofs.YtepcdngdllciiaaW.PrintLast Go.Proofs.YtepcdngdllciiaaW.PrintMore Go.Proofs.YtepcdngdllciiaaW.HKit Go.Proofs.Ytepcdngdllciiaa.PSourceBlocks
theorem w64 {x : Int} (h0 : -9223372036854775808 ≤ x) (h1 : x ≤ 9223372036854775807) : wrap64 x = x := IntWalk.wrap64_in _ ⟨h0, h1⟩
theorem wadd1 (j : Nat) (h : j ≤ 4000000) : wrap64 ((j : Int) + 1) = ((j + 1 : Nat) : Int) := by rw [w64 (by omega) (by omega)]; omega
theorem wadd512 (j : Nat) (h : j ≤ 4000000) : wrap64 ((j : Int) + 512) = ((j + 512 : Nat) : Int) := by rw [w64 (by omega) (by omega)]; omega
/-- How long the j-th piece is when so many bytes have gone. -/
def psz (szs : List Int) (j : Nat) : Nat := (pieceSize szs (min j szs.length)).toNat
def plen (szs : List Int) (n a j : Nat) : Nat := min (psz szs j) (n - a)
theorem pieceSize_pos (szs : List Int) (k : Nat) : 1 ≤ pieceSize szs k := by
  unfold pieceSize
  split
  · omega
  · unfold mx; split <;> omega
theorem psz_pos (szs : List Int) (j : Nat) : 1 ≤ psz szs j := by
  have := pieceSize_pos szs (min j szs.length)
  unfold psz; omega
theorem psz_cast (szs : List Int) (j : Nat) : ((psz szs j : Nat) : Int) = pieceSize szs (min j szs.length) := by
  have := pieceSize_pos szs (min j szs.length)
  unfold psz; omega
theorem pieceLen_plen (bs szs : List Int) (n a j : Nat) (h : bs.length = n - a) : pieceLen bs szs (min j szs.length) = plen szs n a j := by
  have := psz_cast szs j
  unfold pieceLen plen mn
  rw [← this, h]
  split <;> omega
theorem pieceNext_min (szs : List Int) (j : Nat) : pieceNext szs (min j szs.length) = min (j + 1) szs.length := by
  unfold pieceNext; split <;> omega
theorem plen_pos (szs : List Int) {n a : Nat} (j : Nat) (h : a < n) : 1 ≤ plen szs n a j ∧ a + plen szs n a j ≤ n := by
  have := psz_pos szs j
  unfold plen; omega
/-- The ends of the pieces that are still to come. -/
def ends (szs : List Int) (n : Nat) : Nat → Nat → Nat → List Int
  | 0, _, _ => []
  | f + 1, a, j => if a < n then ((a + plen szs n a j : Nat) : Int) :: ends szs n f (a + plen szs n a j) (j + 1) else []
theorem ends_length (szs : List Int) (n : Nat) : ∀ f a j, (ends szs n f a j).length ≤ f
  | 0, _, _ => Nat.le_refl _
  | f + 1, a, j => by
    unfold ends
    split
    · have := ends_length szs n f (a + plen szs n a j) (j + 1)
      simp; omega
    · simp
theorem size_f (szs : List Int) (j : Nat) (h : szs.length ≤ 1000000) : oakumref13_Size.f szs (j : Int) = some (pieceSize szs (min j szs.length)) := by
  unfold oakumref13_Size.f pieceSize
  by_cases h0 : szs.length = 0
  · rw [if_pos (by omega), if_pos h0]
  · have e1 : wrap64 ((szs.length : Int) - 1) = ((szs.length - 1 : Nat) : Int) := by rw [w64 (by omega) (by omega)]; omega
    rw [if_neg (by omega), e1, if_pos (by omega), if_pos (by omega), if_neg h0]
    by_cases hj : j < szs.length
    · rw [if_pos (by omega), if_pos (by omega)]
      have e2 : min (min j szs.length) (szs.length - 1) = j := by omega
      rw [e2]
      unfold mx
      split <;> rfl
    · rw [if_neg (by omega)]
      have e2 : min (min j szs.length) (szs.length - 1) = szs.length - 1 := by omega
      rw [e2]
      unfold mx
      split <;> rfl
theorem ends_l0 (szs : List Int) (n : Nat) (hn : n ≤ 1000000) (hs : szs.length ≤ 1000000) : ∀ (f a j : Nat) (x : List Int) (k : Nat), a ≤ n → n - a ≤ f → f < k → x.length + f ≤ 2000000 → j + f ≤ 2000000 →
    oakumref13_Ends.l0 k (n : Int) szs x (a : Int) (j : Int) = some (x ++ ends szs n f a j)
  | 0, a, j, x, k, ha, hf, hk, hx, hj => by
    obtain ⟨k, rfl⟩ : ∃ m, k = m + 1 := ⟨k - 1, by omega⟩
    simp only [oakumref13_Ends.l0]
    rw [if_neg (by omega)]
    simp [ends]
  | f + 1, a, j, x, k, ha, hf, hk, hx, hj => by
    obtain ⟨k, rfl⟩ : ∃ m, k = m + 1 := ⟨k - 1, by omega⟩
    simp only [oakumref13_Ends.l0, ends]
    by_cases hlt : a < n
    · have hp := plen_pos szs j hlt
      have hc := psz_cast szs j
      have ih := ends_l0 szs n hn hs f (a + plen szs n a j) (j + 1) (x ++ [((a + plen szs n a j : Nat) : Int)]) k (by omega) (by omega) (by omega) (by simp; omega) (by omega)
      rw [if_pos (by omega), if_pos hlt, size_f szs j hs, Option.bind_some, w64 (x := (n : Int) - a) (by omega) (by omega), ← hc]
      have ej := wadd1 j (by omega)
      rw [ej]
      have hpl : plen szs n a j = min (psz szs j) (n - a) := rfl
      split
      · rename_i h1
        have e : (a : Int) + (n - a) = ((a + plen szs n a j : Nat) : Int) := by omega
        rw [if_pos (by omega), w64 (x := (a : Int) + (n - a)) (by omega) (by omega), e]
        refine ih.trans ?_
        simp
      · rename_i h1
        have e : (a : Int) + (psz szs j : Nat) = ((a + plen szs n a j : Nat) : Int) := by omega
        rw [if_pos (by omega), w64 (x := (a : Int) + (psz szs j : Nat)) (by omega) (by omega), e]
        refine ih.trans ?_
        simp
    · rw [if_neg (by omega), if_neg hlt]
      simp
theorem ends_f (szs : List Int) (n : Nat) (hn : n ≤ 1000000) (hs : szs.length ≤ 1000000) (k : Nat) (hk : n < k) : oakumref13_Ends.f k (n : Int) szs = some (ends szs n n 0 0) := by
  have := ends_l0 szs n hn hs n 0 0 [] k (by omega) (by omega) hk (by simp; omega) (by omega)
  simpa [oakumref13_Ends.f] using this
/-- Pieces come while fewer than 512 bytes are held. -/
def adv (szs : List Int) (n t : Nat) : Nat → Nat → Nat → Nat × Nat
  | 0, a, j => (a, j)
  | f + 1, a, j => if a - t < 512 ∧ a < n then adv szs n t f (a + plen szs n a j) (j + 1) else (a, j)
theorem adv_le (szs : List Int) (n t : Nat) : ∀ f a j, a ≤ n → n - a ≤ f → a ≤ (adv szs n t f a j).1 ∧ (adv szs n t f a j).1 ≤ n ∧ (512 ≤ (adv szs n t f a j).1 - t ∨ (adv szs n t f a j).1 = n) ∧ j ≤ (adv szs n t f a j).2 ∧ (adv szs n t f a j).2 ≤ j + f
  | 0, a, j, ha, hf => by simp only [adv]; omega
  | f + 1, a, j, ha, hf => by
    simp only [adv]
    split
    · rename_i h
      have hp := plen_pos szs j h.2
      have := adv_le szs n t f (a + plen szs n a j) (j + 1) (by omega) (by omega)
      omega
    · omega
theorem gather_adv (b szs : List Int) (t : Nat) : ∀ f a j, t ≤ a → a ≤ b.length → gather szs f ((b.take a).drop t) (b.drop a) (min j szs.length) =
    ((b.take (adv szs b.length t f a j).1).drop t, b.drop (adv szs b.length t f a j).1, min (adv szs b.length t f a j).2 szs.length)
  | 0, a, j, ht, ha => rfl
  | f + 1, a, j, ht, ha => by
    have l1 : ((b.take a).drop t).length = a - t := by rw [List.length_drop, List.length_take]; omega
    have l2 : (b.drop a).length = b.length - a := List.length_drop
    unfold gather adv
    rw [l1, l2]
    by_cases hc : a - t < 512 ∧ a < b.length
    · rw [if_pos hc, if_pos ⟨hc.1, by omega⟩]
      have hp := plen_pos szs j hc.2
      have ih := gather_adv b szs t f (a + plen szs b.length a j) (j + 1) (by omega) (by omega)
      rw [pieceLen_plen (b.drop a) szs b.length a j l2, pieceNext_min]
      have e1 : (b.take a).drop t ++ (b.drop a).take (plen szs b.length a j) = (b.take (a + plen szs b.length a j)).drop t := by
        rw [List.take_add, List.drop_append_of_le_length (by rw [List.length_take]; omega)]
      rw [e1, List.drop_drop]
      exact ih
    · rw [if_neg hc, if_neg (by omega)]
theorem rd_at (pre rest : List Int) (y : Int) : rd (pre ++ y :: rest) ((pre.length : Nat) : Int) = y := by
  unfold rd
  rw [Int.toNat_natCast]
  simp [List.getD_eq_getElem?_getD]
/-- The place of the reference's inner loop. -/
theorem held_l1 (szs : List Int) (n : Nat) (hn : n ≤ 1000000) (x2 : Int) (t : Nat) (i : Nat) (hi : i ≤ 1000000) : ∀ (f F a j : Nat) (pre L : List Int) (m : Nat) (res : Int), L = pre ++ ends szs n F a j → pre.length = j → t ≤ a → a ≤ n → n - a ≤ F → n - a ≤ f → j + f ≤ 2000000 →
    (oakumref13_Held.l0 m x2 L ((adv szs n t f a j).1 : Int) ((if 512 ≤ (adv szs n t f a j).1 - t then t + 512 else t : Nat) : Int) ((adv szs n t f a j).2 : Int) ((i + 1 : Nat) : Int) = some res) → oakumref13_Held.l1 (m + f + 1) x2 L (a : Int) (t : Int) (j : Int) (i : Int) = some res := by
  have done : ∀ (a j : Nat) (L : List Int) (m f : Nat) (res : Int), t ≤ a → a ≤ n → j ≤ 2000000 → ¬ (a - t < 512 ∧ j < L.length) → oakumref13_Held.l0 m x2 L (a : Int) ((if 512 ≤ a - t then t + 512 else t : Nat) : Int) (j : Int) ((i + 1 : Nat) : Int) = some res →
      oakumref13_Held.l1 (m + f + 1) x2 L (a : Int) (t : Int) (j : Int) (i : Int) = some res := by
    intro a j L m f res ht ha hj hc hm
    have hmono : ∀ y2 y3 y4 y5, ∀ k, LeO (oakumref13_Held.l0 k x2 L y2 y3 y4 y5) (oakumref13_Held.l0 (k + 1) x2 L y2 y3 y4 y5) := fun y2 y3 y4 y5 k => (oakumref13_Held.mono_l k).1 _ _ _ _ _ _
    have hm2 := at_rounds (hmono _ _ _ _) (Nat.le_add_right m f) hm
    simp only [oakumref13_Held.l1]
    rw [w64 (x := (a : Int) - t) (by omega) (by omega)]
    have ei := wadd1 i (by omega)
    have et := wadd512 t (by omega)
    rw [ei, et]
    by_cases h1 : a - t < 512
    · rw [if_pos (by omega), if_neg (by omega), if_neg (by omega)]
      rw [if_neg (by omega)] at hm2
      exact hm2
    · rw [if_neg (by omega), if_pos (by omega)]
      rw [if_pos (by omega)] at hm2
      exact hm2
  intro f
  induction f with
  | zero =>
    intro F a j pre L m res hL hpre ht ha hF hf hj hm
    have ea : adv szs n t 0 a j = (a, j) := rfl
    rw [ea] at hm
    refine done a j L m 0 res ht ha (by omega) ?_ hm
    rintro ⟨_, h2⟩
    rw [hL, List.length_append, hpre] at h2
    have e : a = n := by omega
    have : ends szs n F a j = [] := by cases F with
      | zero => rfl
      | succ F => unfold ends; rw [if_neg (by omega)]
    rw [this] at h2
    simp at h2
  | succ f ih =>
    intro F a j pre L m res hL hpre ht ha hF hf hj hm
    by_cases hc : a - t < 512 ∧ a < n
    · have ea : adv szs n t (f + 1) a j = adv szs n t f (a + plen szs n a j) (j + 1) := by simp only [adv]; rw [if_pos hc]
      rw [ea] at hm
      have hp := plen_pos szs j hc.2
      obtain ⟨F, rfl⟩ : ∃ m, F = m + 1 := ⟨F - 1, by omega⟩
      unfold ends at hL
      rw [if_pos hc.2] at hL
      have hjl : (j : Int) < (L.length : Int) := by rw [hL, List.length_append, hpre]; simp; omega
      have hrd : rd L (j : Int) = ((a + plen szs n a j : Nat) : Int) := by rw [hL, ← hpre]; exact rd_at _ _ _
      have hm' := ih F (a + plen szs n a j) (j + 1) (pre ++ [((a + plen szs n a j : Nat) : Int)]) L m res (by rw [hL]; simp) (by simp [hpre]) (by omega) (by omega) (by omega) (by omega) (by omega) hm
      have e : m + (f + 1) + 1 = (m + f + 1) + 1 := by omega
      rw [e]
      clear hm hL ea ih done
      have c1 : (a : Int) - t < 512 := by clear hm' hrd; omega
      have c2 : (0 : Int) ≤ (j : Int) := Int.natCast_nonneg j
      have c3 : wrap64 ((a : Int) - t) = (a : Int) - t := w64 (by clear hm' hrd; omega) (by clear hm' hrd; omega)
      have ej := wadd1 j (by clear hm' hrd; omega)
      simp only [oakumref13_Held.l1]
      rw [c3, if_pos c1, if_pos hjl, if_pos c2, hrd, ej]
      exact hm'
    · have ea : adv szs n t (f + 1) a j = (a, j) := by simp only [adv]; rw [if_neg hc]
      rw [ea] at hm
      refine done a j L m (f + 1) res ht ha (by omega) ?_ hm
      rintro ⟨h1, h2⟩
      have e : a = n := by omega
      rw [hL, List.length_append, hpre] at h2
      have : ends szs n F a j = [] := by cases F with
        | zero => rfl
        | succ F => unfold ends; rw [if_neg (by omega)]
      rw [this] at h2
      simp at h2
end Go.Proofs.Ytepcdngdllciiaa.Hand
