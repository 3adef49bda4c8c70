/- SourceAlike: its walk. -/
import Derived.Test.YtepcdngdllciiaaWalkB
set_option linter.unusedVariables false
set_option linter.unusedSimpArgs false
namespace Go.Proofs.Ytepcdngdllciiaa.Hand
open Go.RowKit Go.Proofs.YtepcdngdllciiaaW.PrintWords Go.Proofs.YtepcdngdllciiaaW.PrintLast Go.Proofs.YtepcdngdllciiaaW.PrintMore Go.Proofs.YtepcdngdllciiaaW.HKit Go.Proofs.Ytepcdngdllciiaa.PSourceBlocks
attribute [local go_sem] max2_int min2_int max_two min_two max_three min_three max_four min_four   -- for this text's walks alone
theorem Asked.lt {w : World} {B gb i : Nat} {F : Nat → Prop} {bs szs : List Int} (h : Asked w B F gb bs szs i) : ∀ q, F q → q < w.heap.size := by
  obtain ⟨_, _, _, _, _, _, _, _, f⟩ := h
  exact f
theorem Asked.moved {w w' : World} {B gb i : Nat} {F G G' : Nat → Prop} {bs szs : List Int} (h : Asked w B F gb bs szs i) (hM : Moved w w' G G') (hd : ∀ q, F q → ¬ G q) : Asked w' B F gb bs szs i :=
  h.move hM.1 fun q hq => hM.2.1 q (h.lt q hq) (hd q hq)
theorem own_moved {w w' : World} {B e n : Nat} {v : Value} {xs : List Value} {G G' : Nat → Prop} (h : w.ownsRow B e 1 v n xs) (hM : Moved w w' G G') (hd : ∀ q, v.ownBlock = some q → ¬ G q) : w'.ownsRow B e 1 v n xs :=
  own_move h fun q hq => hM.2.1 q (own_lt h q hq) (hd q hq)
theorem not_moved {w w' : World} {G G' : Nat → Prop} {q : Nat} (hM : Moved w w' G G') (hq : q < w.heap.size) (hd : ¬ G q) : ¬ G' q := fun h => by
  rcases hM.2.2 q h with h | h
  · exact hd h
  · omega
/-- Never more is held than a block and the greatest piece. -/
theorem adv_most (szs : List Int) (n t M : Nat) (hM : ∀ j, psz szs j ≤ M) : ∀ f a j, a - t ≤ 511 + M → (adv szs n t f a j).1 - t ≤ 511 + M
  | 0, a, j, h => h
  | f + 1, a, j, h => by
    simp only [adv]
    split
    · rename_i hc
      refine adv_most szs n t M hM f _ _ ?_
      have := hM j
      have hpl : plen szs n a j = min (psz szs j) (n - a) := rfl
      omega
    · exact h
theorem st_most (szs : List Int) (n M : Nat) (hM : ∀ j, psz szs j ≤ M) : ∀ i, (st szs n i).1 - (st szs n i).2.1 ≤ 511 + M
  | 0 => by simp [st]
  | i + 1 => by
    have ih := adv_most szs n (st szs n i).2.1 M hM (n - (st szs n i).1) (st szs n i).1 (st szs n i).2.2 (st_most szs n M hM i)
    simp only [st]
    split <;> omega
theorem psz_most (szs : List Int) (m : Int) (h5 : 512 ≤ m) (h : ∀ j : Nat, j < szs.length → rd szs (j : Int) ≤ m) (j : Nat) : psz szs j ≤ m.toNat := by
  unfold psz pieceSize
  split
  · omega
  · rename_i h0
    have := h (min (min j szs.length) (szs.length - 1)) (by omega)
    unfold mx
    split <;> omega
/-- Blocks laid one behind the other are the bytes. -/
theorem block_more (bs : List Int) (i : Nat) : bs.take (512 * min i (bs.length / 512)) ++ (blockOf bs (min i (bs.length / 512))).1 = bs.take (512 * min (i + 1) (bs.length / 512)) := by
  by_cases h : i < bs.length / 512
  · have e : blockOf bs (min i (bs.length / 512)) = ((bs.take (512 * i + 512)).drop (512 * i), 0) := by
      have : min i (bs.length / 512) = i := by omega
      rw [this]
      unfold blockOf
      rw [if_neg (by omega), if_neg (by omega)]
    rw [e]
    have e1 : 512 * min i (bs.length / 512) = 512 * i := by omega
    have e2 : 512 * min (i + 1) (bs.length / 512) = 512 * i + 512 := by omega
    rw [e1, e2]
    simp only
    have e3 : bs.take (512 * i) = (bs.take (512 * i + 512)).take (512 * i) := by rw [List.take_take]; congr 1; omega
    rw [e3, List.take_append_drop]
  · have e : (blockOf bs (min i (bs.length / 512))).1 = [] := by
      unfold blockOf
      split
      · rfl
      · split
        · rfl
        · omega
    have e1 : min i (bs.length / 512) = min (i + 1) (bs.length / 512) := by omega
    rw [e, List.append_nil, e1]
def AlikeRel (w : World) (Bp Bq gp gq : Nat) (bs xs ys : List Int) (n : Nat) (v11 v12 : Value) (wr : World) : Prop :=
  ∃ (i : Nat) (Fp Fq : Nat → Prop), i + n = 12 ∧ v12 = .int .i64 (i : Int) ∧ Asked wr Bp Fp gp bs xs i ∧ Asked wr Bq Fq gq bs ys i ∧ (∀ q, Fp q → ¬ Fq q) ∧
    wr.ownsRow w.heap.size 5 1 v11 (bs.take (512 * min i (bs.length / 512))).length (nums .u8 (bs.take (512 * min i (bs.length / 512)))) ∧ (∀ q, v11.ownBlock = some q → ¬ Fp q ∧ ¬ Fq q) ∧ Below w.heap.size w wr
/-- The loop that seeks the greatest size. -/
def MostRel (xs : List Int) (w : World) (v7 v8 : Value) (wr : World) : Prop :=
  ∃ (i : Nat) (m : Int), i ≤ xs.length ∧ v8 = .int .i64 (i : Int) ∧ v7 = .int .i64 m ∧ 512 ≤ m ∧ m ≤ 9223372036854775807 ∧ (∀ j : Nat, j < i → rd xs (j : Int) ≤ m) ∧ Drawn0 w wr
end Go.Proofs.Ytepcdngdllciiaa.Hand
