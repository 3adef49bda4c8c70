/- A reader behind so many calls of Next: what it tells next. -/
import Derived.Test.YtepcdngdllciiaaBlk
set_option linter.unusedVariables false
set_option linter.unusedSimpArgs false
namespace Go.Proofs.Ytepcdngdllciiaa.Hand
open Go.RowKit Go.Proofs.YtepcdngdllciiaaW.PrintWords Go.Proofs.YtepcdngdllciiaaW.PrintLast Go.Proofs.YtepcdngdllciiaaW.PrintMore Go.Proofs.YtepcdngdllciiaaW.HKit Go.Proofs.Ytepcdngdllciiaa.PSourceBlocks
/-- The reader behind so many calls of Next, its blocks in F. -/
def Asked (wr : World) (B : Nat) (F : Nat → Prop) (gb : Nat) (bs szs : List Int) (i : Nat) : Prop :=
  ReaderIs wr B F gb ((bs.take (st szs bs.length i).1).drop (st szs bs.length i).2.1) (bs.drop (st szs bs.length i).1) szs (min (st szs bs.length i).2.2 szs.length) ((min i (bs.length / 512) : Nat) : Int)
theorem asked_start {w3 w4 : World} {B g gb : Nat} {S : Nat → Prop} {bs szs : List Int} (hS : SrcAt w3 B g S bs szs 0) (hgb : w3.heap.size ≤ gb) (hB : BlocksAt w4 gb (some ⟨g, 0, none⟩) (.slice none 0 0) 0) (hb : Below w3.heap.size w3 w4) : Asked w4 B (fun q => B ≤ q ∧ q < w4.heap.size) gb bs szs 0 := by
  have := reader_start (w := w3) hS hgb hB hb
  simpa [Asked, st] using this
theorem Asked.move {w w' : World} {B gb i : Nat} {F : Nat → Prop} {bs szs : List Int} (h : Asked w B F gb bs szs i) (hz : w.heap.size ≤ w'.heap.size) (hF : ∀ q, F q → w'.heap[q]? = w.heap[q]?) : Asked w' B F gb bs szs i := ReaderIs.move h hz hF
theorem asked_len {bs szs : List Int} (i : Nat) : ((bs.take (st szs bs.length i).1).drop (st szs bs.length i).2.1).length = (st szs bs.length i).1 - (st szs bs.length i).2.1 := by
  have ok := st_ok szs bs.length i
  rw [List.length_drop, List.length_take]
  have := ok.2.2.1
  omega
def NextSays (w : World) (B gb : Nat) (F : Nat → Prop) (bs szs : List Int) (i : Nat) (e : Ending) (w' : World) : Prop :=
  ∃ (F' : Nat → Prop) (v1 : Value), e = .returned (.tuple #[v1, .int .u8 (blockOf bs (min i (bs.length / 512))).2]) ∧ Asked w' B F' gb bs szs (i + 1) ∧ Moved w w' F F' ∧ Below B w w' ∧
    w'.ownsRow w.heap.size 5 1 v1 (blockOf bs (min i (bs.length / 512))).1.length (nums .u8 (blockOf bs (min i (bs.length / 512))).1) ∧ (∀ q, v1.ownBlock = some q → ¬ F' q)
theorem asked_next {w : World} {B gb i : Nat} {F : Nat → Prop} {bs szs : List Int} (h : Asked w B F gb bs szs i) (hn : bs.length ≤ 1000000) (hi : i ≤ 1000000) :
    Calls Try.prog 18 #[.pointer (some ⟨gb, 0, none⟩)] w (NextSays w B gb F bs szs i) := by
  have ok := st_ok szs bs.length i
  have ok2 := st_ok szs bs.length (i + 1)
  have hl := asked_len (bs := bs) (szs := szs) i
  have hl2 : (bs.drop (st szs bs.length i).1).length = bs.length - (st szs bs.length i).1 := List.length_drop
  refine (next_calls w B F gb _ _ szs _ _ h (by rw [hl, hl2]; have := ok.2.2.1; omega) (by omega) (by omega)).mono ?_
  rintro e w' ⟨F', v1, code, X, H2, i2, rfl, hR, hM, hb, ho, hF, ht⟩
  obtain ⟨h1, h2, h3, h4, _⟩ := ok
  obtain ⟨k1, k2, k3, k4, _⟩ := ok2
  rw [hl2, gather_adv bs szs (st szs bs.length i).2.1 (bs.length - (st szs bs.length i).1) (st szs bs.length i).1 (st szs bs.length i).2.2 h2 h3] at ht hR
  have hal := adv_le szs bs.length (st szs bs.length i).2.1 (bs.length - (st szs bs.length i).1) (st szs bs.length i).1 (st szs bs.length i).2.2 h3 (Nat.le_refl _)
  have hst : st szs bs.length (i + 1) = ((adv szs bs.length (st szs bs.length i).2.1 (bs.length - (st szs bs.length i).1) (st szs bs.length i).1 (st szs bs.length i).2.2).1, (if 512 ≤ (adv szs bs.length (st szs bs.length i).2.1 (bs.length - (st szs bs.length i).1) (st szs bs.length i).1 (st szs bs.length i).2.2).1 - (st szs bs.length i).2.1 then (st szs bs.length i).2.1 + 512 else (st szs bs.length i).2.1), (adv szs bs.length (st szs bs.length i).2.1 (bs.length - (st szs bs.length i).1) (st szs bs.length i).1 (st szs bs.length i).2.2).2) := rfl
  unfold NextTells at ht
  unfold NextSays Asked
  rw [hst] at k1 k2 k3 k4 ⊢
  simp only at ht k1 k2 k3 k4 hR ⊢
  generalize adv szs bs.length (st szs bs.length i).2.1 (bs.length - (st szs bs.length i).1) (st szs bs.length i).1 (st szs bs.length i).2.2 = r at *
  generalize (st szs bs.length i).2.1 = t at *
  have hlen : ((bs.take r.1).drop t).length = r.1 - t := by rw [List.length_drop, List.length_take]; omega
  rw [hlen] at ht
  rcases ht with ⟨e1, rfl, rfl, rfl, rfl⟩ | ⟨e1, e2, rfl, rfl, rfl, rfl⟩ | ⟨e1, rfl, rfl, rfl, rfl⟩
  · have hbk : blockOf bs (min i (bs.length / 512)) = ([], 16) := by unfold blockOf; rw [if_pos (by omega)]
    have hmin : min (i + 1) (bs.length / 512) = min i (bs.length / 512) := by omega
    rw [hbk, if_neg (by omega), hmin]
    exact ⟨F', v1, rfl, hR, hM, hb, ho, hF⟩
  · have hbk : blockOf bs (min i (bs.length / 512)) = ([], 3) := by unfold blockOf; rw [if_neg (by omega), if_pos (by omega)]
    have hmin : min (i + 1) (bs.length / 512) = min i (bs.length / 512) := by omega
    rw [hbk, if_neg (by omega), hmin]
    exact ⟨F', v1, rfl, hR, hM, hb, ho, hF⟩
  · have hbk : blockOf bs (min i (bs.length / 512)) = ((bs.take r.1).drop t |>.take 512, 0) := by
      unfold blockOf
      rw [if_neg (by omega), if_neg (by omega), ← h1]
      refine congrArg (fun x => (x, (0 : Int))) ?_
      rw [List.take_drop, List.take_take]
      congr 2
      omega
    have hmin : min (i + 1) (bs.length / 512) = min i (bs.length / 512) + 1 := by omega
    rw [hbk, if_pos e1, hmin]
    rw [List.drop_drop] at hR
    exact ⟨F', v1, rfl, by exact_mod_cast hR, hM, hb, ho, hF⟩
end Go.Proofs.Ytepcdngdllciiaa.Hand
