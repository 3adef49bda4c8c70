/- Readers over a true source: their state, and what moves it. -/
import Derived.Test.YtepcdngdllciiaaHandC
import Derived.Deep.RegionWith
import Derived.Deep.LoopGhost
set_option linter.unusedVariables false
set_option linter.unusedSimpArgs false
namespace Go.Proofs.Ytepcdngdllciiaa.Hand
open Go.RowKit Go.Proofs.YtepcdngdllciiaaW.PrintWords Go.Proofs.YtepcdngdllciiaaW.PrintLast Go.Proofs.YtepcdngdllciiaaW.PrintMore Go.Proofs.YtepcdngdllciiaaW.HKit
/-- A row stands where its block stands. -/
theorem own_move {w w' : World} {B e n : Nat} {v : Value} {xs : List Value} (h : w.ownsRow B e 1 v n xs) (hb : ∀ q, v.ownBlock = some q → w'.heap[q]? = w.heap[q]?) : w'.ownsRow B e 1 v n xs := by
  obtain ⟨h1, h2⟩ := h
  refine ⟨h1, ?_⟩
  rcases h2 with h2 | ⟨g, cap, cur, rfl, hg, hh, r⟩
  · exact .inl h2
  · exact .inr ⟨g, cap, cur, rfl, hg, (hb g rfl).trans hh, r⟩
theorem SrcAt.move {w w' : World} {B g : Nat} {S : Nat → Prop} {bs szs : List Int} {k : Nat} (h : SrcAt w B g S bs szs k) (hz : w.heap.size ≤ w'.heap.size) (hg' : w'.heap[g]? = w.heap[g]?) (hS' : ∀ q, S q → w'.heap[q]? = w.heap[q]?) : SrcAt w' B g S bs szs k := by
  obtain ⟨A, A2, c, c2, hg, hB, hc, hk, hSg, hSq, hst⟩ := h
  exact ⟨A, A2, c, c2, hg'.trans hg, hB, hc, hk, hSg, fun q hq => ⟨(hSq q hq).1, Nat.lt_of_lt_of_le (hSq q hq).2 hz⟩, fun W hW => hst W fun q hq => (hW q hq).trans (hS' q hq)⟩
theorem SrcAt.lt {w : World} {B g : Nat} {S : Nat → Prop} {bs szs : List Int} {k : Nat} (h : SrcAt w B g S bs szs k) : g < w.heap.size := by
  obtain ⟨A, A2, c, c2, hg, _⟩ := h
  exact blk_lt hg
/-- The core of a reader over a true source: what it holds, what the source has left; no two of the rows share a block. -/
def ReaderAt (w : World) (B gb g : Nat) (S : Nat → Prop) (vh : Value) (H bs szs : List Int) (k : Nat) (index : Int) : Prop :=
  BlocksAt w gb (some ⟨g, 0, none⟩) vh index ∧ B ≤ gb ∧ w.ownsRow B 5 1 vh H.length (nums .u8 H) ∧ SrcAt w B g S bs szs k ∧ ¬ S gb ∧ (∀ q, S q → some q ≠ vh.ownBlock)
/-- A reader, all its blocks in F. -/
def ReaderIs (w : World) (B : Nat) (F : Nat → Prop) (gb : Nat) (H bs szs : List Int) (k : Nat) (index : Int) : Prop :=
  ∃ (g : Nat) (S : Nat → Prop) (vh : Value), ReaderAt w B gb g S vh H bs szs k index ∧ F gb ∧ F g ∧ (∀ q, S q → F q) ∧ (∀ q, vh.ownBlock = some q → F q) ∧ ∀ q, F q → q < w.heap.size
theorem reader_ne {w : World} {B gb g : Nat} {S : Nat → Prop} {vh : Value} {H bs szs : List Int} {k : Nat} {index : Int} (h : ReaderAt w B gb g S vh H bs szs k index) : gb ≠ g := by
  obtain ⟨hb, _, _, ⟨A, A2, c, c2, hg, _⟩, _⟩ := h
  exact blk_ne hb hg (by decide)
/-- A reader stands where its blocks stand. -/
theorem ReaderIs.move {w w' : World} {B gb : Nat} {F : Nat → Prop} {H bs szs : List Int} {k : Nat} {index : Int} (h : ReaderIs w B F gb H bs szs k index) (hz : w.heap.size ≤ w'.heap.size) (hF : ∀ q, F q → w'.heap[q]? = w.heap[q]?) : ReaderIs w' B F gb H bs szs k index := by
  obtain ⟨g, S, vh, ⟨hb, hB, ho, hs, h1, h2⟩, f1, f2, f3, f4, f5⟩ := h
  exact ⟨g, S, vh, ⟨(hF gb f1).trans hb, hB, own_move ho fun q hq => hF q (f4 q hq), hs.move hz (hF g f2) fun q hq => hF q (f3 q hq), h1, h2⟩, f1, f2, f3, f4, fun q hq => Nat.lt_of_lt_of_le (f5 q hq) hz⟩
/-- What a call on a reader has turned: its own blocks, and new ones. -/
def Moved (w w' : World) (F F' : Nat → Prop) : Prop := w.heap.size ≤ w'.heap.size ∧ (∀ i, i < w.heap.size → ¬ F i → w'.heap[i]? = w.heap[i]?) ∧ ∀ q, F' q → F q ∨ w.heap.size ≤ q
theorem Moved.refl (w : World) (F : Nat → Prop) : Moved w w F F := ⟨Nat.le_refl _, fun _ _ _ => rfl, fun _ h => .inl h⟩
theorem Moved.trans {w w1 w2 : World} {F F1 F2 : Nat → Prop} (h : Moved w w1 F F1) (k : Moved w1 w2 F1 F2) : Moved w w2 F F2 := by
  obtain ⟨a1, a2, a3⟩ := h
  obtain ⟨b1, b2, b3⟩ := k
  refine ⟨Nat.le_trans a1 b1, fun i hi hn => (b2 i (Nat.lt_of_lt_of_le hi a1) fun hf => ?_).trans (a2 i hi hn), fun q hq => ?_⟩
  · rcases a3 i hf with h | h
    · exact hn h
    · omega
  · rcases b3 q hq with h | h
    · exact a3 q h
    · exact .inr (Nat.le_trans a1 h)
/-- Nothing gets lost. -/
theorem gather_all (szs : List Int) : ∀ (f : Nat) (H bs : List Int) (k : Nat), (gather szs f H bs k).1 ++ (gather szs f H bs k).2.1 = H ++ bs
  | 0, _, _, _ => rfl
  | f + 1, H, bs, k => by
    unfold gather
    split
    · rw [gather_all szs f, List.append_assoc, List.take_append_drop]
    · rfl
theorem gather_none (szs : List Int) (H bs : List Int) (k : Nat) (h : ¬ (H.length < 512 ∧ 0 < bs.length)) : ∀ f, gather szs f H bs k = (H, bs, k)
  | 0 => rfl
  | f + 1 => by unfold gather; rw [if_neg h]
/-- Rounds beyond what is left change nothing. -/
theorem gather_more (szs : List Int) : ∀ (f : Nat) (H bs : List Int) (k : Nat), bs.length ≤ f → gather szs (f + 1) H bs k = gather szs f H bs k
  | 0, H, bs, k, h => gather_none szs H bs k (fun x => by omega) 1
  | f + 1, H, bs, k, h => by
    conv => lhs; unfold gather
    conv => rhs; unfold gather
    split
    · rename_i hc
      have := pieceLen_pos bs szs k hc.2
      exact gather_more szs f _ _ _ (by rw [List.length_drop]; omega)
    · rfl
theorem gather_enough (szs : List Int) (H bs : List Int) (k : Nat) : ∀ d, gather szs (bs.length + d) H bs k = gather szs bs.length H bs k
  | 0 => rfl
  | d + 1 => (gather_more szs (bs.length + d) H bs k (by omega)).trans (gather_enough szs H bs k d)
theorem gather_step (szs : List Int) (H bs : List Int) (k : Nat) (h : H.length < 512 ∧ 0 < bs.length) :
    gather szs bs.length H bs k = gather szs (bs.drop (pieceLen bs szs k)).length (H ++ bs.take (pieceLen bs szs k)) (bs.drop (pieceLen bs szs k)) (pieceNext szs k) := by
  obtain ⟨m, hm⟩ : ∃ m, bs.length = m + 1 := ⟨bs.length - 1, by omega⟩
  have hp := pieceLen_pos bs szs k h.2
  have e1 : gather szs bs.length H bs k = gather szs m (H ++ bs.take (pieceLen bs szs k)) (bs.drop (pieceLen bs szs k)) (pieceNext szs k) := by
    rw [hm]
    conv => lhs; unfold gather
    rw [if_pos h]
  have e2 : m = (bs.drop (pieceLen bs szs k)).length + (m - (bs.drop (pieceLen bs szs k)).length) := by rw [List.length_drop]; omega
  rw [e1]
  conv => lhs; rw [e2]
  exact gather_enough szs _ _ _ _
/-- What a call of Next tells of what it has gathered. -/
def NextTells (r : List Int × List Int × Nat) (index code : Int) (X H2 : List Int) (index2 : Int) : Prop :=
  (r.1.length = 0 ∧ X = [] ∧ code = 16 ∧ H2 = r.1 ∧ index2 = index) ∨ (0 < r.1.length ∧ r.1.length < 512 ∧ X = [] ∧ code = 3 ∧ H2 = r.1 ∧ index2 = index) ∨ (512 ≤ r.1.length ∧ X = r.1.take 512 ∧ code = 0 ∧ H2 = r.1.drop 512 ∧ index2 = index + 1)
/-- What Next hands over and leaves. -/
def NextEnd (w : World) (B gb : Nat) (F : Nat → Prop) (r : List Int × List Int × Nat) (szs : List Int) (index : Int) (e : Ending) (w' : World) : Prop :=
  ∃ (F' : Nat → Prop) (v1 : Value) (code : Int) (X H2 : List Int) (index2 : Int), e = .returned (.tuple #[v1, .int .u8 code]) ∧ ReaderIs w' B F' gb H2 r.2.1 szs r.2.2 index2 ∧ Moved w w' F F' ∧ Below B w w' ∧
    w'.ownsRow w.heap.size 5 1 v1 X.length (nums .u8 X) ∧ (∀ q, v1.ownBlock = some q → ¬ F' q) ∧ NextTells r index code X H2 index2
/-- What a round of Next's loop keeps. -/
def NextRel (w : World) (B gb g : Nat) (S F : Nat → Prop) (r : List Int × List Int × Nat) (szs : List Int) (index : Int) (N n : Nat) (wr : World) : Prop :=
  ∃ (F' : Nat → Prop) (vh : Value) (H bs : List Int) (k : Nat), ReaderAt wr B gb g S vh H bs szs k index ∧ F' gb ∧ F' g ∧ (∀ q, S q → F' q) ∧ (∀ q, vh.ownBlock = some q → F' q) ∧ (∀ q, F' q → q < wr.heap.size) ∧
    Moved w wr F F' ∧ Below B w wr ∧ gather szs bs.length H bs k = r ∧ H.length + bs.length = N ∧ bs.length = n
/-- What a round does to it: a piece has come, it was appended, the new row was laid into the reader. -/
theorem next_round {w wr w1 w2 w3 : World} {B gb g : Nat} {S F F' : Nat → Prop} {r : List Int × List Int × Nat} {szs : List Int} {index : Int} {N : Nat} {vh v2 : Value} {H bs : List Int} {k : Nat}
    (hR : ReaderAt wr B gb g S vh H bs szs k index) (f1 : F' gb) (f2 : F' g) (f3 : ∀ q, S q → F' q) (f4 : ∀ q, vh.ownBlock = some q → F' q) (f5 : ∀ q, F' q → q < wr.heap.size)
    (hM : Moved w wr F F') (hb : Below B w wr) (hgat : gather szs bs.length H bs k = r) (hN : H.length + bs.length = N) (hH : H.length < 512) (h0 : 0 < bs.length)
    (hS1 : SrcAt w1 B g S (bs.drop (pieceLen bs szs k)) szs (pieceNext szs k)) (hk1 : KeepBut wr w1 g none) (hb1 : Below B wr w1)
    (ho2 : w2.ownsRow B 5 1 v2 (H ++ bs.take (pieceLen bs szs k)).length (nums .u8 (H ++ bs.take (pieceLen bs szs k)))) (hg2 : w1.grownBy w2 vh.ownBlock) (hat : v2.ownBlock = vh.ownBlock ∨ ∃ b, v2.ownBlock = some b ∧ w1.heap.size ≤ b) (hb2 : Below B wr w2)
    (hB2 : BlocksAt w2 gb (some ⟨g, 0, none⟩) vh index) (h3 : w3 = w2.setCell ⟨gb, 1, none⟩ v2) :
    ∃ n, n < bs.length ∧ NextRel w B gb g S F r szs index N n w3 := by
  have hp := pieceLen_pos bs szs k h0
  have hne := reader_ne hR
  obtain ⟨hbl, hBgb, ho, hs, hSgb, hSv⟩ := hR
  have hz1 := hk1.1
  have hz2 := hg2.size
  have hg2' : w2.heap[g]? = w1.heap[g]? := hg2.block g hS1.lt (fun e => by
    obtain ⟨A, A2, c, c2, hg, _⟩ := hs
    exact own_ne ho hg (by decide) e)
  have hs3 : ∀ q, q ≠ gb → w3.heap[q]? = w2.heap[q]? := fun q hq => by rw [h3]; exact Below.heap_setCell w2 ⟨gb, 1, none⟩ _ q hq
  have hz3 : w3.heap.size = w2.heap.size := by rw [h3]; simp [World.setCell]
  have hblk3 : BlocksAt w3 gb (some ⟨g, 0, none⟩) v2 index := by rw [h3]; exact blk_set hB2 1 v2
  have hv2gb : some gb ≠ v2.ownBlock := own_ne ho2 hB2 (by decide)
  obtain ⟨A, A2, c, c2, hgs, hBs, hcs, hks, hSgs, hSqs, hsts⟩ := hs
  have hgne : g < wr.heap.size := blk_lt hgs
  refine ⟨(bs.drop (pieceLen bs szs k)).length, by rw [List.length_drop]; omega, fun q => F' q ∨ v2.ownBlock = some q, v2, H ++ bs.take (pieceLen bs szs k), bs.drop (pieceLen bs szs k), pieceNext szs k, ⟨hblk3, hBgb, ?_, ?_, hSgb, ?_⟩, .inl f1, .inl f2, fun q hq => .inl (f3 q hq), fun q hq => .inr hq, ?_, ?_, ?_, ?_, ?_, rfl⟩
  · exact own_move ho2 fun q hq => hs3 q fun e => hv2gb (by rw [hq, e])
  · refine hS1.move (by omega) ((hs3 g (Ne.symm hne)).trans hg2') fun q hq => (hs3 q fun e => hSgb (e ▸ hq)).trans (hg2.block q ?_ (hSv q hq))
    exact Nat.lt_of_lt_of_le (hSqs q hq).2 hz1
  · intro q hq e
    rcases hat with hat | ⟨b, hat, hb⟩
    · exact hSv q hq (e.trans hat)
    · rw [hat] at e
      injection e with e
      have := (hSqs q hq).2
      omega
  · rintro q (hq | hq)
    · have := f5 q hq; omega
    · have := own_lt ho2 q hq; omega
  · refine hM.trans ⟨by omega, fun i hi hn => ?_, ?_⟩
    · have ig : i ≠ g := fun e => hn (e ▸ f2)
      have igb : i ≠ gb := fun e => hn (e ▸ f1)
      have iv : some i ≠ vh.ownBlock := fun e => hn (f4 i e.symm)
      exact (hs3 i igb).trans ((hg2.block i (by omega) iv).trans (hk1.2 i hi ig (by simp)))
    · rintro q (hq | hq)
      · exact .inl hq
      · rcases hat with hat | ⟨b, hat, hb⟩
        · exact .inl (f4 q (hat.symm.trans hq))
        · rw [hat] at hq
          injection hq with hq
          exact .inr (by omega)
  · rw [h3]
    exact (hb.trans hb2).setCell hBgb _
  · rw [← gather_step szs H bs k ⟨hH, h0⟩]; exact hgat
  · rw [List.length_append, List.length_take, List.length_drop]; omega
end Go.Proofs.Ytepcdngdllciiaa.Hand
