/- Next's ends: what stands when the loop has ended, and behind both clones. -/
import Derived.Test.YtepcdngdllciiaaHandD
set_option linter.unusedVariables false
set_option linter.unusedSimpArgs false
namespace Go.Proofs.Ytepcdngdllciiaa.Hand
open Go.RowKit Go.Proofs.YtepcdngdllciiaaW.PrintWords Go.Proofs.YtepcdngdllciiaaW.PrintLast Go.Proofs.YtepcdngdllciiaaW.PrintMore Go.Proofs.YtepcdngdllciiaaW.HKit
theorem next_start {w : World} {B gb : Nat} {F : Nat → Prop} {H bs szs : List Int} {k : Nat} {index : Int} {g : Nat} {S : Nat → Prop} {vh : Value} (hR : ReaderAt w B gb g S vh H bs szs k index) (f1 : F gb) (f2 : F g) (f3 : ∀ q, S q → F q) (f4 : ∀ q, vh.ownBlock = some q → F q) (f5 : ∀ q, F q → q < w.heap.size) :
    NextRel w B gb g S F (gather szs bs.length H bs k) szs index (H.length + bs.length) bs.length w :=
  ⟨F, vh, H, bs, k, hR, f1, f2, f3, f4, f5, Moved.refl _ _, Below.refl _ _, rfl, rfl, rfl⟩
theorem next_few {w wr : World} {B gb g : Nat} {S F F' : Nat → Prop} {r : List Int × List Int × Nat} {szs : List Int} {index : Int} {vh : Value} {H bs : List Int} {k : Nat} {code : Int}
    (hR : ReaderAt wr B gb g S vh H bs szs k index) (f1 : F' gb) (f2 : F' g) (f3 : ∀ q, S q → F' q) (f4 : ∀ q, vh.ownBlock = some q → F' q) (f5 : ∀ q, F' q → q < wr.heap.size)
    (hM : Moved w wr F F') (hb : Below B w wr) (hgat : gather szs bs.length H bs k = r) (hbs : bs = []) (hc : (H.length = 0 ∧ code = 16) ∨ (0 < H.length ∧ H.length < 512 ∧ code = 3)) :
    NextEnd w B gb F r szs index (.returned (.tuple #[.slice none 0 0, .int .u8 code])) wr := by
  subst hbs
  obtain rfl : r = (H, [], k) := hgat.symm.trans (gather_none szs H [] k (fun h => by simp at h) _)
  refine ⟨F', _, code, [], H, index, rfl, ⟨g, S, vh, hR, f1, f2, f3, f4, f5⟩, hM, hb, own_nil _ _ _ _, fun q hq => by simp [Value.ownBlock] at hq, ?_⟩
  rcases hc with ⟨h, rfl⟩ | ⟨h, h', rfl⟩
  · exact .inl ⟨h, rfl, rfl, rfl, rfl⟩
  · exact .inr (.inl ⟨h, h', rfl, rfl, rfl, rfl⟩)
theorem next_full {w wr w3 w4 w5 : World} {B gb g : Nat} {S F F' : Nat → Prop} {r : List Int × List Int × Nat} {szs : List Int} {index : Int} {vh v1 v2 : Value} {H bs : List Int} {k : Nat}
    (hR : ReaderAt wr B gb g S vh H bs szs k index) (f1 : F' gb) (f2 : F' g) (f3 : ∀ q, S q → F' q) (f4 : ∀ q, vh.ownBlock = some q → F' q) (f5 : ∀ q, F' q → q < wr.heap.size)
    (hM : Moved w wr F F') (hb : Below B w wr) (hgat : gather szs bs.length H bs k = r) (hH : 512 ≤ H.length)
    (ho1 : w3.ownsRow wr.heap.size 5 1 v1 (H.take 512).length (nums .u8 (H.take 512))) (hb3 : Below wr.heap.size wr w3) (ho2 : w4.ownsRow w3.heap.size 5 1 v2 (H.drop 512).length (nums .u8 (H.drop 512))) (hb4 : Below w3.heap.size w3 w4)
    (h5 : w5 = (w4.setCell ⟨gb, 1, none⟩ v2).setCell ⟨gb, 2, none⟩ (.int .i64 (index + 1))) :
    NextEnd w B gb F r szs index (.returned (.tuple #[v1, .int .u8 0])) w5 := by
  obtain rfl : r = (H, bs, k) := hgat.symm.trans (gather_none szs H bs k (fun h => by omega) _)
  have hne := reader_ne hR
  obtain ⟨hbl, hBgb, ho, hs, hSgb, hSv⟩ := hR
  have hgbl := blk_lt hbl
  have z3 := hb3.size
  have z4 := hb4.size
  have hs5 : ∀ q, q ≠ gb → w5.heap[q]? = w4.heap[q]? := fun q hq => by rw [h5]; exact (Below.heap_setCell _ ⟨gb, 2, none⟩ _ q hq).trans (Below.heap_setCell w4 ⟨gb, 1, none⟩ _ q hq)
  have hz5 : w5.heap.size = w4.heap.size := by rw [h5]; simp [World.setCell]
  have hold : ∀ q, q < wr.heap.size → w4.heap[q]? = wr.heap[q]? := fun q hq => (hb4.block q (by omega)).trans (hb3.block q hq)
  have hbl4 : BlocksAt w4 gb (some ⟨g, 0, none⟩) vh index := (hold gb hgbl).trans hbl
  have hbl5 : BlocksAt w5 gb (some ⟨g, 0, none⟩) v2 (index + 1) := by rw [h5]; exact blk_set (blk_set hbl4 1 v2) 2 _
  have l1 : ∀ q, v1.ownBlock = some q → wr.heap.size ≤ q ∧ q < w3.heap.size := fun q hq => ⟨own_base ho1 q hq, own_lt ho1 q hq⟩
  have l2 : ∀ q, v2.ownBlock = some q → w3.heap.size ≤ q ∧ q < w4.heap.size := fun q hq => ⟨own_base ho2 q hq, own_lt ho2 q hq⟩
  refine ⟨fun q => F' q ∨ v2.ownBlock = some q, v1, 0, H.take 512, H.drop 512, index + 1, rfl, ⟨g, S, v2, ⟨hbl5, hBgb, ?_, ?_, hSgb, ?_⟩, .inl f1, .inl f2, fun q hq => .inl (f3 q hq), fun q hq => .inr hq, ?_⟩, ?_, ?_, ?_, ?_, .inr (.inr ⟨hH, rfl, rfl, rfl, rfl⟩)⟩
  · refine own_weaken (own_move ho2 fun q hq => hs5 q fun e => ?_) (by omega : B ≤ w3.heap.size)
    have := (l2 q hq).1
    omega
  · obtain ⟨A, A2, c, c2, hgs, hBs, hcs, hks, hSgs, hSqs, hsts⟩ := id hs
    exact hs.move (by omega) ((hs5 g (Ne.symm hne)).trans (hold g hs.lt)) fun q hq => (hs5 q fun e => hSgb (e ▸ hq)).trans (hold q (hSqs q hq).2)
  · intro q hq e
    have h1 := (l2 q e.symm).1
    have h2 := f5 q (f3 q hq)
    omega
  · rintro q (hq | hq)
    · have := f5 q hq; omega
    · have := (l2 q hq).2; omega
  · refine hM.trans ⟨by omega, fun i hi hn => (hs5 i fun e => hn (e ▸ f1)).trans (hold i hi), ?_⟩
    rintro q (hq | hq)
    · exact .inl hq
    · exact .inr (by have := (l2 q hq).1; omega)
  · rw [h5]
    exact ((hb.trans (Below.mono hb3 (by omega))).trans (Below.mono hb4 (by omega))).setCell hBgb _ |>.setCell hBgb _
  · have h0 : w.heap.size ≤ wr.heap.size := hM.1
    refine own_weaken (own_move ho1 fun q hq => ?_) h0
    have := l1 q hq
    exact (hs5 q (by omega)).trans (hb4.block q this.2)
  · rintro q hq (h | h)
    · have := (l1 q hq).1
      have := f5 q h
      omega
    · have := (l1 q hq).2
      have := (l2 q h).1
      omega
end Go.Proofs.Ytepcdngdllciiaa.Hand
