/- A reader begun; what Index and Held tell; the chapter's example. -/
import Derived.Test.YtepcdngdllciiaaHandF
set_option linter.unusedVariables false
set_option linter.unusedSimpArgs false
namespace Go.Proofs.Ytepcdngdllciiaa.Hand
open Go.RowKit Go.Proofs.YtepcdngdllciiaaW.PrintWords Go.Proofs.YtepcdngdllciiaaW.PrintLast Go.Proofs.YtepcdngdllciiaaW.PrintMore Go.Proofs.YtepcdngdllciiaaW.HKit
theorem reader_start {w w3 w4 : World} {B g gb : Nat} {S : Nat → Prop} {bs szs : List Int} (hS : SrcAt w3 B g S bs szs 0) (hgb : w3.heap.size ≤ gb) (hB : BlocksAt w4 gb (some ⟨g, 0, none⟩) (.slice none 0 0) 0) (hb : Below w3.heap.size w3 w4) :
    ReaderIs w4 B (fun q => B ≤ q ∧ q < w4.heap.size) gb [] bs szs 0 0 := by
  have hz := hb.size
  have hlt := blk_lt hB
  obtain ⟨A, A2, c, c2, hg, hBg, hc, hk, hSg, hSq, hst⟩ := id hS
  have hglt := blk_lt hg
  refine ⟨g, S, .slice none 0 0, ⟨hB, by omega, own_nil _ _ _ _, hS.move hz (hb.block g hglt) fun q hq => hb.block q (hSq q hq).2, fun h => ?_, fun q hq => by simp [Value.ownBlock]⟩, ⟨by omega, hlt⟩, ⟨hBg, by omega⟩, fun q hq => ⟨(hSq q hq).1, by have := (hSq q hq).2; omega⟩, fun q hq => by simp [Value.ownBlock] at hq, fun q hq => hq.2⟩
  have := (hSq gb h).2
  omega
theorem held_is {w : World} {B gb : Nat} {F : Nat → Prop} {H bs szs : List Int} {k : Nat} {index : Int} (h : ReaderIs w B F gb H bs szs k index) : Calls Try.prog 16 #[.pointer (some ⟨gb, 0, none⟩)] w fun e w' => e = .returned (.int .i64 (H.length : Int)) ∧ w = w' := by
  obtain ⟨g, S, vh, ⟨hb, _, ho, _⟩, _⟩ := h
  obtain ⟨A, c, rfl⟩ := own_slice ho
  exact held_calls gb _ A H.length c index w hb
theorem index_is {w : World} {B gb : Nat} {F : Nat → Prop} {H bs szs : List Int} {k : Nat} {index : Int} (h : ReaderIs w B F gb H bs szs k index) : Calls Try.prog 15 #[.pointer (some ⟨gb, 0, none⟩)] w fun e w' => e = .returned (.int .i64 index) ∧ w = w' := by
  obtain ⟨g, S, vh, ⟨hb, _, ho, _⟩, _⟩ := h
  exact index_calls gb _ vh index w hb
theorem alive_gather1 : gather [7, 600] (List.replicate 513 (0 : Int)).length [] (List.replicate 513 0) 0 = (List.replicate 513 0, [], 2) := by kernel_rfl
theorem alive_gather2 : gather [7, 600] ([] : List Int).length ((List.replicate 513 (0 : Int)).drop 512) [] 2 = ([0], [], 2) := by kernel_rfl
set_option maxHeartbeats 4000000 in
set_option maxRecDepth 100000 in
theorem alive_calls (w : World) : Calls Try.prog 7 #[] w fun e w' => e = .returned (.bool true) ∧ Below w.heap.size w w' := by
  have hmk : ∀ W : World, (Instr.makeSlice 22 (.int .i64 513) (.int .i64 513)).run Try.prog W = .ok (.slice (some ⟨W.heap.size, 0, none⟩) 513 513) (W.alloc (.cells (madeCells #[.int .u8 0] 513) 5)) := print_make (P := Try.prog) 22 5 .u8 1 Try.underlying22 byteInfo (by decide) 513 (by decide)
  go_enter Try.func7, Try.ntmps7
  have hr1 := own_made w w.heap.size 5 .u8 513 (Nat.le_refl _) (by decide)
  have hr2 : ((w.alloc (.cells (madeCells #[.int .u8 0] 513) 5)).alloc (.cells #[.int .i64 7, .int .i64 600] 3)).ownsRow w.heap.size 3 1 (.slice (some ⟨w.heap.size + 1, 0, none⟩) 2 2) ([7, 600] : List Int).length (nums .i64 [7, 600]) := by
    have := own_lit (w.alloc (.cells (madeCells #[.int .u8 0] 513) 5)) w.heap.size 3 .i64 [7, 600] (by simp) (by decide)
    simpa [nums] using this
  obtain ⟨A1, c1, e1, _, hC1, _, _⟩ := own_C hr1 (by simp)
  obtain ⟨A2, c2, e2, _, hC2, _, _⟩ := own_C hr2 (by simp)
  injection e1 with e1 _ e1'
  injection e2 with e2 _ e2'
  subst e1 e1' e2 e2'
  have hC1' := Kd.C_below (w1 := (w.alloc (.cells (madeCells #[.int .u8 0] 513) 5)).alloc (.cells #[.int .i64 7, .int .i64 600] 3)) hC1 (below_alloc (Below.refl _ _) _)
  have H9 := Lib.hid (new_calls (some ⟨w.heap.size, 0, none⟩) 513 513 (List.replicate 513 0) (some ⟨w.heap.size + 1, 0, none⟩) 2 2 [7, 600] ((w.alloc (.cells (madeCells #[.int .u8 0] 513) 5)).alloc (.cells #[.int .i64 7, .int .i64 600] 3)) hC1' (by simp) (by decide) hC2 (by simp) (by decide))
  have hba : Below w.heap.size w ((w.alloc (.cells (madeCells #[.int .u8 0] 513) 5)).alloc (.cells #[.int .i64 7, .int .i64 600] 3)) := below_alloc (below_alloc (Below.refl _ _) _) _
  have HBa := Aside0.mk hba
  clear hr1 hr2 hC1 hC2 hC1' hba
  go_wp2_with fail
  refine H9.out.mono ?_
  rintro e w3 ⟨g, S, rfl, hS, hb3⟩
  generalize hBB : ((w.alloc (.cells (madeCells #[.int .u8 0] 513) 5)).alloc (.cells #[.int .i64 7, .int .i64 600] 3)).heap.size = BB at hS hb3
  have HBB := Aside0.mk hBB
  have HS := Aside0.mk hS
  have HB3 := Aside0.mk (HBa.out.trans (Below.mono hb3 (by rw [← hBB]; simp; omega)))
  clear hS hb3 H9 hBB HBa
  go_wp2_with fail
  refine (newBlocks_calls (some ⟨g, 0, none⟩) w3).mono ?_
  rintro e w4 ⟨gb, rfl, hgb, hB, hb4⟩
  have hR := reader_start (w := w) HS.out hgb hB hb4
  have HB4 := Aside0.mk (below_step HB3.out hb4)
  clear hB hb4 HS hgb HB3
  have HN := Lib.hid (next_calls w4 _ _ gb [] _ _ 0 0 hR (by decide) (by decide) (by decide))
  clear hR
  go_wp2_with fail
  refine HN.out.mono ?_
  rw [alive_gather1]
  rintro e w5 ⟨F5, v5, code5, X5, H5, i5, rfl, hR5, hM5, hb5, ho5, hn5, ht5⟩
  rcases ht5 with ⟨h, _⟩ | ⟨_, h, _⟩ | ⟨_, rfl, rfl, rfl, rfl⟩
  · simp at h
  · simp at h
  obtain ⟨A5, c5, rfl⟩ := own_slice ho5
  have hX5 : (List.take 512 (List.replicate 513 (0 : Int))).length = 512 := by simp
  rw [hX5]
  have HB5 := Aside0.mk (HB4.out.trans (Below.mono hb5 (by rw [← HBB.out]; simp; omega)))
  have HN2 := Lib.hid (next_calls w5 _ _ gb _ _ _ _ _ hR5 (by simp) (by decide) (by decide))
  clear hR5 hM5 hb5 ho5 hn5 hX5 HN HB4
  go_wp2_with fail
  refine HN2.out.mono ?_
  rw [alive_gather2]
  rintro e w6 ⟨F6, v6, code6, X6, H6, i6, rfl, hR6, hM6, hb6, ho6, hn6, ht6⟩
  rcases ht6 with ⟨h, _⟩ | ⟨_, _, rfl, rfl, rfl, rfl⟩ | ⟨h, _⟩
  · simp at h
  · have HH := Lib.hid (held_is hR6)
    have HB6 := Aside0.mk (HB5.out.trans (Below.mono hb6 (by rw [← HBB.out]; simp; omega)))
    clear hR6 hM6 hb6 ho6 hn6 HN2 HB5
    go_wp2_with fail
    refine HH.out.mono ?_
    rintro e w' ⟨rfl, rfl⟩
    go_wp2_with fail
    go_ret
    exact ⟨rfl, HB6.out⟩
  · simp at h
set_option maxHeartbeats 4000000 in
set_option maxRecDepth 100000 in
theorem sourceNil_calls (w : World) : Calls Try.prog 6 #[] w fun e w' => e = .returned (.bool true) ∧ Below w.heap.size w w' := by
  go_enter Try.func6, Try.ntmps6
  go_wp2_with fail
  refine (alive_calls w).mono ?_
  rintro e w1 ⟨rfl, hb1⟩
  have HB1 := Aside0.mk hb1
  clear hb1
  go_wp2_with fail
  refine (piece_nil w1).mono ?_
  rintro e w' ⟨rfl, rfl⟩
  go_wp2_with fail
  refine (next_nil w1).mono ?_
  rintro e w' ⟨rfl, rfl⟩
  go_wp2_with fail
  refine (newBlocks_calls none w1).mono ?_
  rintro e w2 ⟨gb, rfl, hgb, hB, hb2⟩
  have HB2 := Aside0.mk (below_step HB1.out hb2)
  have HN := Lib.hid (next_bare gb 0 w2 hB)
  clear hgb hB hb2 HB1
  go_wp2_with fail
  refine HN.out.mono ?_
  rintro e w' ⟨rfl, rfl⟩
  clear HN
  go_wp2_with fail
  refine (left_nil w2).mono ?_
  rintro e w' ⟨rfl, rfl⟩
  go_wp2_with fail
  refine (index_nil w2).mono ?_
  rintro e w' ⟨rfl, rfl⟩
  go_wp2_with fail
  refine (held_nil w2).mono ?_
  rintro e w' ⟨rfl, rfl⟩
  go_wp2_with fail
  go_ret
  exact ⟨rfl, HB2.out⟩
end Go.Proofs.Ytepcdngdllciiaa.Hand
