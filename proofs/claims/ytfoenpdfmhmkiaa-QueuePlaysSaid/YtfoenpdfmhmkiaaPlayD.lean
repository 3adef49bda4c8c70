/- The document's queue, each function in one contract; two lists of numbers compared. Conditions stand with each. -/
import Derived.Test.YtfoenpdfmhmkiaaPlayC
set_option linter.unusedVariables false
set_option linter.unusedSimpArgs false
namespace Go.Proofs.YtfoenpdfmhmkiaaPlay
open Go.RowKit Go.Proofs.YtfoenpdfmhmkiaaW.PrintWords Go.Proofs.YtfoenpdfmhmkiaaW.PrintLast Go.Proofs.YtfoenpdfmhmkiaaW.PrintMore Go.Proofs.YtfoenpdfmhmkiaaW.HKit Go.Proofs.YtfoenpdfmhmkiaaW.Mv Go.Proofs.YtfoenpdfmhmkiaaW.But Go.Proofs.Ytfoenpdfmhmkiaa.PQueuePlays
open Go.Proofs.YtfoenpdfmhmkiaaLone (mv)
/-- A list of numbers that is read, out of a block of numbers. -/
def RV (W : World) (v : Value) (l : List Int) : Prop := ∃ A c, v = .slice A l.length c ∧ l.length ≤ c ∧ Kd.C (Kd.int .i64) W A l.length l ∧ ∀ ad, A = some ad → ∃ cs f, W.heap[ad.block]? = some (.cells cs 3 f)
theorem RV.nil (W : World) : RV W (.slice none 0 0) [] := ⟨none, 0, rfl, Nat.le_refl _, Kd.C_of_reads (enc := Value.int .i64) (d := (0 : Int)) (h1 := fun _ => rfl) ⟨rfl, by decide, fun h => by cases h⟩, fun ad h => by cases h⟩
theorem RV.step {F : Nat → Prop} {W W' : World} {v : Value} {l : List Int} (h : RV W v l) (hb : But F W W') (hF : ∀ k, F k → ∀ cs f, W.heap[k]? ≠ some (.cells cs 3 f)) : RV W' v l := by
  obtain ⟨A, c, rfl, hc, hC, hA⟩ := h
  have hr := Kd.reads_of_C (d := (0 : Int)) hC
  refine ⟨A, c, rfl, hc, Kd.C_of_reads (enc := Value.int .i64) (d := (0 : Int)) (h1 := fun _ => rfl) ⟨hr.1, hr.2.1, fun h0 => ?_⟩, fun ad ha => ?_⟩
  · obtain ⟨ad, ha, hcell⟩ := hr.2.2 h0
    refine ⟨ad, ha, fun j hj => hb.cell (hcell j hj) fun hk => ?_⟩
    obtain ⟨cs, f, hcs⟩ := hA ad ha
    refine hF _ hk cs f ?_
    have hbk : (ad.add j).block = ad.block := by unfold Addr.add; split <;> rfl
    rw [hbk]
    exact hcs
  · obtain ⟨cs, f, hcs⟩ := hA ad ha
    exact ⟨cs, f, hb.heap hcs fun hk => hF _ hk cs f hcs⟩
theorem RV.below {W W' : World} {v : Value} {l : List Int} (h : RV W v l) (hb : Below W.heap.size W W') : RV W' v l := h.step (But.of_below (fun _ => False) hb) (fun _ h => h.elim)
theorem RV.but {F : Nat → Prop} {W W' : World} {v : Value} {l : List Int} (h : RV W v l) (hb : But F W W') (hF : ∀ k, F k → ∃ cap buf a s r b, W.heap[k]? = some (.chan cap buf a s r b)) : RV W' v l :=
  h.step hb fun k hk cs f hcs => by
    obtain ⟨cap, buf, a, s, r, b, hch⟩ := hF k hk
    rw [hcs] at hch
    cases hch
theorem RV.own {W : World} {B : Nat} {v : Value} {l : List Int} (h : W.ownsRow B 3 1 v l.length (nums .i64 l)) : RV W v l := by
  obtain ⟨A, c, rfl, hc, hC, _⟩ := own_C h rfl
  refine ⟨A, c, rfl, hc, hC, ?_⟩
  rintro ad rfl
  obtain ⟨cells, hcells⟩ := own_typed h ad.block rfl
  exact ⟨cells, (0, 0), hcells⟩
theorem RV.of_R {W : World} {B : Nat} {ok : Nat → Prop} {v : Value} {l : List Int} (h : Kd.R (Kd.int .i64) 3 W B ok v l) : RV W v l := by
  obtain ⟨A, c, rfl, hc, hC⟩ := Kd.R_reads h
  refine ⟨A, c, rfl, hc, hC, ?_⟩
  rintro ad rfl
  obtain ⟨inner, ho⟩ := Kd.R_own h
  obtain ⟨cells, hcells⟩ := own_typed ho ad.block rfl
  exact ⟨cells, (0, 0), hcells⟩
set_option maxHeartbeats 1000000 in
set_option maxRecDepth 100000 in
theorem rpush_full (A : Option Addr) (n c : Nat) (x m : Int) (w : World) (hm : m ≤ (n : Int)) :
    Calls Try.prog 25 #[.agg #[.slice A n c, .int .i64 m], .int .i64 x] w fun e w' => e = .returned (.tuple #[.agg #[.slice A n c, .int .i64 m], .bool false]) ∧ Below w.heap.size w w' := by
  have hd1 : decide (m ≤ (n : Int)) = true := decide_eq_true hm
  clear hm
  obtain ⟨W2, hW2⟩ : ∃ W2, W2 = (w.alloc (.cells #[.slice A n c, .int .i64 m] 37)).alloc (.cells #[.slice none 0 0, .int .i64 0] 37) := ⟨_, rfl⟩
  obtain ⟨hb2, hg, hz⟩ := two_allocs hW2
  have hs0 := blk_cell hg 0
  have hs1 := blk_cell hg 1
  have z0 := blk_cell hz 0
  have z1 := blk_cell hz 1
  have f0 := blk_frozen hz 0
  have f1 := blk_frozen hz 1
  simp only [List.getElem?_toArray, List.getElem?_cons_zero, List.getElem?_cons_succ] at hs0 hs1 z0 z1
  have HB := Lib.hid hb2
  have HZ := Lib.hid hz
  clear hb2 hg hz
  go_enter Try.func25, Try.ntmps25
  go_upto_region 2 with (fail)
  rw [← hW2]
  clear hW2
  go_wp2_with fail
  refine bodyPost_ret (results_ct rfl _ _ (w.heap.size + 1) 37 #[.slice A n c, .int .i64 m] (0, 0) _ rfl (set2_blk HZ.out) Try.underlying37 rfl (by kernel_rfl)) rfl ?_
  exact ⟨rfl, set2_below HB.out (Nat.le_succ _)⟩
set_option maxHeartbeats 1000000 in
set_option maxRecDepth 100000 in
theorem rpop_none (A : Option Addr) (c : Nat) (m : Int) (w : World) :
    Calls Try.prog 26 #[.agg #[.slice A 0 c, .int .i64 m]] w fun e w' => e = .returned (.tuple #[.agg #[.slice A 0 c, .int .i64 m], .int .i64 0, .bool false]) ∧ Below w.heap.size w w' := by
  obtain ⟨W2, hW2⟩ : ∃ W2, W2 = (w.alloc (.cells #[.slice A 0 c, .int .i64 m] 37)).alloc (.cells #[.slice none 0 0, .int .i64 0] 37) := ⟨_, rfl⟩
  obtain ⟨hb2, hg, hz⟩ := two_allocs hW2
  have hs0 := blk_cell hg 0
  have hs1 := blk_cell hg 1
  have z0 := blk_cell hz 0
  have z1 := blk_cell hz 1
  have f0 := blk_frozen hz 0
  have f1 := blk_frozen hz 1
  simp only [List.getElem?_toArray, List.getElem?_cons_zero, List.getElem?_cons_succ] at hs0 hs1 z0 z1
  have HB := Lib.hid hb2
  have HZ := Lib.hid hz
  clear hb2 hg hz
  go_enter Try.func26, Try.ntmps26
  go_upto_region 2 with (fail)
  rw [← hW2]
  clear hW2
  go_wp2_with fail
  refine bodyPost_ret (results_ctt rfl _ _ (w.heap.size + 1) 37 #[.slice A 0 c, .int .i64 m] (0, 0) _ rfl (set2_blk HZ.out) Try.underlying37 rfl (by kernel_rfl)) rfl ?_
  exact ⟨rfl, set2_below HB.out (Nat.le_succ _)⟩
theorem rpush (v : Value) (m : Nat) (l : List Int) (x : Int) (w : World) (h : RV w v l) (hn : l.length ≤ 100000) :
    Calls Try.prog 25 #[.agg #[v, .int .i64 (m : Int)], .int .i64 x] w fun e w' => ∃ v', e = .returned (.tuple #[.agg #[v', .int .i64 (m : Int)], .bool (decide (l.length < m))]) ∧ RV w' v' (pushL m l x) ∧ Below w.heap.size w w' := by
  have h' := h
  obtain ⟨A, c, rfl, hc, hC, _⟩ := h
  unfold pushL
  by_cases hl : l.length < m
  · refine (rpush_room A c x l m w hC hc hn (by omega)).mono ?_
    rintro e w' ⟨v', rfl, ho, hb⟩
    rw [decide_eq_true hl, if_pos hl]
    exact ⟨v', rfl, RV.own ho, hb⟩
  · refine (rpush_full A l.length c x m w (by omega)).mono ?_
    rintro e w' ⟨rfl, hb⟩
    rw [decide_eq_false hl, if_neg hl]
    exact ⟨_, rfl, h'.below hb, hb⟩
theorem rpop (v : Value) (m : Int) (l : List Int) (w : World) (h : RV w v l) (hn : l.length ≤ 100000) :
    Calls Try.prog 26 #[.agg #[v, .int .i64 m]] w fun e w' => ∃ v', e = .returned (.tuple #[.agg #[v', .int .i64 m], .int .i64 (l.headD 0), .bool (decide (0 < l.length))]) ∧ RV w' v' l.tail ∧ Below w.heap.size w w' := by
  have h' := h
  obtain ⟨A, c, rfl, hc, hC, _⟩ := h
  match l, hn, hc, hC, h' with
  | [], hn, hc, hC, h' =>
    refine (rpop_none A c m w).mono ?_
    rintro e w' ⟨rfl, hb⟩
    exact ⟨_, rfl, h'.below hb, hb⟩
  | x :: l, hn, hc, hC, h' =>
    have hl : (x :: l).length = l.length + 1 := rfl
    refine (rpop_some A c x l m w hC hc (by omega)).mono ?_
    rintro e w' ⟨v', rfl, ho, hb⟩
    exact ⟨v', rfl, RV.own ho, hb⟩
theorem rmove_f (l0 l1 : List Int) (m0 m1 : Nat) (most : Int) (h0 : l0.length ≤ 4096) (h1 : l1.length ≤ m1) (h2 : m1 ≤ 4096) (K : Nat) (hK : K = mv most l0.length (m1 - l1.length)) :
    oakumref12_Move.f l0 m0 l1 m1 most = some (l0.drop K, (m0 : Int), l1 ++ l0.take K, (m1 : Int), (K : Int)) := by
  have hw : wrap64 ((m1 : Int) - (l1.length : Int)) = (m1 : Int) - (l1.length : Int) := by unfold wrap64; omega
  have hk : mn (mn (mx most 0) (l0.length : Int)) ((m1 : Int) - (l1.length : Int)) = (K : Int) := by
    rw [hK]
    unfold mn mx mv
    repeat' split
    all_goals omega
  have hKl : K ≤ l0.length := by rw [hK]; unfold mv; omega
  unfold oakumref12_Move.f
  simp only [hw, hk, Option.bind_some, List.length_nil, Int.toNat_natCast, List.length_take, List.length_drop, List.nil_append]
  rw [if_pos (by omega), if_pos (by omega), if_pos (by omega)]
  rw [if_pos (by omega), if_pos (by omega), if_pos (by omega)]
theorem rmove (v0 v1 : Value) (l0 l1 : List Int) (m0 m1 : Nat) (most : Int) (w : World) (r0 : RV w v0 l0) (r1 : RV w v1 l1) (h0 : l0.length ≤ 4096) (h1 : l1.length ≤ m1) (h2 : m1 ≤ 4096) (K : Nat) (hK : K = mv most l0.length (m1 - l1.length)) :
    Calls Try.prog 27 #[.agg #[v0, .int .i64 (m0 : Int)], .agg #[v1, .int .i64 (m1 : Int)], .int .i64 most] w fun e w' => ∃ v0' v1', e = .returned (.tuple #[.agg #[v0', .int .i64 (m0 : Int)], .agg #[v1', .int .i64 (m1 : Int)], .int .i64 (K : Int)]) ∧ RV w' v0' (l0.drop K) ∧ RV w' v1' (l1 ++ l0.take K) ∧ Below w.heap.size w w' := by
  obtain ⟨A0, c0, rfl, hc0, hC0, _⟩ := r0
  obtain ⟨A1, c1, rfl, hc1, hC1, _⟩ := r1
  refine (oakumref12_Move.calls A0 c0 l0 m0 A1 c1 l1 m1 most _ _ _ _ _ w hC0 hc0 hC1 hc1 (rmove_f l0 l1 m0 m1 most h0 h1 h2 K hK)).mono ?_
  rintro e w' ⟨v0', v2', rfl, ha, hb, hbw⟩
  exact ⟨v0', v2', rfl, RV.of_R ha, RV.of_R hb, hbw⟩
theorem same_l0 (l : List Int) (hl : l.length ≤ 100000) : ∀ (d i : Nat), i + d = l.length → oakumref10_SameInts.l0 (d + 1) l l (i : Int) = some true
  | 0, i, h => by
    show (if (i : Int) < (l.length : Int) then _ else some true) = some true
    rw [if_neg (by omega)]
  | d + 1, i, h => by
    have hw : wrap64 ((i : Int) + 1) = ((i + 1 : Nat) : Int) := by unfold wrap64; omega
    show (if (i : Int) < (l.length : Int) then (if 0 ≤ (i : Int) then (if (i : Int) < (l.length : Int) then (if rd l (i : Int) = rd l (i : Int) then oakumref10_SameInts.l0 (d + 1) l l (wrap64 ((i : Int) + 1)) else some false) else none) else none) else some true) = some true
    rw [if_pos (by omega), if_pos (by omega), if_pos (by omega), if_pos rfl, hw]
    exact same_l0 l hl d (i + 1) (by omega)
theorem rsame (v0 v1 : Value) (l : List Int) (w : World) (r0 : RV w v0 l) (r1 : RV w v1 l) (hl : l.length ≤ 100000) :
    Calls Try.prog 28 #[v0, v1] w fun e w' => e = .returned (.bool true) ∧ Below w.heap.size w w' := by
  obtain ⟨A0, c0, rfl, hc0, hC0, _⟩ := r0
  obtain ⟨A1, c1, rfl, hc1, hC1, _⟩ := r1
  have hf : oakumref10_SameInts.f (l.length + 1) l l = some true := by
    unfold oakumref10_SameInts.f
    rw [if_pos rfl]
    exact same_l0 l hl l.length 0 (by omega)
  refine (oakumref10_SameInts.calls (l.length + 1) A0 c0 l A1 c1 l true w hC0 hc0 hC1 hc1 hf).mono ?_
  rintro e w' ⟨rfl, hd⟩
  exact ⟨rfl, hd.below⟩
end Go.Proofs.YtfoenpdfmhmkiaaPlay
