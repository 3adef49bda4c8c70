/- The text of a field: over numbers and lists alone. -/
import Derived.Test.YtoabboeongbloaaDoorPHeadGetsx
import Derived.Test.YtoabboeongbloaaDoorGT
import Derived.ChangeKeysEq
set_option linter.unusedVariables false
set_option linter.unusedSimpArgs false
namespace Go.Proofs.YtoabboeongbloaaDoor.TxtP
open Go.RowKit Go.Proofs.YtoabboeongbloaaDoorW.PrintWords Go.Proofs.YtoabboeongbloaaDoorW.PrintLast Go.Proofs.YtoabboeongbloaaDoorW.PrintMore Go.Proofs.YtoabboeongbloaaDoor.PHeadGets
/-! ### Small words: numbers that fit, rounds, bytes of a cut -/
theorem w64 {n : Int} (h0 : -9223372036854775808 ≤ n) (h1 : n ≤ 9223372036854775807) : wrap64 n = n := by unfold wrap64; omega
theorem bt_nonneg (s : ByteArray) (i : Int) : 0 ≤ bt s i := (bt_range s i).1
theorem bt_le (s : ByteArray) (i : Int) : bt s i ≤ 255 := (bt_range s i).2
theorem bt_nat (s : ByteArray) (n : Nat) (h : n < s.size) : bt s (n : Int) = ((s[n]'h).toNat : Int) := by simp [bt, h]
theorem bt_out (s : ByteArray) (i : Int) (h : s.size ≤ i.toNat) : bt s i = 0 := by unfold bt; rw [dif_neg (by omega)]
theorem bt_extract (s : ByteArray) (m n : Nat) (i : Nat) (hi : m + i < n) (hn : n ≤ s.size) : bt (s.extract m n) (i : Int) = bt s ((m + i : Nat) : Int) := by
  have h1 : i < (s.extract m n).size := by rw [ByteArray.size_extract]; omega
  rw [bt_nat _ _ h1, bt_nat _ _ (by omega)]
  rw [ByteArray.getElem_extract]
theorem bytes_ext {a b : ByteArray} (hs : a.size = b.size) (h : ∀ i : Nat, i < a.size → bt a (i : Int) = bt b (i : Int)) : a = b := by
  apply ByteArray.ext_getElem hs
  intro i h1 h2
  have := h i h1
  rw [bt_nat _ _ h1, bt_nat _ _ h2] at this
  exact UInt8.toNat_inj.1 (by omega)
theorem toList_eq_nil (s : ByteArray) : s.toList = ([] : List UInt8) ↔ s.size = 0 := by
  rw [ByteArray.toList_eq]
  constructor
  · intro h
    have : s.data.toList.length = 0 := by rw [h]; rfl
    rwa [data_length] at this
  · intro h
    apply List.eq_nil_of_length_eq_zero
    rwa [data_length]
theorem toList_inj {a b : ByteArray} : a.toList = b.toList ↔ a = b := by
  constructor
  · intro h
    rw [ByteArray.toList_eq, ByteArray.toList_eq] at h
    exact ByteArray.ext (Array.toList_inj.1 h)
  · intro h; rw [h]
theorem wf_i64_bd {n : Int} (h : (Lit.int .i64 n).wf = true) : -9223372036854775808 ≤ n ∧ n ≤ 9223372036854775807 := by
  simp [Lit.wf, IntKind.min, IntKind.max, IntKind.signed, IntKind.bits] at h
  omega
theorem wf_u8_bd {n : Int} (h : (Lit.int .u8 n).wf = true) : 0 ≤ n ∧ n ≤ 255 := by
  simp [Lit.wf, IntKind.min, IntKind.max, IntKind.signed, IntKind.bits] at h
  omega
/-- Sums that fit (no equation with a wrap stays in a context: linear arithmetic would look into it). -/
theorem wadd1 (n : Nat) (h : n < 9223372036854775807) : wrap64 ((n : Int) + 1) = ((n + 1 : Nat) : Int) := by rw [w64 (by omega) (by omega)]; omega
theorem wadd4 (n : Nat) (h : n < 9223372036854775803) : wrap64 ((n : Int) + 4) = ((n + 4 : Nat) : Int) := by rw [w64 (by omega) (by omega)]; omega
theorem wsub1 (n : Nat) (h0 : 0 < n) (h : n < 9223372036854775807) : wrap64 ((n : Int) - 1) = ((n - 1 : Nat) : Int) := by rw [w64 (by omega) (by omega)]; omega
/-! ### Fields: what lies ahead of the first nought -/
theorem bytesOf_range (s : ByteArray) : ∀ b ∈ bytesOf s, 0 ≤ b ∧ b ≤ 255 := by
  intro b hb
  unfold bytesOf at hb
  obtain ⟨x, _, rfl⟩ := List.mem_map.1 hb
  have := x.toNat_lt
  omega
theorem strOfNums_bytesOf (s : ByteArray) : strOfNums (bytesOf s) = s := by
  unfold strOfNums bytesOf
  apply ByteArray.ext
  apply Array.ext'
  rw [List.map_map]
  conv => rhs; rw [← List.map_id s.data.toList]
  apply List.map_congr_left
  intro b _
  simp
theorem bytesOf_data (l : List UInt8) : bytesOf (⟨l.toArray⟩ : ByteArray) = l.map fun b => (b.toNat : Int) := rfl
theorem bytesOf_strOfNums (l : List Int) (h : ∀ b ∈ l, 0 ≤ b ∧ b ≤ 255) : bytesOf (strOfNums l) = l := by
  unfold strOfNums
  rw [bytesOf_data, List.map_map]
  conv => rhs; rw [← List.map_id l]
  apply List.map_congr_left
  intro b hb
  have := h b hb
  simp only [Function.comp, id]
  rw [UInt8.toNat_ofNat']
  omega
/-- Ahead of the first nought. -/
def ahead : List Int → List Int
  | [] => []
  | x :: r => if x = 0 then [] else x :: ahead r
theorem ahead_sub : ∀ l : List Int, ∀ x ∈ ahead l, x ∈ l
  | [], _, h => by simp [ahead] at h
  | y :: r, x, h => by
    unfold ahead at h
    split at h
    · simp at h
    · rcases List.mem_cons.1 h with rfl | h
      · simp
      · exact List.mem_cons_of_mem _ (ahead_sub r x h)
theorem ahead_len : ∀ l : List Int, (ahead l).length ≤ l.length
  | [] => by simp [ahead]
  | y :: r => by
    have := ahead_len r
    unfold ahead
    split <;> simp; omega
theorem byte_zero (x : Int) (h : 0 ≤ x ∧ x ≤ 255) : (UInt8.ofNat x.toNat == (0 : UInt8)) = decide (x = 0) := by
  rw [Bool.eq_iff_iff, beq_iff_eq, decide_eq_true_eq]
  constructor
  · intro e
    have := congrArg UInt8.toNat e
    rw [UInt8.toNat_ofNat'] at this
    have z : (0 : UInt8).toNat = 0 := rfl
    omega
  · intro e; subst e; rfl
theorem index_ahead : ∀ l : List Int, (∀ x ∈ l, 0 ≤ x ∧ x ≤ 255) → (Lib.indexByte (Lib.bytesOf l) 0 = -1 ∧ ahead l = l ∧ (0 : Int) ∉ l) ∨ (Lib.indexByte (Lib.bytesOf l) 0 = (ahead l).length ∧ l.take (ahead l).length = ahead l ∧ ahead l ≠ l ∧ (0 : Int) ∈ l)
  | [], _ => .inl ⟨rfl, rfl, by simp⟩
  | x :: r, h => by
    have hx := h x List.mem_cons_self
    have ih := index_ahead r (fun y hy => h y (List.mem_cons_of_mem _ hy))
    have e : Lib.indexByte (Lib.bytesOf (x :: r)) 0 = if decide (x = 0) = true then 0 else if Lib.indexByte (Lib.bytesOf r) 0 == -1 then -1 else Lib.indexByte (Lib.bytesOf r) 0 + 1 := by
      rw [← byte_zero x hx]; rfl
    rw [e]
    unfold ahead
    by_cases h0 : x = 0
    · right
      subst h0
      simp
    · rw [if_neg h0, decide_eq_false h0]
      simp only [Bool.false_eq_true, if_false]
      rcases ih with ⟨i1, i2, i3⟩ | ⟨i1, i2, i3, i4⟩
      · left
        rw [i1, i2]
        refine ⟨rfl, rfl, ?_⟩
        simp only [List.mem_cons, not_or]
        exact ⟨fun e => h0 e.symm, i3⟩
      · right
        rw [i1]
        have hn : (((ahead r).length : Int) == -1) = false := by rw [beq_eq_false_iff_ne]; omega
        refine ⟨by rw [hn]; simp, by simp [i2], ?_, List.mem_cons_of_mem _ i4⟩
        intro e
        injection e with _ e
        exact i3 e
theorem get_ahead (l : List Int) (h : ∀ x ∈ l, 0 ≤ x ∧ x ≤ 255) : Go.Proofs.YtoabboeongbloaaDoor.Txt.getOf l = strOfNums (ahead l) := by
  unfold Go.Proofs.YtoabboeongbloaaDoor.Txt.getOf
  rcases index_ahead l h with ⟨h1, h2, _⟩ | ⟨h1, h2, _⟩
  · rw [h1, if_neg (by omega), h2]
  · rw [h1, if_pos (by omega), Int.toNat_natCast, h2]
theorem rd_nat (l : List Int) (n : Nat) : rd l (n : Int) = l.getD n 0 := by unfold rd; simp
theorem refget_l0 (l : List Int) (hl : l.length ≤ 100000) : ∀ (d i : Nat) (acc : List Int), i + d = l.length → acc.length ≤ i → Ev (fun k => oakumref02_Get.l0 k l acc (i : Int)) (strOfNums (acc ++ ahead (l.drop i)))
  | 0, i, acc, h, ha => by
    refine Ev.step (fun k => oakumref02_Get.l0.eq_2 ..) ?_
    rw [List.drop_of_length_le (by omega)]
    simp only [if_neg (show ¬ (i : Int) < (l.length : Int) by omega), ahead, List.append_nil]
    exact Ev.now _
  | d + 1, i, acc, h, ha => by
    refine Ev.step (fun k => oakumref02_Get.l0.eq_2 ..) ?_
    have hi : i < l.length := by omega
    have hd : l.drop i = l[i] :: l.drop (i + 1) := List.drop_eq_getElem_cons hi
    have hr : l.getD i 0 = l[i] := by rw [List.getD_eq_getElem?_getD, List.getElem?_eq_getElem hi]; rfl
    rw [hd]
    simp only [if_pos (show (i : Int) < (l.length : Int) by omega), if_pos (show (0 : Int) ≤ (i : Int) by omega), rd_nat, hr, wadd1 i (by omega)]
    unfold ahead
    by_cases h0 : l[i] = 0
    · simp only [if_pos h0, List.append_nil]
      exact Ev.now _
    · simp only [if_neg h0, if_pos (show acc.length < 140737488355328 by omega)]
      have ih := refget_l0 l hl d (i + 1) (acc ++ [l[i]]) (by omega) (by simp; omega)
      rw [List.append_assoc] at ih
      exact ih
theorem refget_ev (l : List Int) (hl : l.length ≤ 100000) : Ev (fun k => oakumref02_Get.f k l) (strOfNums (ahead l)) := by
  unfold oakumref02_Get.f
  exact refget_l0 l hl l.length 0 [] (by omega) (by simp)
end Go.Proofs.YtoabboeongbloaaDoor.TxtP
/- Noughts alone: over numbers and lists alone. -/
set_option linter.unusedVariables false
set_option linter.unusedSimpArgs false
namespace Go.Proofs.YtoabboeongbloaaDoor.BlkP
open Go.RowKit Go.Proofs.YtoabboeongbloaaDoorW.PrintWords Go.Proofs.YtoabboeongbloaaDoorW.PrintLast Go.Proofs.YtoabboeongbloaaDoorW.PrintMore Go.Proofs.YtoabboeongbloaaDoor.PHeadGets
/-! ### Small words: numbers that fit, rounds, bytes of a cut -/
theorem w64 {n : Int} (h0 : -9223372036854775808 ≤ n) (h1 : n ≤ 9223372036854775807) : wrap64 n = n := by unfold wrap64; omega
theorem bt_nonneg (s : ByteArray) (i : Int) : 0 ≤ bt s i := (bt_range s i).1
theorem bt_le (s : ByteArray) (i : Int) : bt s i ≤ 255 := (bt_range s i).2
theorem bt_nat (s : ByteArray) (n : Nat) (h : n < s.size) : bt s (n : Int) = ((s[n]'h).toNat : Int) := by simp [bt, h]
theorem bt_out (s : ByteArray) (i : Int) (h : s.size ≤ i.toNat) : bt s i = 0 := by unfold bt; rw [dif_neg (by omega)]
theorem bt_extract (s : ByteArray) (m n : Nat) (i : Nat) (hi : m + i < n) (hn : n ≤ s.size) : bt (s.extract m n) (i : Int) = bt s ((m + i : Nat) : Int) := by
  have h1 : i < (s.extract m n).size := by rw [ByteArray.size_extract]; omega
  rw [bt_nat _ _ h1, bt_nat _ _ (by omega)]
  rw [ByteArray.getElem_extract]
theorem bytes_ext {a b : ByteArray} (hs : a.size = b.size) (h : ∀ i : Nat, i < a.size → bt a (i : Int) = bt b (i : Int)) : a = b := by
  apply ByteArray.ext_getElem hs
  intro i h1 h2
  have := h i h1
  rw [bt_nat _ _ h1, bt_nat _ _ h2] at this
  exact UInt8.toNat_inj.1 (by omega)
theorem toList_eq_nil (s : ByteArray) : s.toList = ([] : List UInt8) ↔ s.size = 0 := by
  rw [ByteArray.toList_eq]
  constructor
  · intro h
    have : s.data.toList.length = 0 := by rw [h]; rfl
    rwa [data_length] at this
  · intro h
    apply List.eq_nil_of_length_eq_zero
    rwa [data_length]
theorem toList_inj {a b : ByteArray} : a.toList = b.toList ↔ a = b := by
  constructor
  · intro h
    rw [ByteArray.toList_eq, ByteArray.toList_eq] at h
    exact ByteArray.ext (Array.toList_inj.1 h)
  · intro h; rw [h]
theorem wf_i64_bd {n : Int} (h : (Lit.int .i64 n).wf = true) : -9223372036854775808 ≤ n ∧ n ≤ 9223372036854775807 := by
  simp [Lit.wf, IntKind.min, IntKind.max, IntKind.signed, IntKind.bits] at h
  omega
theorem wf_u8_bd {n : Int} (h : (Lit.int .u8 n).wf = true) : 0 ≤ n ∧ n ≤ 255 := by
  simp [Lit.wf, IntKind.min, IntKind.max, IntKind.signed, IntKind.bits] at h
  omega
/-- Sums that fit (no equation with a wrap stays in a context: linear arithmetic would look into it). -/
theorem wadd1 (n : Nat) (h : n < 9223372036854775807) : wrap64 ((n : Int) + 1) = ((n + 1 : Nat) : Int) := by rw [w64 (by omega) (by omega)]; omega
theorem wadd4 (n : Nat) (h : n < 9223372036854775803) : wrap64 ((n : Int) + 4) = ((n + 4 : Nat) : Int) := by rw [w64 (by omega) (by omega)]; omega
theorem wsub1 (n : Nat) (h0 : 0 < n) (h : n < 9223372036854775807) : wrap64 ((n : Int) - 1) = ((n - 1 : Nat) : Int) := by rw [w64 (by omega) (by omega)]; omega
theorem rd_nat (l : List Int) (n : Nat) : rd l (n : Int) = l.getD n 0 := by unfold rd; simp
theorem all_step (l : List Int) (i : Nat) (hi : i < l.length) : (l.drop i).all (fun x => decide (x = 0)) = (decide (l[i] = 0) && (l.drop (i + 1)).all (fun x => decide (x = 0))) := by
  rw [List.drop_eq_getElem_cons hi]; rfl
theorem blank_l0 (l : List Int) (hl : l.length ≤ 100000) : ∀ (d i : Nat), i + d = l.length → Ev (fun k => text_Blank.l0 k l (l.length : Int) (i : Int)) ((l.drop i).all (fun x => decide (x = 0)))
  | 0, i, h => by
    refine Ev.step (fun k => text_Blank.l0.eq_2 ..) ?_
    rw [List.drop_of_length_le (by omega)]
    simp only [if_neg (show ¬ (i : Int) < (l.length : Int) by omega), List.all_nil]
    exact Ev.now _
  | d + 1, i, h => by
    refine Ev.step (fun k => text_Blank.l0.eq_2 ..) ?_
    have hi : i < l.length := by omega
    have hr : l.getD i 0 = l[i] := by rw [List.getD_eq_getElem?_getD, List.getElem?_eq_getElem hi]; rfl
    rw [all_step l i hi]
    simp only [if_pos (show (i : Int) < (l.length : Int) by omega), if_pos (show (0 : Int) ≤ (i : Int) by omega), rd_nat, hr, wadd1 i (by omega)]
    by_cases h0 : l[i] = 0
    · simp only [if_pos h0, decide_eq_true h0, Bool.true_and]
      exact blank_l0 l hl d (i + 1) (by omega)
    · simp only [if_neg h0, decide_eq_false h0, Bool.false_and]
      exact Ev.now _
theorem refblank_l0 (l : List Int) (hr0 : ∀ x ∈ l, 0 ≤ x) (hl : l.length ≤ 100000) : ∀ (d i : Nat), i + d = l.length → Ev (fun k => oakumref02_Blank.l0 k l (i : Int)) ((l.drop i).all (fun x => decide (x = 0)))
  | 0, i, h => by
    refine Ev.step (fun k => oakumref02_Blank.l0.eq_2 ..) ?_
    rw [List.drop_of_length_le (by omega)]
    simp only [if_neg (show ¬ (i : Int) < (l.length : Int) by omega), List.all_nil]
    exact Ev.now _
  | d + 1, i, h => by
    refine Ev.step (fun k => oakumref02_Blank.l0.eq_2 ..) ?_
    have hi : i < l.length := by omega
    have hr : l.getD i 0 = l[i] := by rw [List.getD_eq_getElem?_getD, List.getElem?_eq_getElem hi]; rfl
    have hp := hr0 l[i] (List.getElem_mem hi)
    rw [all_step l i hi]
    simp only [if_pos (show (i : Int) < (l.length : Int) by omega), if_pos (show (0 : Int) ≤ (i : Int) by omega), rd_nat, hr, wadd1 i (by omega)]
    by_cases h0 : l[i] = 0
    · simp only [if_neg (show ¬ l[i] > 0 by omega), decide_eq_true h0, Bool.true_and]
      exact refblank_l0 l hr0 hl d (i + 1) (by omega)
    · simp only [if_pos (show l[i] > 0 by omega), decide_eq_false h0, Bool.false_and]
      exact Ev.now _
end Go.Proofs.YtoabboeongbloaaDoor.BlkP
/- The document's Get of a header: its walk. -/
set_option linter.unusedVariables false
set_option linter.unusedSimpArgs false
namespace Go.Proofs.YtoabboeongbloaaDoor.RefG
open Go.RowKit Go.Proofs.YtoabboeongbloaaDoorW.PrintWords Go.Proofs.YtoabboeongbloaaDoorW.PrintLast Go.Proofs.YtoabboeongbloaaDoorW.PrintMore Go.Proofs.YtoabboeongbloaaDoorW.Mv Go.Proofs.YtoabboeongbloaaDoorW.HKit Go.Proofs.YtoabboeongbloaaDoorW.But Go.Proofs.YtoabboeongbloaaDoor.HeadA Go.Proofs.YtoabboeongbloaaDoor.PHeadGets Go.Proofs.YtoabboeongbloaaDoor.SumP Go.Proofs.YtoabboeongbloaaDoor.Sums Go.Proofs.YtoabboeongbloaaDoor.Maker Go.Proofs.YtoabboeongbloaaDoor.GetW
/-- The document's header as its cells. -/
def refC (r : Raw) : Array Value := #[.int .i64 r.mark, .int .u8 r.flag, .string r.name, .string r.link, .string r.user, .string r.group, .string r.pre, .int .i64 r.mode, .int .i64 r.uid, .int .i64 r.gid, .int .i64 r.size, .int .i64 r.time, .int .i64 r.major, .int .i64 r.minor]
theorem ref_cells {W : World} {k : Nat} {r : Raw} (h : W.heap[k]? = some (.cells (refC r) 34 (0, 0))) : W.cell? ⟨k, 0, none⟩ = some (.int .i64 r.mark) ∧ W.cell? ⟨k, 1, none⟩ = some (.int .u8 r.flag) ∧ W.cell? ⟨k, 2, none⟩ = some (.string r.name) ∧ W.cell? ⟨k, 3, none⟩ = some (.string r.link) ∧ W.cell? ⟨k, 4, none⟩ = some (.string r.user) ∧ W.cell? ⟨k, 5, none⟩ = some (.string r.group) ∧ W.cell? ⟨k, 6, none⟩ = some (.string r.pre) ∧ W.cell? ⟨k, 7, none⟩ = some (.int .i64 r.mode) ∧ W.cell? ⟨k, 8, none⟩ = some (.int .i64 r.uid) ∧ W.cell? ⟨k, 9, none⟩ = some (.int .i64 r.gid) ∧ W.cell? ⟨k, 10, none⟩ = some (.int .i64 r.size) ∧ W.cell? ⟨k, 11, none⟩ = some (.int .i64 r.time) ∧ W.cell? ⟨k, 12, none⟩ = some (.int .i64 r.major) ∧ W.cell? ⟨k, 13, none⟩ = some (.int .i64 r.minor) := by
  refine ⟨?_, ?_, ?_, ?_, ?_, ?_, ?_, ?_, ?_, ?_, ?_, ?_, ?_, ?_⟩ <;> simp [World.cell?, h, refC]
set_option maxHeartbeats 2000000 in
set_option maxRecDepth 100000 in
theorem texts_calls (w : World) : Calls Tryd.prog 29 #[] w fun e w' => e = .returned (.agg #[.int .i64 0, .int .i64 100, .int .i64 157, .int .i64 100, .int .i64 265, .int .i64 32, .int .i64 297, .int .i64 32, .int .i64 345, .int .i64 155]) ∧ Below w.heap.size w w' := by
  go_enter Tryd.func29, Tryd.ntmps29
  go_wp2_with fail
  refine bodyPost_ret (results_cell_row rfl _ _ w.heap.size 68 _ (0, 0) _ rfl (heap_alloc_new w _) Tryd.underlying68 rfl (by kernel_rfl)) rfl ?_
  exact ⟨rfl, (Below.refl _ w).alloc (Nat.le_refl _) _⟩
set_option maxHeartbeats 2000000 in
set_option maxRecDepth 100000 in
theorem ofs_calls (r : Raw) (w : World) : Calls Tryd.prog 10 #[.agg (rawC r)] w fun e w' => e = .returned (.agg (refC r)) ∧ Below w.heap.size w w' := by
  obtain ⟨mk, fl, nm, ln, pr, us, gr, n7, n8, n9, n10, n11, n12, n13⟩ := r
  unfold rawC refC
  dsimp only
  go_enter Tryd.func10, Tryd.ntmps10
  go_wp2_with fail
  refine bodyPost_ret (results_cell_row rfl _ _ (w.heap.size + 1) 34 _ (0, 0) _ rfl (heap_alloc2_new w _ _) Tryd.underlying34 rfl (by kernel_rfl)) rfl ?_
  exact ⟨rfl, ((Below.refl _ w).alloc (Nat.le_refl _) _).alloc (by simp) _⟩
set_option maxHeartbeats 1000000 in
theorem ref_set {w : World} {T : Nat} {x : Raw} (h : w.heap[T]? = some (.cells (refC x) 34 (0, 0))) (a0 a1 a2 a3 a4 a5 a6 a7 a8 a9 a10 a11 a12 a13 : Value) : ((((((((((((((w.setCell ⟨T, 0, none⟩ a0).setCell ⟨T, 1, none⟩ a1).setCell ⟨T, 2, none⟩ a2).setCell ⟨T, 3, none⟩ a3).setCell ⟨T, 4, none⟩ a4).setCell ⟨T, 5, none⟩ a5).setCell ⟨T, 6, none⟩ a6).setCell ⟨T, 7, none⟩ a7).setCell ⟨T, 8, none⟩ a8).setCell ⟨T, 9, none⟩ a9).setCell ⟨T, 10, none⟩ a10).setCell ⟨T, 11, none⟩ a11).setCell ⟨T, 12, none⟩ a12).setCell ⟨T, 13, none⟩ a13).heap[T]? = some (.cells #[a0, a1, a2, a3, a4, a5, a6, a7, a8, a9, a10, a11, a12, a13] 34 (0, 0)) := by
  unfold refC at h
  have h0 := heap_setCell_same _ T 0 _ 34 a0 h
  simp only [List.setIfInBounds_toArray, List.set_cons_zero, List.set_cons_succ] at h0
  have h1 := heap_setCell_same _ T 1 _ 34 a1 h0
  simp only [List.setIfInBounds_toArray, List.set_cons_zero, List.set_cons_succ] at h1
  have h2 := heap_setCell_same _ T 2 _ 34 a2 h1
  simp only [List.setIfInBounds_toArray, List.set_cons_zero, List.set_cons_succ] at h2
  have h3 := heap_setCell_same _ T 3 _ 34 a3 h2
  simp only [List.setIfInBounds_toArray, List.set_cons_zero, List.set_cons_succ] at h3
  have h4 := heap_setCell_same _ T 4 _ 34 a4 h3
  simp only [List.setIfInBounds_toArray, List.set_cons_zero, List.set_cons_succ] at h4
  have h5 := heap_setCell_same _ T 5 _ 34 a5 h4
  simp only [List.setIfInBounds_toArray, List.set_cons_zero, List.set_cons_succ] at h5
  have h6 := heap_setCell_same _ T 6 _ 34 a6 h5
  simp only [List.setIfInBounds_toArray, List.set_cons_zero, List.set_cons_succ] at h6
  have h7 := heap_setCell_same _ T 7 _ 34 a7 h6
  simp only [List.setIfInBounds_toArray, List.set_cons_zero, List.set_cons_succ] at h7
  have h8 := heap_setCell_same _ T 8 _ 34 a8 h7
  simp only [List.setIfInBounds_toArray, List.set_cons_zero, List.set_cons_succ] at h8
  have h9 := heap_setCell_same _ T 9 _ 34 a9 h8
  simp only [List.setIfInBounds_toArray, List.set_cons_zero, List.set_cons_succ] at h9
  have h10 := heap_setCell_same _ T 10 _ 34 a10 h9
  simp only [List.setIfInBounds_toArray, List.set_cons_zero, List.set_cons_succ] at h10
  have h11 := heap_setCell_same _ T 11 _ 34 a11 h10
  simp only [List.setIfInBounds_toArray, List.set_cons_zero, List.set_cons_succ] at h11
  have h12 := heap_setCell_same _ T 12 _ 34 a12 h11
  simp only [List.setIfInBounds_toArray, List.set_cons_zero, List.set_cons_succ] at h12
  have h13 := heap_setCell_same _ T 13 _ 34 a13 h12
  simp only [List.setIfInBounds_toArray, List.set_cons_zero, List.set_cons_succ] at h13
  exact h13
theorem rknown_f (c : Int) : oakumref06_Known.f c = some (knownB c) := by
  unfold oakumref06_Known.f knownB
  repeat' split
  all_goals simp_all
  all_goals by_cases h75 : c = 75 <;> simp_all
  all_goals (rw [beq_eq_false_iff_ne.2 (by assumption : ¬ c = 75)]; symm; simp; omega)
set_option maxHeartbeats 2000000 in
set_option maxRecDepth 100000 in
theorem rget_bad (A : Option Addr) (c : Nat) (l : List Int) (w : World) (hb : Bytes l) (hr : Kd.C (Kd.int .u8) w A l.length l) (hc : l.length ≤ c) (he : ¬ checkOf l = 0) :
    Calls Tryd.prog 13 #[.slice A l.length c] w fun e w' => e = .returned (.tuple #[.agg (refC rawZ), .int .i64 (checkOf l)]) ∧ Below w.heap.size w w' := by
  obtain ⟨wa, hwa⟩ : ∃ wa, wa = w.alloc (.cells (refC rawZ) 34) := ⟨_, rfl⟩
  have hb0 : Below w.heap.size w wa := by rw [hwa]; exact (Below.refl _ w).alloc (Nat.le_refl _) _
  have hz0 : wa.heap[w.heap.size]? = some (.cells (refC rawZ) 34 (0, 0)) := by rw [hwa]; exact heap_alloc_new w _
  obtain ⟨k0, hk0⟩ := ref_check hb
  have hck := oakumref03_Check.calls k0 A c l _ wa (Kd.C_below hr hb0) hc hk0
  have hwa' := hwa.symm
  unfold refC rawZ at hwa'
  dsimp only at hwa'
  generalize checkOf l = ec at *
  have d1 : (ec != 0) = true := bne_iff_ne.2 he
  have HCK := Lib.hid hck
  have HB0 := Lib.hid hb0
  have HZ0 := Lib.hid hz0
  have HWA := Lib.hid hwa'
  have HR := Lib.hid hr
  clear hr hck hb0 hz0 hwa hwa' hk0 he
  go_enter Tryd.func13, Tryd.ntmps13
  go_upto_region 1 with (fail)
  rw [HWA.out]
  go_wp2_with fail
  (with_reducible refine HCK.out.mono ?_)
  rintro e w1 ⟨rfl, hd1⟩
  have hb1 := hd1.below
  have HB1 := Lib.hid (HB0.out.trans (hb1.mono HB0.out.size))
  have HZ1 := Lib.hid ((But.of_below (fun _ => False) hb1).heap HZ0.out (fun h => h))
  clear HWA HCK hb1 hd1 HB0 HZ0
  obtain ⟨r0, r1, r2, r3, r4, r5, r6, r7, r8, r9, r10, r11, r12, r13⟩ := ref_cells HZ1.out
  have z0 : w1.frozen? ⟨w.heap.size, 0, none⟩ = false := maker_free HZ1.out 0
  have z1 : w1.frozen? ⟨w.heap.size, 1, none⟩ = false := maker_free HZ1.out 1
  have z2 : w1.frozen? ⟨w.heap.size, 2, none⟩ = false := maker_free HZ1.out 2
  have z3 : w1.frozen? ⟨w.heap.size, 3, none⟩ = false := maker_free HZ1.out 3
  have z4 : w1.frozen? ⟨w.heap.size, 4, none⟩ = false := maker_free HZ1.out 4
  have z5 : w1.frozen? ⟨w.heap.size, 5, none⟩ = false := maker_free HZ1.out 5
  have z6 : w1.frozen? ⟨w.heap.size, 6, none⟩ = false := maker_free HZ1.out 6
  have z7 : w1.frozen? ⟨w.heap.size, 7, none⟩ = false := maker_free HZ1.out 7
  have z8 : w1.frozen? ⟨w.heap.size, 8, none⟩ = false := maker_free HZ1.out 8
  have z9 : w1.frozen? ⟨w.heap.size, 9, none⟩ = false := maker_free HZ1.out 9
  have z10 : w1.frozen? ⟨w.heap.size, 10, none⟩ = false := maker_free HZ1.out 10
  have z11 : w1.frozen? ⟨w.heap.size, 11, none⟩ = false := maker_free HZ1.out 11
  have z12 : w1.frozen? ⟨w.heap.size, 12, none⟩ = false := maker_free HZ1.out 12
  have z13 : w1.frozen? ⟨w.heap.size, 13, none⟩ = false := maker_free HZ1.out 13
  go_wp2_with fail
  refine bodyPost_ret (results_cell_tmp_row (p := 2) (u := 3) rfl _ _ w.heap.size 34 _ (0, 0) _ rfl (ref_set HZ1.out _ _ _ _ _ _ _ _ _ _ _ _ _ _) Tryd.underlying34 rfl (by kernel_rfl)) rfl ?_
  exact ⟨rfl, HB1.out.trans ((raw_set_but w1 w.heap.size _ _ _ _ _ _ _ _ _ _ _ _ _ _).below (fun k h => by omega) HB1.out.size)⟩
set_option maxHeartbeats 2000000 in
set_option maxRecDepth 100000 in
theorem rget_flag (ad : Addr) (c : Nat) (l : List Int) (w : World) (hb : Bytes l) (hl : l.length = 512) (hr : Kd.C (Kd.int .u8) w (some ad) l.length l) (hc : l.length ≤ c) (he : checkOf l = 0) (hk : knownB (rd l 156) = false) :
    Calls Tryd.prog 13 #[.slice (some ad) l.length c] w fun e w' => e = .returned (.tuple #[.agg (refC rawZ), .int .i64 9]) ∧ Below w.heap.size w w' := by
  obtain ⟨wa, hwa⟩ : ∃ wa, wa = w.alloc (.cells (refC rawZ) 34) := ⟨_, rfl⟩
  have hb0 : Below w.heap.size w wa := by rw [hwa]; exact (Below.refl _ w).alloc (Nat.le_refl _) _
  have hz0 : wa.heap[w.heap.size]? = some (.cells (refC rawZ) 34 (0, 0)) := by rw [hwa]; exact heap_alloc_new w _
  obtain ⟨k0, hk0⟩ := ref_check hb
  have hck := oakumref03_Check.calls k0 (some ad) c l _ wa (Kd.C_below hr hb0) hc hk0
  have hwa' := hwa.symm
  unfold refC rawZ at hwa'
  dsimp only at hwa'
  rw [he] at hck
  have hkn := fun W => oakumref06_Known.calls (rd l 156) _ W (rknown_f (rd l 156))
  rw [hk] at hkn
  have HK := Lib.hid hkn
  have HL := Lib.hid hl
  have hlb : (156 : Int) < (l.length : Int) := by omega
  have HCK := Lib.hid hck
  have HB0 := Lib.hid hb0
  have HZ0 := Lib.hid hz0
  have HWA := Lib.hid hwa'
  have HR := Lib.hid hr
  clear hr hck hb0 hz0 hwa hwa' hk0 he hl hk hkn 
  go_enter Tryd.func13, Tryd.ntmps13
  go_upto_region 1 with (fail)
  rw [HWA.out]
  go_wp2_with fail
  (with_reducible refine HCK.out.mono ?_)
  rintro e w1 ⟨rfl, hd1⟩
  have hb1 := hd1.below
  have HB1 := Lib.hid (HB0.out.trans (hb1.mono HB0.out.size))
  have HZ1 := Lib.hid ((But.of_below (fun _ => False) hb1).heap HZ0.out (fun h => h))
  clear HWA HCK hb1 hd1 HB0 HZ0
  go_upto_region 4 with (fail)
  have HR1 := Lib.hid (Kd.C_below HR.out HB1.out)
  obtain ⟨ad', had, h156⟩ := C_at HR1.out 156 (by decide) (by omega)
  cases had
  have h156' : w1.cell? ⟨ad.block, ad.off + 156, none⟩ = some (.int .u8 (rd l 156)) := by simpa [Addr.add] using h156
  clear h156
  have hS : ∀ W : World, Below w1.heap.size w1 W → (W.cell? ⟨ad.block, ad.off + 156, none⟩ = some (.int .u8 (rd l 156)) ∧ Hid (Kd.C (Kd.int .u8) W (some ad) l.length l)) := fun W hW => ⟨pw_cell_below hW h156', Lib.hid (Kd.C_below HR1.out hW)⟩
  have HS := Lib.hid hS
  clear hS
  go_region_held3 (fun W => W.cell? ⟨ad.block, ad.off + 156, none⟩ = some (.int .u8 (rd l 156)) ∧ Hid (Kd.C (Kd.int .u8) W (some ad) l.length l)) (first | assumption | exact HS.out _ (by (first | exact Below.drew (Below.refl _ w1) | exact ((Below.refl _ w1).alloc (Nat.le_refl _) _).drew))) (first | ((go_at_call 38); (refine (HeadA.rmark_calls (some ad) c l _ (HS.out _ (by (first | exact Below.drew (Below.refl _ w1) | exact ((Below.refl _ w1).alloc (Nat.le_refl _) _).drew))).2.out hc (by have := HL.out; omega)).mono ?_); (rintro e w4 ⟨rfl, rfl⟩)))
  all_goals
    obtain ⟨W4, hW4⟩ : ∃ W4, W4 = (w1.alloc (.cells #[.int .i64 (markOf l), .int .u8 (rd l 156), .string ⟨#[]⟩, .string ⟨#[]⟩, .string ⟨#[]⟩, .string ⟨#[]⟩, .string ⟨#[]⟩, .int .i64 0, .int .i64 0, .int .i64 0, .int .i64 0, .int .i64 0, .int .i64 0, .int .i64 0] 34)).drew := ⟨_, rfl⟩
    have HRW := Lib.hid (show W4.heap[w1.heap.size]? = some (.cells (refC { rawZ with mark := markOf l, flag := rd l 156 }) 34 (0, 0)) by rw [hW4]; exact heap_alloc_new w1 _)
    have HB4 := Lib.hid (show Below w1.heap.size w1 W4 by rw [hW4]; exact ((Below.refl _ w1).alloc (Nat.le_refl _) _).drew)
    obtain ⟨r0, r1, r2, r3, r4, r5, r6, r7, r8, r9, r10, r11, r12, r13⟩ := ref_cells HRW.out
    dsimp only at r0 r1
    clear r2 r3 r4 r5 r6 r7 r8 r9 r10 r11 r12 r13
    go_upto_region 5 with (fail)
    rw [← hW4]
    have hszr : w1.heap.size < W4.heap.size := (maker_lt2 HRW.out)
    clear hW4 h156' HS HR1
    go_wp2_with fail
    (with_reducible refine (HK.out _).mono ?_)
    rintro e w5 ⟨rfl, hd⟩
    have hb15 := HB4.out.trans (hd.below.mono HB4.out.size)
    have HB5 := Lib.hid (HB1.out.trans (hb15.mono HB1.out.size))
    have HZ5 := Lib.hid ((But.of_below (fun _ => False) hb15).heap HZ1.out (fun h => h))
    clear HK hd HB4 HRW hb15 hszr r0 r1
    obtain ⟨r0, r1, r2, r3, r4, r5, r6, r7, r8, r9, r10, r11, r12, r13⟩ := ref_cells HZ5.out
    have z0 : w5.frozen? ⟨w.heap.size, 0, none⟩ = false := maker_free HZ5.out 0
    have z1 : w5.frozen? ⟨w.heap.size, 1, none⟩ = false := maker_free HZ5.out 1
    have z2 : w5.frozen? ⟨w.heap.size, 2, none⟩ = false := maker_free HZ5.out 2
    have z3 : w5.frozen? ⟨w.heap.size, 3, none⟩ = false := maker_free HZ5.out 3
    have z4 : w5.frozen? ⟨w.heap.size, 4, none⟩ = false := maker_free HZ5.out 4
    have z5 : w5.frozen? ⟨w.heap.size, 5, none⟩ = false := maker_free HZ5.out 5
    have z6 : w5.frozen? ⟨w.heap.size, 6, none⟩ = false := maker_free HZ5.out 6
    have z7 : w5.frozen? ⟨w.heap.size, 7, none⟩ = false := maker_free HZ5.out 7
    have z8 : w5.frozen? ⟨w.heap.size, 8, none⟩ = false := maker_free HZ5.out 8
    have z9 : w5.frozen? ⟨w.heap.size, 9, none⟩ = false := maker_free HZ5.out 9
    have z10 : w5.frozen? ⟨w.heap.size, 10, none⟩ = false := maker_free HZ5.out 10
    have z11 : w5.frozen? ⟨w.heap.size, 11, none⟩ = false := maker_free HZ5.out 11
    have z12 : w5.frozen? ⟨w.heap.size, 12, none⟩ = false := maker_free HZ5.out 12
    have z13 : w5.frozen? ⟨w.heap.size, 13, none⟩ = false := maker_free HZ5.out 13
    go_wp2_with fail
    refine bodyPost_ret (results_cell_tmp_row (p := 2) (u := 3) rfl _ _ w.heap.size 34 _ (0, 0) _ rfl (ref_set HZ5.out _ _ _ _ _ _ _ _ _ _ _ _ _ _) Tryd.underlying34 rfl (by kernel_rfl)) rfl ?_
    exact ⟨rfl, HB5.out.trans ((raw_set_but w5 w.heap.size _ _ _ _ _ _ _ _ _ _ _ _ _ _).below (fun k h => by omega) HB5.out.size)⟩
end Go.Proofs.YtoabboeongbloaaDoor.RefG
/- The document's Get of a header: its loop. -/
set_option linter.unusedVariables false
set_option linter.unusedSimpArgs false
namespace Go.Proofs.YtoabboeongbloaaDoor.RefG
open Go.RowKit Go.Proofs.YtoabboeongbloaaDoorW.PrintWords Go.Proofs.YtoabboeongbloaaDoorW.PrintLast Go.Proofs.YtoabboeongbloaaDoorW.PrintMore Go.Proofs.YtoabboeongbloaaDoorW.Mv Go.Proofs.YtoabboeongbloaaDoorW.HKit Go.Proofs.YtoabboeongbloaaDoorW.But Go.Proofs.YtoabboeongbloaaDoor.HeadA Go.Proofs.YtoabboeongbloaaDoor.PHeadGets Go.Proofs.YtoabboeongbloaaDoor.SumP Go.Proofs.YtoabboeongbloaaDoor.Sums Go.Proofs.YtoabboeongbloaaDoor.Maker Go.Proofs.YtoabboeongbloaaDoor.GetW
/-- The header after i rounds. -/
def rawI (l : List Int) (m : Int) (i : Nat) : Raw :=
  { mark := m, flag := rd l 156, name := if 0 < i then txt l 0 100 else ⟨#[]⟩, link := if 1 < i then txt l 157 100 else ⟨#[]⟩, pre := if 4 < i ∧ m = 1 then txt l 345 155 else ⟨#[]⟩, user := if 2 < i ∧ ¬ m = 0 then txt l 265 32 else ⟨#[]⟩, group := if 3 < i ∧ ¬ m = 0 then txt l 297 32 else ⟨#[]⟩, mode := 0, uid := 0, gid := 0, size := 0, time := 0, major := 0, minor := 0 }
theorem rawI_end (l : List Int) : rawI l (markOf l) 5 = rawOf l := by
  unfold rawI rawOf
  by_cases h0 : markOf l = 0
  · simp [h0]
  · simp [h0]
def textT : Array Value := #[.int .i64 0, .int .i64 100, .int .i64 157, .int .i64 100, .int .i64 265, .int .i64 32, .int .i64 297, .int .i64 32, .int .i64 345, .int .i64 155]
def RSt (w W : World) (T R P : Nat) (x : Raw) : Prop := Below w.heap.size w W ∧ W.heap[T]? = some (.cells (refC rawZ) 34 (0, 0)) ∧ W.heap[R]? = some (.cells (refC x) 34 (0, 0)) ∧ W.heap[P]? = some (.cells textT 68 (0, 0)) ∧ w.heap.size ≤ T ∧ w.heap.size ≤ R ∧ T < R ∧ R < P
theorem RSt.below {w W W' : World} {T R P : Nat} {x : Raw} (h : RSt w W T R P x) (hb : Below W.heap.size W W') : RSt w W' T R P x := by
  obtain ⟨h1, h2, h3, h4, h5⟩ := h
  have hB := But.of_below (fun _ => False) hb
  exact ⟨h1.trans (hb.mono h1.size), hB.heap h2 (fun h => h), hB.heap h3 (fun h => h), hB.heap h4 (fun h => h), h5⟩
theorem rst_set {w W : World} {T R P : Nat} {x y : Raw} (h : RSt w W T R P x) (i : Nat) (v : Value) (hy : (refC x).setIfInBounds i v = refC y) : RSt w (W.setCell ⟨R, i, none⟩ v) T R P y := by
  obtain ⟨h1, h2, h3, h4, h5, h6, h7, h8⟩ := h
  have hB : But (fun k => k = R) W (W.setCell ⟨R, i, none⟩ v) := But.setCell _ _ _ rfl
  exact ⟨h1.setCell h6 v, hB.heap h2 (by omega), by rw [← hy]; exact heap_setCell_same W R i _ 34 v h3, hB.heap h4 (by omega), h5, h6, h7, h8⟩
theorem RSt.old {w W : World} {T R P : Nat} {x : Raw} (h : RSt w W T R P x) : Below w.heap.size w W := h.1
theorem RSt.drew {w W : World} {T R P : Nat} {x : Raw} (h : RSt w W T R P x) : RSt w W.drew T R P x := ⟨Below.drew h.1, h.2⟩
theorem rst_tab {w W : World} {T R P : Nat} {x : Raw} (h : RSt w W T R P x) : W.cell? ⟨P, 0, none⟩ = some (.int .i64 0) ∧ W.cell? ⟨P, 1, none⟩ = some (.int .i64 100) ∧ W.cell? ⟨P, 2, none⟩ = some (.int .i64 157) ∧ W.cell? ⟨P, 3, none⟩ = some (.int .i64 100) ∧ W.cell? ⟨P, 4, none⟩ = some (.int .i64 265) ∧ W.cell? ⟨P, 5, none⟩ = some (.int .i64 32) ∧ W.cell? ⟨P, 6, none⟩ = some (.int .i64 297) ∧ W.cell? ⟨P, 7, none⟩ = some (.int .i64 32) ∧ W.cell? ⟨P, 8, none⟩ = some (.int .i64 345) ∧ W.cell? ⟨P, 9, none⟩ = some (.int .i64 155) := by
  have h4 := h.2.2.2.1
  refine ⟨?_, ?_, ?_, ?_, ?_, ?_, ?_, ?_, ?_, ?_⟩ <;> simp [World.cell?, h4, textT]
theorem rst_str0 {w W : World} {T R P : Nat} {x : Raw} (h : RSt w W T R P x) (s : ByteArray) : RSt w (W.setCell ⟨R, 2, none⟩ (.string s)) T R P { x with name := s } := rst_set h 2 _ (by simp [refC])
theorem tab0 {w W : World} {T R P : Nat} {x : Raw} (h : RSt w W T R P x) : W.cell? ⟨P, 0, none⟩ = some (.int .i64 0) ∧ W.cell? ⟨P, 1, none⟩ = some (.int .i64 100) := by
  have q := rst_tab h
  obtain ⟨a0, a1, a2, a3, a4, a5, a6, a7, a8, a9⟩ := q
  exact ⟨a0, a1⟩
theorem rst_str1 {w W : World} {T R P : Nat} {x : Raw} (h : RSt w W T R P x) (s : ByteArray) : RSt w (W.setCell ⟨R, 3, none⟩ (.string s)) T R P { x with link := s } := rst_set h 3 _ (by simp [refC])
theorem tab1 {w W : World} {T R P : Nat} {x : Raw} (h : RSt w W T R P x) : W.cell? ⟨P, 2, none⟩ = some (.int .i64 157) ∧ W.cell? ⟨P, 3, none⟩ = some (.int .i64 100) := by
  have q := rst_tab h
  obtain ⟨a0, a1, a2, a3, a4, a5, a6, a7, a8, a9⟩ := q
  exact ⟨a2, a3⟩
theorem rst_str2 {w W : World} {T R P : Nat} {x : Raw} (h : RSt w W T R P x) (s : ByteArray) : RSt w (W.setCell ⟨R, 4, none⟩ (.string s)) T R P { x with user := s } := rst_set h 4 _ (by simp [refC])
theorem tab2 {w W : World} {T R P : Nat} {x : Raw} (h : RSt w W T R P x) : W.cell? ⟨P, 4, none⟩ = some (.int .i64 265) ∧ W.cell? ⟨P, 5, none⟩ = some (.int .i64 32) := by
  have q := rst_tab h
  obtain ⟨a0, a1, a2, a3, a4, a5, a6, a7, a8, a9⟩ := q
  exact ⟨a4, a5⟩
theorem rst_str3 {w W : World} {T R P : Nat} {x : Raw} (h : RSt w W T R P x) (s : ByteArray) : RSt w (W.setCell ⟨R, 5, none⟩ (.string s)) T R P { x with group := s } := rst_set h 5 _ (by simp [refC])
theorem tab3 {w W : World} {T R P : Nat} {x : Raw} (h : RSt w W T R P x) : W.cell? ⟨P, 6, none⟩ = some (.int .i64 297) ∧ W.cell? ⟨P, 7, none⟩ = some (.int .i64 32) := by
  have q := rst_tab h
  obtain ⟨a0, a1, a2, a3, a4, a5, a6, a7, a8, a9⟩ := q
  exact ⟨a6, a7⟩
theorem rst_str4 {w W : World} {T R P : Nat} {x : Raw} (h : RSt w W T R P x) (s : ByteArray) : RSt w (W.setCell ⟨R, 6, none⟩ (.string s)) T R P { x with pre := s } := rst_set h 6 _ (by simp [refC])
theorem tab4 {w W : World} {T R P : Nat} {x : Raw} (h : RSt w W T R P x) : W.cell? ⟨P, 8, none⟩ = some (.int .i64 345) ∧ W.cell? ⟨P, 9, none⟩ = some (.int .i64 155) := by
  have q := rst_tab h
  obtain ⟨a0, a1, a2, a3, a4, a5, a6, a7, a8, a9⟩ := q
  exact ⟨a8, a9⟩
theorem rst_eq {w W : World} {T R P : Nat} {x y : Raw} (h : RSt w W T R P x) (e : x = y) : RSt w W T R P y := e ▸ h
def GRel (w : World) (T R P : Nat) (l : List Int) (m : Int) (n : Nat) (v : Value) (wr : World) : Prop := ∃ (i : Nat) (z : Int), v = .int .i64 z ∧ z = i ∧ n + i = 5 ∧ RSt w wr T R P (rawI l m i)
theorem rget_at (A : Option Addr) (c n : Nat) (l : List Int) (w : World) (hr : Kd.C (Kd.int .u8) w A n l) (hl : l.length = n) (hc : n ≤ c) (hs : n ≤ 100000) (hb : Bytes l) :
    Calls Tryd.prog 39 #[.slice A n c] w fun e w' => e = .returned (.string (Txt.getOf l)) ∧ Below w.heap.size w w' := by
  subst hl
  obtain ⟨k, hk⟩ := (TxtP.refget_ev l hs).rounds
  rw [TxtP.get_ahead l hb]
  exact oakumref02_Get.calls k A c l _ w hr hc hk
set_option maxHeartbeats 8000000 in
set_option maxRecDepth 100000 in
theorem rget_goes (ad : Addr) (c : Nat) (l : List Int) (w : World) (hb : Bytes l) (hl : l.length = 512) (hr : Kd.C (Kd.int .u8) w (some ad) l.length l) (hc : l.length ≤ c) (he : checkOf l = 0) (hk : knownB (rd l 156) = true) :
    Calls Tryd.prog 13 #[.slice (some ad) l.length c] w fun e w' => e = .returned (.tuple #[.agg (refC (rawOf l)), .int .i64 0]) ∧ Below w.heap.size w w' := by
  obtain ⟨wa, hwa⟩ : ∃ wa, wa = w.alloc (.cells (refC rawZ) 34) := ⟨_, rfl⟩
  have hb0 : Below w.heap.size w wa := by rw [hwa]; exact (Below.refl _ w).alloc (Nat.le_refl _) _
  have hz0 : wa.heap[w.heap.size]? = some (.cells (refC rawZ) 34 (0, 0)) := by rw [hwa]; exact heap_alloc_new w _
  obtain ⟨k0, hk0⟩ := ref_check hb
  have hck := oakumref03_Check.calls k0 (some ad) c l _ wa (Kd.C_below hr hb0) hc hk0
  have hwa' := hwa.symm
  unfold refC rawZ at hwa'
  dsimp only at hwa'
  rw [he] at hck
  have hkn := fun W => oakumref06_Known.calls (rd l 156) _ W (rknown_f (rd l 156))
  rw [hk] at hkn
  have HK := Lib.hid hkn
  have HL := Lib.hid hl
  have hlb : (156 : Int) < (l.length : Int) := by omega
  have htx := fun W => texts_calls W
  have HTX := Lib.hid htx
  have HRD := Lib.hid hr
  have hlr := fun (f s : Nat) (h : f + s ≤ 512) => part_len l f s (by omega)
  have HLR := Lib.hid hlr
  have HCK := Lib.hid hck
  have HB0 := Lib.hid hb0
  have HZ0 := Lib.hid hz0
  have HWA := Lib.hid hwa'
  have HR := Lib.hid hr
  clear hr hck hb0 hz0 hwa hwa' hk0 he hl hk hkn htx hlr
  go_enter Tryd.func13, Tryd.ntmps13
  go_upto_region 1 with (fail)
  rw [HWA.out]
  go_wp2_with fail
  (with_reducible refine HCK.out.mono ?_)
  rintro e w1 ⟨rfl, hd1⟩
  have hb1 := hd1.below
  have HB1 := Lib.hid (HB0.out.trans (hb1.mono HB0.out.size))
  have HZ1 := Lib.hid ((But.of_below (fun _ => False) hb1).heap HZ0.out (fun h => h))
  clear HWA HCK hb1 hd1 HB0 HZ0
  go_upto_region 4 with (fail)
  have HR1 := Lib.hid (Kd.C_below HR.out HB1.out)
  obtain ⟨ad', had, h156⟩ := C_at HR1.out 156 (by decide) (by omega)
  cases had
  have h156' : w1.cell? ⟨ad.block, ad.off + 156, none⟩ = some (.int .u8 (rd l 156)) := by simpa [Addr.add] using h156
  clear h156
  have hS : ∀ W : World, Below w1.heap.size w1 W → (W.cell? ⟨ad.block, ad.off + 156, none⟩ = some (.int .u8 (rd l 156)) ∧ Hid (Kd.C (Kd.int .u8) W (some ad) l.length l)) := fun W hW => ⟨pw_cell_below hW h156', Lib.hid (Kd.C_below HR1.out hW)⟩
  have HS := Lib.hid hS
  clear hS
  go_region_held3 (fun W => W.cell? ⟨ad.block, ad.off + 156, none⟩ = some (.int .u8 (rd l 156)) ∧ Hid (Kd.C (Kd.int .u8) W (some ad) l.length l)) (first | assumption | exact HS.out _ (by (first | exact Below.drew (Below.refl _ w1) | exact ((Below.refl _ w1).alloc (Nat.le_refl _) _).drew))) (first | ((go_at_call 38); (refine (HeadA.rmark_calls (some ad) c l _ (HS.out _ (by (first | exact Below.drew (Below.refl _ w1) | exact ((Below.refl _ w1).alloc (Nat.le_refl _) _).drew))).2.out hc (by have := HL.out; omega)).mono ?_); (rintro e w4 ⟨rfl, rfl⟩)))
  all_goals
    obtain ⟨W4, hW4⟩ : ∃ W4, W4 = (w1.alloc (.cells #[.int .i64 (markOf l), .int .u8 (rd l 156), .string ⟨#[]⟩, .string ⟨#[]⟩, .string ⟨#[]⟩, .string ⟨#[]⟩, .string ⟨#[]⟩, .int .i64 0, .int .i64 0, .int .i64 0, .int .i64 0, .int .i64 0, .int .i64 0, .int .i64 0] 34)).drew := ⟨_, rfl⟩
    have HRW := Lib.hid (show W4.heap[w1.heap.size]? = some (.cells (refC { rawZ with mark := markOf l, flag := rd l 156 }) 34 (0, 0)) by rw [hW4]; exact heap_alloc_new w1 _)
    have HB4 := Lib.hid (show Below w1.heap.size w1 W4 by rw [hW4]; exact ((Below.refl _ w1).alloc (Nat.le_refl _) _).drew)
    obtain ⟨r0, r1, r2, r3, r4, r5, r6, r7, r8, r9, r10, r11, r12, r13⟩ := ref_cells HRW.out
    dsimp only at r0 r1
    clear r2 r3 r4 r5 r6 r7 r8 r9 r10 r11 r12 r13
    go_upto_region 5 with (fail)
    rw [← hW4]
    have hszr : w1.heap.size < W4.heap.size := (maker_lt2 HRW.out)
    clear hW4 h156' HS HR1
    go_wp2_with fail
    (with_reducible refine (HK.out _).mono ?_)
    rintro e w5 ⟨rfl, hd⟩
    have hb15 := HB4.out.trans (hd.below.mono HB4.out.size)
    have HB5 := Lib.hid (HB1.out.trans (hb15.mono HB1.out.size))
    have HZ5 := Lib.hid ((But.of_below (fun _ => False) hb15).heap HZ1.out (fun h => h))
    have HRW5 := Lib.hid ((But.of_below (fun _ => False) hd.below).heap HRW.out (fun h => h))
    have HSZ := Lib.hid (show w.heap.size < w1.heap.size ∧ w1.heap.size < w5.heap.size from ⟨maker_lt2 HZ1.out, Nat.lt_of_lt_of_le hszr hd.below.size⟩)
    clear HK hd HB4 HRW hb15 hszr HB1 HZ1 r0 r1
    go_wp2_with fail
    (with_reducible refine (HTX.out _).mono ?_)
    rintro e w6 ⟨rfl, hb6⟩
    go_upto_region 8 with (fail)
    obtain ⟨W7, hW7⟩ : ∃ W7, W7 = w6.alloc (.cells #[.int .i64 0, .int .i64 100, .int .i64 157, .int .i64 100, .int .i64 265, .int .i64 32, .int .i64 297, .int .i64 32, .int .i64 345, .int .i64 155] 68) := ⟨_, rfl⟩
    rw [← hW7]
    have b57 : Below w5.heap.size w5 W7 := by rw [hW7]; exact hb6.alloc hb6.size _
    have HST : Hid (RSt w W7 w.heap.size w1.heap.size w6.heap.size (rawI l (markOf l) 0)) := Lib.hid ⟨HB5.out.trans (b57.mono HB5.out.size), (But.of_below (fun _ => False) b57).heap HZ5.out (fun h => h), (But.of_below (fun _ => False) b57).heap HRW5.out (fun h => h), by rw [hW7]; exact heap_alloc_new w6 _, Nat.le_refl _, Nat.le_of_lt HSZ.out.1, HSZ.out.1, Nat.lt_of_lt_of_le HSZ.out.2 hb6.size⟩
    have HRAW := Lib.hid (rawI_end l)
    clear hb6 b57 hW7 HSZ HRW5 HZ5 HB5 HTX
    generalize w1.heap.size = R at *
    generalize w6.heap.size = P at *
    generalize w.heap.size = T at *
    have hmk : markOf l = 0 ∨ markOf l = 1 ∨ markOf l = 2 := by
      unfold markOf markS
      split
      · exact .inr (.inl rfl)
      · split
        · exact .inr (.inr rfl)
        · exact .inl rfl
    have HBY := Lib.hid hb
    clear hb
    generalize markOf l = mk at *
    go_wp2_with fail
    rcases hmk with rfl | rfl | rfl
    · have HR0 := Lib.hid (show GRel w T R P l 0 5 (.int .i64 0) W7 from ⟨0, 0, rfl, rfl, rfl, HST.out⟩)
      clear HST
      go_loopg [7] 5 (fun n v7 wr => GRel w T R P l 0 n v7 wr)
      case atStart => exact HR0.out
      case round =>
        clear HR0
        obtain ⟨i, z, rfl, hz, hni, hst⟩ := hrel
        have hi6 : i = 0 ∨ i = 1 ∨ i = 2 ∨ i = 3 ∨ i = 4 ∨ i = 5 := by omega
        rcases hi6 with rfl | rfl | rfl | rfl | rfl | rfl
        · obtain rfl : z = 0 := by omega
          clear hz
          have HST := Lib.hid hst
          clear hst
          have fc1 := ref_cells HST.out.2.2.1
          dsimp only [rawI] at fc1
          obtain ⟨r0, r1, r2, r3, r4, r5, r6, r7, r8, r9, r10, r11, r12, r13⟩ := fc1
          clear r2 r3 r4 r5 r6 r7 r8 r9 r10 r11 r12 r13
          go_upto_region 12 with (fail)
          clear r0 r1
          have hcut : ∀ W : World, (Instr.slice 25 (.slice (some ad) l.length c) (some (.int .i64 0)) (some (.int .i64 100)) none).run Tryd.prog W = .ok (.slice (cutAt (some ad) c 0) 100 c) W := cut_run (some ad) c l.length 0 100 (by have := HL.out; omega) hc
          have hwr : IntKind.i64.wrap 100 = 100 := by decide
          have hwr2 : IntKind.i64.wrap (0 + 100) = 100 := by decide
          have hgt := fun (W : World) (hW : Below w.heap.size w W) => rget_at (cutAt (some ad) c 0) c 100 (HeadA.part l 0 100) W (cut_C (f := 0) (s := 100) (Kd.C_below HRD.out hW) (by have := HL.out; omega) hc) (HLR.out _ _ (by omega)) (by have := HL.out; omega) (by omega) (fun x hx => HBY.out x (List.mem_of_mem_take (List.mem_of_mem_drop hx)))
          have GT := Lib.hid hgt
          clear hgt
          have HST9 := Lib.hid HST.out.drew
          clear HST
          have HST := Lib.hid HST9.out
          clear HST9
          go_region_held3 (fun W => W.cell? ⟨P, 0, none⟩ = some (.int .i64 0) ∧ W.cell? ⟨P, 1, none⟩ = some (.int .i64 100)) (first | assumption | (with_reducible exact tab0 HST.out) | (with_reducible exact tab0 (rst_str0 HST.out _))) (first | ((go_at_call 39); (with_reducible refine (GT.out _ HST.out.old).mono ?_); (rintro e w8 ⟨rfl, hb8⟩); (have HST9 := Lib.hid (RSt.below HST.out hb8)); (clear hb8 HST); (have HST := Lib.hid HST9.out); (have fz1 := maker_free HST.out.2.2.1 2); (have fc1 := (ref_cells HST.out.2.2.1)); (dsimp only [rawI] at fc1); (obtain ⟨r0, r1, r2, r3, r4, r5, r6, r7, r8, r9, r10, r11, r12, r13⟩ := fc1); (clear HST9)))
          have hst := rst_str0 HST.out (Txt.getOf (HeadA.part l 0 100))
          have HSTN := Lib.hid (show RSt w _ T R P (rawI l 0 1) from rst_eq hst (by simp [rawI, txt]))
          clear hst
          go_wp2_with fail
          go_roundg (gk - 1)
          case rel => exact ⟨1, 1, rfl, rfl, by omega, HSTN.out⟩
          case measure => omega
        · obtain rfl : z = 1 := by omega
          clear hz
          have HST := Lib.hid hst
          clear hst
          have fc1 := ref_cells HST.out.2.2.1
          dsimp only [rawI] at fc1
          obtain ⟨r0, r1, r2, r3, r4, r5, r6, r7, r8, r9, r10, r11, r12, r13⟩ := fc1
          clear r2 r3 r4 r5 r6 r7 r8 r9 r10 r11 r12 r13
          go_upto_region 12 with (fail)
          clear r0 r1
          have hcut : ∀ W : World, (Instr.slice 25 (.slice (some ad) l.length c) (some (.int .i64 157)) (some (.int .i64 257)) none).run Tryd.prog W = .ok (.slice (cutAt (some ad) c 157) 100 (c - 157)) W := cut_run (some ad) c l.length 157 100 (by have := HL.out; omega) hc
          have hwr : IntKind.i64.wrap 257 = 257 := by decide
          have hwr2 : IntKind.i64.wrap (157 + 100) = 257 := by decide
          have hgt := fun (W : World) (hW : Below w.heap.size w W) => rget_at (cutAt (some ad) c 157) (c - 157) 100 (HeadA.part l 157 100) W (cut_C (f := 157) (s := 100) (Kd.C_below HRD.out hW) (by have := HL.out; omega) hc) (HLR.out _ _ (by omega)) (by have := HL.out; omega) (by omega) (fun x hx => HBY.out x (List.mem_of_mem_take (List.mem_of_mem_drop hx)))
          have GT := Lib.hid hgt
          clear hgt
          have HST9 := Lib.hid HST.out.drew
          clear HST
          have HST := Lib.hid HST9.out
          clear HST9
          go_region_held3 (fun W => W.cell? ⟨P, 2, none⟩ = some (.int .i64 157) ∧ W.cell? ⟨P, 3, none⟩ = some (.int .i64 100)) (first | assumption | (with_reducible exact tab1 HST.out) | (with_reducible exact tab1 (rst_str1 HST.out _))) (first | ((go_at_call 39); (with_reducible refine (GT.out _ HST.out.old).mono ?_); (rintro e w8 ⟨rfl, hb8⟩); (have HST9 := Lib.hid (RSt.below HST.out hb8)); (clear hb8 HST); (have HST := Lib.hid HST9.out); (have fz1 := maker_free HST.out.2.2.1 3); (have fc1 := (ref_cells HST.out.2.2.1)); (dsimp only [rawI] at fc1); (obtain ⟨r0, r1, r2, r3, r4, r5, r6, r7, r8, r9, r10, r11, r12, r13⟩ := fc1); (clear HST9)))
          have hst := rst_str1 HST.out (Txt.getOf (HeadA.part l 157 100))
          have HSTN := Lib.hid (show RSt w _ T R P (rawI l 0 2) from rst_eq hst (by simp [rawI, txt]))
          clear hst
          go_wp2_with fail
          go_roundg (gk - 1)
          case rel => exact ⟨2, 2, rfl, rfl, by omega, HSTN.out⟩
          case measure => omega
        · obtain rfl : z = 2 := by omega
          clear hz
          have HST := Lib.hid hst
          clear hst
          have fc1 := ref_cells HST.out.2.2.1
          dsimp only [rawI] at fc1
          obtain ⟨r0, r1, r2, r3, r4, r5, r6, r7, r8, r9, r10, r11, r12, r13⟩ := fc1
          clear r2 r3 r4 r5 r6 r7 r8 r9 r10 r11 r12 r13
          have HSTN := Lib.hid (show RSt w wr T R P (rawI l 0 3) from rst_eq HST.out (by simp [rawI]))
          go_wp2_with fail
          go_roundg (gk - 1)
          case rel => exact ⟨3, 3, rfl, rfl, by omega, HSTN.out⟩
          case measure => omega
        · obtain rfl : z = 3 := by omega
          clear hz
          have HST := Lib.hid hst
          clear hst
          have fc1 := ref_cells HST.out.2.2.1
          dsimp only [rawI] at fc1
          obtain ⟨r0, r1, r2, r3, r4, r5, r6, r7, r8, r9, r10, r11, r12, r13⟩ := fc1
          clear r2 r3 r4 r5 r6 r7 r8 r9 r10 r11 r12 r13
          have HSTN := Lib.hid (show RSt w wr T R P (rawI l 0 4) from rst_eq HST.out (by simp [rawI]))
          go_wp2_with fail
          go_roundg (gk - 1)
          case rel => exact ⟨4, 4, rfl, rfl, by omega, HSTN.out⟩
          case measure => omega
        · obtain rfl : z = 4 := by omega
          clear hz
          have HST := Lib.hid hst
          clear hst
          have fc1 := ref_cells HST.out.2.2.1
          dsimp only [rawI] at fc1
          obtain ⟨r0, r1, r2, r3, r4, r5, r6, r7, r8, r9, r10, r11, r12, r13⟩ := fc1
          clear r2 r3 r4 r5 r6 r7 r8 r9 r10 r11 r12 r13
          have HSTN := Lib.hid (show RSt w wr T R P (rawI l 0 5) from rst_eq HST.out (by simp [rawI]))
          go_wp2_with fail
          go_roundg (gk - 1)
          case rel => exact ⟨5, 5, rfl, rfl, by omega, HSTN.out⟩
          case measure => omega
        · obtain rfl : z = 5 := by omega
          clear hz
          have HST := Lib.hid hst
          clear hst
          have HZ := Lib.hid HST.out.2.1
          have fc1 := ref_cells HST.out.2.2.1
          dsimp only [rawI] at fc1
          obtain ⟨r0, r1, r2, r3, r4, r5, r6, r7, r8, r9, r10, r11, r12, r13⟩ := fc1
          obtain ⟨t0, t1, t2, t3, t4, t5, t6, t7, t8, t9, t10, t11, t12, t13⟩ := ref_cells HZ.out
          have z0 : wr.frozen? ⟨T, 0, none⟩ = false := maker_free HZ.out 0
          have z1 : wr.frozen? ⟨T, 1, none⟩ = false := maker_free HZ.out 1
          have z2 : wr.frozen? ⟨T, 2, none⟩ = false := maker_free HZ.out 2
          have z3 : wr.frozen? ⟨T, 3, none⟩ = false := maker_free HZ.out 3
          have z4 : wr.frozen? ⟨T, 4, none⟩ = false := maker_free HZ.out 4
          have z5 : wr.frozen? ⟨T, 5, none⟩ = false := maker_free HZ.out 5
          have z6 : wr.frozen? ⟨T, 6, none⟩ = false := maker_free HZ.out 6
          have z7 : wr.frozen? ⟨T, 7, none⟩ = false := maker_free HZ.out 7
          have z8 : wr.frozen? ⟨T, 8, none⟩ = false := maker_free HZ.out 8
          have z9 : wr.frozen? ⟨T, 9, none⟩ = false := maker_free HZ.out 9
          have z10 : wr.frozen? ⟨T, 10, none⟩ = false := maker_free HZ.out 10
          have z11 : wr.frozen? ⟨T, 11, none⟩ = false := maker_free HZ.out 11
          have z12 : wr.frozen? ⟨T, 12, none⟩ = false := maker_free HZ.out 12
          have z13 : wr.frozen? ⟨T, 13, none⟩ = false := maker_free HZ.out 13
          have hnrt : ¬ T = R := by have := HST.out.2.2.2.2.2.2.1; omega
          have hnrt' : ¬ R = T := by omega
          go_wp2_with fail
          refine bodyPost_ret (results_cell_tmp_row (p := 2) (u := 3) rfl _ _ T 34 _ (0, 0) _ rfl (ref_set HZ.out _ _ _ _ _ _ _ _ _ _ _ _ _ _) Tryd.underlying34 rfl (by kernel_rfl)) rfl ?_
          exact ⟨by rw [← HRAW.out]; rfl, HST.out.1.trans ((raw_set_but wr T _ _ _ _ _ _ _ _ _ _ _ _ _ _).below (fun k h => by have := HST.out.2.2.2.2.1; omega) HST.out.1.size)⟩
    · have HR0 := Lib.hid (show GRel w T R P l 1 5 (.int .i64 0) W7 from ⟨0, 0, rfl, rfl, rfl, HST.out⟩)
      clear HST
      go_loopg [7] 5 (fun n v7 wr => GRel w T R P l 1 n v7 wr)
      case atStart => exact HR0.out
      case round =>
        clear HR0
        obtain ⟨i, z, rfl, hz, hni, hst⟩ := hrel
        have hi6 : i = 0 ∨ i = 1 ∨ i = 2 ∨ i = 3 ∨ i = 4 ∨ i = 5 := by omega
        rcases hi6 with rfl | rfl | rfl | rfl | rfl | rfl
        · obtain rfl : z = 0 := by omega
          clear hz
          have HST := Lib.hid hst
          clear hst
          have fc1 := ref_cells HST.out.2.2.1
          dsimp only [rawI] at fc1
          obtain ⟨r0, r1, r2, r3, r4, r5, r6, r7, r8, r9, r10, r11, r12, r13⟩ := fc1
          clear r2 r3 r4 r5 r6 r7 r8 r9 r10 r11 r12 r13
          go_upto_region 12 with (fail)
          clear r0 r1
          have hcut : ∀ W : World, (Instr.slice 25 (.slice (some ad) l.length c) (some (.int .i64 0)) (some (.int .i64 100)) none).run Tryd.prog W = .ok (.slice (cutAt (some ad) c 0) 100 c) W := cut_run (some ad) c l.length 0 100 (by have := HL.out; omega) hc
          have hwr : IntKind.i64.wrap 100 = 100 := by decide
          have hwr2 : IntKind.i64.wrap (0 + 100) = 100 := by decide
          have hgt := fun (W : World) (hW : Below w.heap.size w W) => rget_at (cutAt (some ad) c 0) c 100 (HeadA.part l 0 100) W (cut_C (f := 0) (s := 100) (Kd.C_below HRD.out hW) (by have := HL.out; omega) hc) (HLR.out _ _ (by omega)) (by have := HL.out; omega) (by omega) (fun x hx => HBY.out x (List.mem_of_mem_take (List.mem_of_mem_drop hx)))
          have GT := Lib.hid hgt
          clear hgt
          have HST9 := Lib.hid HST.out.drew
          clear HST
          have HST := Lib.hid HST9.out
          clear HST9
          go_region_held3 (fun W => W.cell? ⟨P, 0, none⟩ = some (.int .i64 0) ∧ W.cell? ⟨P, 1, none⟩ = some (.int .i64 100)) (first | assumption | (with_reducible exact tab0 HST.out) | (with_reducible exact tab0 (rst_str0 HST.out _))) (first | ((go_at_call 39); (with_reducible refine (GT.out _ HST.out.old).mono ?_); (rintro e w8 ⟨rfl, hb8⟩); (have HST9 := Lib.hid (RSt.below HST.out hb8)); (clear hb8 HST); (have HST := Lib.hid HST9.out); (have fz1 := maker_free HST.out.2.2.1 2); (have fc1 := (ref_cells HST.out.2.2.1)); (dsimp only [rawI] at fc1); (obtain ⟨r0, r1, r2, r3, r4, r5, r6, r7, r8, r9, r10, r11, r12, r13⟩ := fc1); (clear HST9)))
          have hst := rst_str0 HST.out (Txt.getOf (HeadA.part l 0 100))
          have HSTN := Lib.hid (show RSt w _ T R P (rawI l 1 1) from rst_eq hst (by simp [rawI, txt]))
          clear hst
          go_wp2_with fail
          go_roundg (gk - 1)
          case rel => exact ⟨1, 1, rfl, rfl, by omega, HSTN.out⟩
          case measure => omega
        · obtain rfl : z = 1 := by omega
          clear hz
          have HST := Lib.hid hst
          clear hst
          have fc1 := ref_cells HST.out.2.2.1
          dsimp only [rawI] at fc1
          obtain ⟨r0, r1, r2, r3, r4, r5, r6, r7, r8, r9, r10, r11, r12, r13⟩ := fc1
          clear r2 r3 r4 r5 r6 r7 r8 r9 r10 r11 r12 r13
          go_upto_region 12 with (fail)
          clear r0 r1
          have hcut : ∀ W : World, (Instr.slice 25 (.slice (some ad) l.length c) (some (.int .i64 157)) (some (.int .i64 257)) none).run Tryd.prog W = .ok (.slice (cutAt (some ad) c 157) 100 (c - 157)) W := cut_run (some ad) c l.length 157 100 (by have := HL.out; omega) hc
          have hwr : IntKind.i64.wrap 257 = 257 := by decide
          have hwr2 : IntKind.i64.wrap (157 + 100) = 257 := by decide
          have hgt := fun (W : World) (hW : Below w.heap.size w W) => rget_at (cutAt (some ad) c 157) (c - 157) 100 (HeadA.part l 157 100) W (cut_C (f := 157) (s := 100) (Kd.C_below HRD.out hW) (by have := HL.out; omega) hc) (HLR.out _ _ (by omega)) (by have := HL.out; omega) (by omega) (fun x hx => HBY.out x (List.mem_of_mem_take (List.mem_of_mem_drop hx)))
          have GT := Lib.hid hgt
          clear hgt
          have HST9 := Lib.hid HST.out.drew
          clear HST
          have HST := Lib.hid HST9.out
          clear HST9
          go_region_held3 (fun W => W.cell? ⟨P, 2, none⟩ = some (.int .i64 157) ∧ W.cell? ⟨P, 3, none⟩ = some (.int .i64 100)) (first | assumption | (with_reducible exact tab1 HST.out) | (with_reducible exact tab1 (rst_str1 HST.out _))) (first | ((go_at_call 39); (with_reducible refine (GT.out _ HST.out.old).mono ?_); (rintro e w8 ⟨rfl, hb8⟩); (have HST9 := Lib.hid (RSt.below HST.out hb8)); (clear hb8 HST); (have HST := Lib.hid HST9.out); (have fz1 := maker_free HST.out.2.2.1 3); (have fc1 := (ref_cells HST.out.2.2.1)); (dsimp only [rawI] at fc1); (obtain ⟨r0, r1, r2, r3, r4, r5, r6, r7, r8, r9, r10, r11, r12, r13⟩ := fc1); (clear HST9)))
          have hst := rst_str1 HST.out (Txt.getOf (HeadA.part l 157 100))
          have HSTN := Lib.hid (show RSt w _ T R P (rawI l 1 2) from rst_eq hst (by simp [rawI, txt]))
          clear hst
          go_wp2_with fail
          go_roundg (gk - 1)
          case rel => exact ⟨2, 2, rfl, rfl, by omega, HSTN.out⟩
          case measure => omega
        · obtain rfl : z = 2 := by omega
          clear hz
          have HST := Lib.hid hst
          clear hst
          have fc1 := ref_cells HST.out.2.2.1
          dsimp only [rawI] at fc1
          obtain ⟨r0, r1, r2, r3, r4, r5, r6, r7, r8, r9, r10, r11, r12, r13⟩ := fc1
          clear r2 r3 r4 r5 r6 r7 r8 r9 r10 r11 r12 r13
          go_upto_region 12 with (fail)
          clear r0 r1
          have hcut : ∀ W : World, (Instr.slice 25 (.slice (some ad) l.length c) (some (.int .i64 265)) (some (.int .i64 297)) none).run Tryd.prog W = .ok (.slice (cutAt (some ad) c 265) 32 (c - 265)) W := cut_run (some ad) c l.length 265 32 (by have := HL.out; omega) hc
          have hwr : IntKind.i64.wrap 297 = 297 := by decide
          have hwr2 : IntKind.i64.wrap (265 + 32) = 297 := by decide
          have hgt := fun (W : World) (hW : Below w.heap.size w W) => rget_at (cutAt (some ad) c 265) (c - 265) 32 (HeadA.part l 265 32) W (cut_C (f := 265) (s := 32) (Kd.C_below HRD.out hW) (by have := HL.out; omega) hc) (HLR.out _ _ (by omega)) (by have := HL.out; omega) (by omega) (fun x hx => HBY.out x (List.mem_of_mem_take (List.mem_of_mem_drop hx)))
          have GT := Lib.hid hgt
          clear hgt
          have HST9 := Lib.hid HST.out.drew
          clear HST
          have HST := Lib.hid HST9.out
          clear HST9
          go_region_held3 (fun W => W.cell? ⟨P, 4, none⟩ = some (.int .i64 265) ∧ W.cell? ⟨P, 5, none⟩ = some (.int .i64 32)) (first | assumption | (with_reducible exact tab2 HST.out) | (with_reducible exact tab2 (rst_str2 HST.out _))) (first | ((go_at_call 39); (with_reducible refine (GT.out _ HST.out.old).mono ?_); (rintro e w8 ⟨rfl, hb8⟩); (have HST9 := Lib.hid (RSt.below HST.out hb8)); (clear hb8 HST); (have HST := Lib.hid HST9.out); (have fz1 := maker_free HST.out.2.2.1 4); (have fc1 := (ref_cells HST.out.2.2.1)); (dsimp only [rawI] at fc1); (obtain ⟨r0, r1, r2, r3, r4, r5, r6, r7, r8, r9, r10, r11, r12, r13⟩ := fc1); (clear HST9)))
          have hst := rst_str2 HST.out (Txt.getOf (HeadA.part l 265 32))
          have HSTN := Lib.hid (show RSt w _ T R P (rawI l 1 3) from rst_eq hst (by simp [rawI, txt]))
          clear hst
          go_wp2_with fail
          go_roundg (gk - 1)
          case rel => exact ⟨3, 3, rfl, rfl, by omega, HSTN.out⟩
          case measure => omega
        · obtain rfl : z = 3 := by omega
          clear hz
          have HST := Lib.hid hst
          clear hst
          have fc1 := ref_cells HST.out.2.2.1
          dsimp only [rawI] at fc1
          obtain ⟨r0, r1, r2, r3, r4, r5, r6, r7, r8, r9, r10, r11, r12, r13⟩ := fc1
          clear r2 r3 r4 r5 r6 r7 r8 r9 r10 r11 r12 r13
          go_upto_region 12 with (fail)
          clear r0 r1
          have hcut : ∀ W : World, (Instr.slice 25 (.slice (some ad) l.length c) (some (.int .i64 297)) (some (.int .i64 329)) none).run Tryd.prog W = .ok (.slice (cutAt (some ad) c 297) 32 (c - 297)) W := cut_run (some ad) c l.length 297 32 (by have := HL.out; omega) hc
          have hwr : IntKind.i64.wrap 329 = 329 := by decide
          have hwr2 : IntKind.i64.wrap (297 + 32) = 329 := by decide
          have hgt := fun (W : World) (hW : Below w.heap.size w W) => rget_at (cutAt (some ad) c 297) (c - 297) 32 (HeadA.part l 297 32) W (cut_C (f := 297) (s := 32) (Kd.C_below HRD.out hW) (by have := HL.out; omega) hc) (HLR.out _ _ (by omega)) (by have := HL.out; omega) (by omega) (fun x hx => HBY.out x (List.mem_of_mem_take (List.mem_of_mem_drop hx)))
          have GT := Lib.hid hgt
          clear hgt
          have HST9 := Lib.hid HST.out.drew
          clear HST
          have HST := Lib.hid HST9.out
          clear HST9
          go_region_held3 (fun W => W.cell? ⟨P, 6, none⟩ = some (.int .i64 297) ∧ W.cell? ⟨P, 7, none⟩ = some (.int .i64 32)) (first | assumption | (with_reducible exact tab3 HST.out) | (with_reducible exact tab3 (rst_str3 HST.out _))) (first | ((go_at_call 39); (with_reducible refine (GT.out _ HST.out.old).mono ?_); (rintro e w8 ⟨rfl, hb8⟩); (have HST9 := Lib.hid (RSt.below HST.out hb8)); (clear hb8 HST); (have HST := Lib.hid HST9.out); (have fz1 := maker_free HST.out.2.2.1 5); (have fc1 := (ref_cells HST.out.2.2.1)); (dsimp only [rawI] at fc1); (obtain ⟨r0, r1, r2, r3, r4, r5, r6, r7, r8, r9, r10, r11, r12, r13⟩ := fc1); (clear HST9)))
          have hst := rst_str3 HST.out (Txt.getOf (HeadA.part l 297 32))
          have HSTN := Lib.hid (show RSt w _ T R P (rawI l 1 4) from rst_eq hst (by simp [rawI, txt]))
          clear hst
          go_wp2_with fail
          go_roundg (gk - 1)
          case rel => exact ⟨4, 4, rfl, rfl, by omega, HSTN.out⟩
          case measure => omega
        · obtain rfl : z = 4 := by omega
          clear hz
          have HST := Lib.hid hst
          clear hst
          have fc1 := ref_cells HST.out.2.2.1
          dsimp only [rawI] at fc1
          obtain ⟨r0, r1, r2, r3, r4, r5, r6, r7, r8, r9, r10, r11, r12, r13⟩ := fc1
          clear r2 r3 r4 r5 r6 r7 r8 r9 r10 r11 r12 r13
          go_upto_region 12 with (fail)
          clear r0 r1
          have hcut : ∀ W : World, (Instr.slice 25 (.slice (some ad) l.length c) (some (.int .i64 345)) (some (.int .i64 500)) none).run Tryd.prog W = .ok (.slice (cutAt (some ad) c 345) 155 (c - 345)) W := cut_run (some ad) c l.length 345 155 (by have := HL.out; omega) hc
          have hwr : IntKind.i64.wrap 500 = 500 := by decide
          have hwr2 : IntKind.i64.wrap (345 + 155) = 500 := by decide
          have hgt := fun (W : World) (hW : Below w.heap.size w W) => rget_at (cutAt (some ad) c 345) (c - 345) 155 (HeadA.part l 345 155) W (cut_C (f := 345) (s := 155) (Kd.C_below HRD.out hW) (by have := HL.out; omega) hc) (HLR.out _ _ (by omega)) (by have := HL.out; omega) (by omega) (fun x hx => HBY.out x (List.mem_of_mem_take (List.mem_of_mem_drop hx)))
          have GT := Lib.hid hgt
          clear hgt
          have HST9 := Lib.hid HST.out.drew
          clear HST
          have HST := Lib.hid HST9.out
          clear HST9
          go_region_held3 (fun W => W.cell? ⟨P, 8, none⟩ = some (.int .i64 345) ∧ W.cell? ⟨P, 9, none⟩ = some (.int .i64 155)) (first | assumption | (with_reducible exact tab4 HST.out) | (with_reducible exact tab4 (rst_str4 HST.out _))) (first | ((go_at_call 39); (with_reducible refine (GT.out _ HST.out.old).mono ?_); (rintro e w8 ⟨rfl, hb8⟩); (have HST9 := Lib.hid (RSt.below HST.out hb8)); (clear hb8 HST); (have HST := Lib.hid HST9.out); (have fz1 := maker_free HST.out.2.2.1 6); (have fc1 := (ref_cells HST.out.2.2.1)); (dsimp only [rawI] at fc1); (obtain ⟨r0, r1, r2, r3, r4, r5, r6, r7, r8, r9, r10, r11, r12, r13⟩ := fc1); (clear HST9)))
          have hst := rst_str4 HST.out (Txt.getOf (HeadA.part l 345 155))
          have HSTN := Lib.hid (show RSt w _ T R P (rawI l 1 5) from rst_eq hst (by simp [rawI, txt]))
          clear hst
          go_wp2_with fail
          go_roundg (gk - 1)
          case rel => exact ⟨5, 5, rfl, rfl, by omega, HSTN.out⟩
          case measure => omega
        · obtain rfl : z = 5 := by omega
          clear hz
          have HST := Lib.hid hst
          clear hst
          have HZ := Lib.hid HST.out.2.1
          have fc1 := ref_cells HST.out.2.2.1
          dsimp only [rawI] at fc1
          obtain ⟨r0, r1, r2, r3, r4, r5, r6, r7, r8, r9, r10, r11, r12, r13⟩ := fc1
          obtain ⟨t0, t1, t2, t3, t4, t5, t6, t7, t8, t9, t10, t11, t12, t13⟩ := ref_cells HZ.out
          have z0 : wr.frozen? ⟨T, 0, none⟩ = false := maker_free HZ.out 0
          have z1 : wr.frozen? ⟨T, 1, none⟩ = false := maker_free HZ.out 1
          have z2 : wr.frozen? ⟨T, 2, none⟩ = false := maker_free HZ.out 2
          have z3 : wr.frozen? ⟨T, 3, none⟩ = false := maker_free HZ.out 3
          have z4 : wr.frozen? ⟨T, 4, none⟩ = false := maker_free HZ.out 4
          have z5 : wr.frozen? ⟨T, 5, none⟩ = false := maker_free HZ.out 5
          have z6 : wr.frozen? ⟨T, 6, none⟩ = false := maker_free HZ.out 6
          have z7 : wr.frozen? ⟨T, 7, none⟩ = false := maker_free HZ.out 7
          have z8 : wr.frozen? ⟨T, 8, none⟩ = false := maker_free HZ.out 8
          have z9 : wr.frozen? ⟨T, 9, none⟩ = false := maker_free HZ.out 9
          have z10 : wr.frozen? ⟨T, 10, none⟩ = false := maker_free HZ.out 10
          have z11 : wr.frozen? ⟨T, 11, none⟩ = false := maker_free HZ.out 11
          have z12 : wr.frozen? ⟨T, 12, none⟩ = false := maker_free HZ.out 12
          have z13 : wr.frozen? ⟨T, 13, none⟩ = false := maker_free HZ.out 13
          have hnrt : ¬ T = R := by have := HST.out.2.2.2.2.2.2.1; omega
          have hnrt' : ¬ R = T := by omega
          go_wp2_with fail
          refine bodyPost_ret (results_cell_tmp_row (p := 2) (u := 3) rfl _ _ T 34 _ (0, 0) _ rfl (ref_set HZ.out _ _ _ _ _ _ _ _ _ _ _ _ _ _) Tryd.underlying34 rfl (by kernel_rfl)) rfl ?_
          exact ⟨by rw [← HRAW.out]; rfl, HST.out.1.trans ((raw_set_but wr T _ _ _ _ _ _ _ _ _ _ _ _ _ _).below (fun k h => by have := HST.out.2.2.2.2.1; omega) HST.out.1.size)⟩
    · have HR0 := Lib.hid (show GRel w T R P l 2 5 (.int .i64 0) W7 from ⟨0, 0, rfl, rfl, rfl, HST.out⟩)
      clear HST
      go_loopg [7] 5 (fun n v7 wr => GRel w T R P l 2 n v7 wr)
      case atStart => exact HR0.out
      case round =>
        clear HR0
        obtain ⟨i, z, rfl, hz, hni, hst⟩ := hrel
        have hi6 : i = 0 ∨ i = 1 ∨ i = 2 ∨ i = 3 ∨ i = 4 ∨ i = 5 := by omega
        rcases hi6 with rfl | rfl | rfl | rfl | rfl | rfl
        · obtain rfl : z = 0 := by omega
          clear hz
          have HST := Lib.hid hst
          clear hst
          have fc1 := ref_cells HST.out.2.2.1
          dsimp only [rawI] at fc1
          obtain ⟨r0, r1, r2, r3, r4, r5, r6, r7, r8, r9, r10, r11, r12, r13⟩ := fc1
          clear r2 r3 r4 r5 r6 r7 r8 r9 r10 r11 r12 r13
          go_upto_region 12 with (fail)
          clear r0 r1
          have hcut : ∀ W : World, (Instr.slice 25 (.slice (some ad) l.length c) (some (.int .i64 0)) (some (.int .i64 100)) none).run Tryd.prog W = .ok (.slice (cutAt (some ad) c 0) 100 c) W := cut_run (some ad) c l.length 0 100 (by have := HL.out; omega) hc
          have hwr : IntKind.i64.wrap 100 = 100 := by decide
          have hwr2 : IntKind.i64.wrap (0 + 100) = 100 := by decide
          have hgt := fun (W : World) (hW : Below w.heap.size w W) => rget_at (cutAt (some ad) c 0) c 100 (HeadA.part l 0 100) W (cut_C (f := 0) (s := 100) (Kd.C_below HRD.out hW) (by have := HL.out; omega) hc) (HLR.out _ _ (by omega)) (by have := HL.out; omega) (by omega) (fun x hx => HBY.out x (List.mem_of_mem_take (List.mem_of_mem_drop hx)))
          have GT := Lib.hid hgt
          clear hgt
          have HST9 := Lib.hid HST.out.drew
          clear HST
          have HST := Lib.hid HST9.out
          clear HST9
          go_region_held3 (fun W => W.cell? ⟨P, 0, none⟩ = some (.int .i64 0) ∧ W.cell? ⟨P, 1, none⟩ = some (.int .i64 100)) (first | assumption | (with_reducible exact tab0 HST.out) | (with_reducible exact tab0 (rst_str0 HST.out _))) (first | ((go_at_call 39); (with_reducible refine (GT.out _ HST.out.old).mono ?_); (rintro e w8 ⟨rfl, hb8⟩); (have HST9 := Lib.hid (RSt.below HST.out hb8)); (clear hb8 HST); (have HST := Lib.hid HST9.out); (have fz1 := maker_free HST.out.2.2.1 2); (have fc1 := (ref_cells HST.out.2.2.1)); (dsimp only [rawI] at fc1); (obtain ⟨r0, r1, r2, r3, r4, r5, r6, r7, r8, r9, r10, r11, r12, r13⟩ := fc1); (clear HST9)))
          have hst := rst_str0 HST.out (Txt.getOf (HeadA.part l 0 100))
          have HSTN := Lib.hid (show RSt w _ T R P (rawI l 2 1) from rst_eq hst (by simp [rawI, txt]))
          clear hst
          go_wp2_with fail
          go_roundg (gk - 1)
          case rel => exact ⟨1, 1, rfl, rfl, by omega, HSTN.out⟩
          case measure => omega
        · obtain rfl : z = 1 := by omega
          clear hz
          have HST := Lib.hid hst
          clear hst
          have fc1 := ref_cells HST.out.2.2.1
          dsimp only [rawI] at fc1
          obtain ⟨r0, r1, r2, r3, r4, r5, r6, r7, r8, r9, r10, r11, r12, r13⟩ := fc1
          clear r2 r3 r4 r5 r6 r7 r8 r9 r10 r11 r12 r13
          go_upto_region 12 with (fail)
          clear r0 r1
          have hcut : ∀ W : World, (Instr.slice 25 (.slice (some ad) l.length c) (some (.int .i64 157)) (some (.int .i64 257)) none).run Tryd.prog W = .ok (.slice (cutAt (some ad) c 157) 100 (c - 157)) W := cut_run (some ad) c l.length 157 100 (by have := HL.out; omega) hc
          have hwr : IntKind.i64.wrap 257 = 257 := by decide
          have hwr2 : IntKind.i64.wrap (157 + 100) = 257 := by decide
          have hgt := fun (W : World) (hW : Below w.heap.size w W) => rget_at (cutAt (some ad) c 157) (c - 157) 100 (HeadA.part l 157 100) W (cut_C (f := 157) (s := 100) (Kd.C_below HRD.out hW) (by have := HL.out; omega) hc) (HLR.out _ _ (by omega)) (by have := HL.out; omega) (by omega) (fun x hx => HBY.out x (List.mem_of_mem_take (List.mem_of_mem_drop hx)))
          have GT := Lib.hid hgt
          clear hgt
          have HST9 := Lib.hid HST.out.drew
          clear HST
          have HST := Lib.hid HST9.out
          clear HST9
          go_region_held3 (fun W => W.cell? ⟨P, 2, none⟩ = some (.int .i64 157) ∧ W.cell? ⟨P, 3, none⟩ = some (.int .i64 100)) (first | assumption | (with_reducible exact tab1 HST.out) | (with_reducible exact tab1 (rst_str1 HST.out _))) (first | ((go_at_call 39); (with_reducible refine (GT.out _ HST.out.old).mono ?_); (rintro e w8 ⟨rfl, hb8⟩); (have HST9 := Lib.hid (RSt.below HST.out hb8)); (clear hb8 HST); (have HST := Lib.hid HST9.out); (have fz1 := maker_free HST.out.2.2.1 3); (have fc1 := (ref_cells HST.out.2.2.1)); (dsimp only [rawI] at fc1); (obtain ⟨r0, r1, r2, r3, r4, r5, r6, r7, r8, r9, r10, r11, r12, r13⟩ := fc1); (clear HST9)))
          have hst := rst_str1 HST.out (Txt.getOf (HeadA.part l 157 100))
          have HSTN := Lib.hid (show RSt w _ T R P (rawI l 2 2) from rst_eq hst (by simp [rawI, txt]))
          clear hst
          go_wp2_with fail
          go_roundg (gk - 1)
          case rel => exact ⟨2, 2, rfl, rfl, by omega, HSTN.out⟩
          case measure => omega
        · obtain rfl : z = 2 := by omega
          clear hz
          have HST := Lib.hid hst
          clear hst
          have fc1 := ref_cells HST.out.2.2.1
          dsimp only [rawI] at fc1
          obtain ⟨r0, r1, r2, r3, r4, r5, r6, r7, r8, r9, r10, r11, r12, r13⟩ := fc1
          clear r2 r3 r4 r5 r6 r7 r8 r9 r10 r11 r12 r13
          go_upto_region 12 with (fail)
          clear r0 r1
          have hcut : ∀ W : World, (Instr.slice 25 (.slice (some ad) l.length c) (some (.int .i64 265)) (some (.int .i64 297)) none).run Tryd.prog W = .ok (.slice (cutAt (some ad) c 265) 32 (c - 265)) W := cut_run (some ad) c l.length 265 32 (by have := HL.out; omega) hc
          have hwr : IntKind.i64.wrap 297 = 297 := by decide
          have hwr2 : IntKind.i64.wrap (265 + 32) = 297 := by decide
          have hgt := fun (W : World) (hW : Below w.heap.size w W) => rget_at (cutAt (some ad) c 265) (c - 265) 32 (HeadA.part l 265 32) W (cut_C (f := 265) (s := 32) (Kd.C_below HRD.out hW) (by have := HL.out; omega) hc) (HLR.out _ _ (by omega)) (by have := HL.out; omega) (by omega) (fun x hx => HBY.out x (List.mem_of_mem_take (List.mem_of_mem_drop hx)))
          have GT := Lib.hid hgt
          clear hgt
          have HST9 := Lib.hid HST.out.drew
          clear HST
          have HST := Lib.hid HST9.out
          clear HST9
          go_region_held3 (fun W => W.cell? ⟨P, 4, none⟩ = some (.int .i64 265) ∧ W.cell? ⟨P, 5, none⟩ = some (.int .i64 32)) (first | assumption | (with_reducible exact tab2 HST.out) | (with_reducible exact tab2 (rst_str2 HST.out _))) (first | ((go_at_call 39); (with_reducible refine (GT.out _ HST.out.old).mono ?_); (rintro e w8 ⟨rfl, hb8⟩); (have HST9 := Lib.hid (RSt.below HST.out hb8)); (clear hb8 HST); (have HST := Lib.hid HST9.out); (have fz1 := maker_free HST.out.2.2.1 4); (have fc1 := (ref_cells HST.out.2.2.1)); (dsimp only [rawI] at fc1); (obtain ⟨r0, r1, r2, r3, r4, r5, r6, r7, r8, r9, r10, r11, r12, r13⟩ := fc1); (clear HST9)))
          have hst := rst_str2 HST.out (Txt.getOf (HeadA.part l 265 32))
          have HSTN := Lib.hid (show RSt w _ T R P (rawI l 2 3) from rst_eq hst (by simp [rawI, txt]))
          clear hst
          go_wp2_with fail
          go_roundg (gk - 1)
          case rel => exact ⟨3, 3, rfl, rfl, by omega, HSTN.out⟩
          case measure => omega
        · obtain rfl : z = 3 := by omega
          clear hz
          have HST := Lib.hid hst
          clear hst
          have fc1 := ref_cells HST.out.2.2.1
          dsimp only [rawI] at fc1
          obtain ⟨r0, r1, r2, r3, r4, r5, r6, r7, r8, r9, r10, r11, r12, r13⟩ := fc1
          clear r2 r3 r4 r5 r6 r7 r8 r9 r10 r11 r12 r13
          go_upto_region 12 with (fail)
          clear r0 r1
          have hcut : ∀ W : World, (Instr.slice 25 (.slice (some ad) l.length c) (some (.int .i64 297)) (some (.int .i64 329)) none).run Tryd.prog W = .ok (.slice (cutAt (some ad) c 297) 32 (c - 297)) W := cut_run (some ad) c l.length 297 32 (by have := HL.out; omega) hc
          have hwr : IntKind.i64.wrap 329 = 329 := by decide
          have hwr2 : IntKind.i64.wrap (297 + 32) = 329 := by decide
          have hgt := fun (W : World) (hW : Below w.heap.size w W) => rget_at (cutAt (some ad) c 297) (c - 297) 32 (HeadA.part l 297 32) W (cut_C (f := 297) (s := 32) (Kd.C_below HRD.out hW) (by have := HL.out; omega) hc) (HLR.out _ _ (by omega)) (by have := HL.out; omega) (by omega) (fun x hx => HBY.out x (List.mem_of_mem_take (List.mem_of_mem_drop hx)))
          have GT := Lib.hid hgt
          clear hgt
          have HST9 := Lib.hid HST.out.drew
          clear HST
          have HST := Lib.hid HST9.out
          clear HST9
          go_region_held3 (fun W => W.cell? ⟨P, 6, none⟩ = some (.int .i64 297) ∧ W.cell? ⟨P, 7, none⟩ = some (.int .i64 32)) (first | assumption | (with_reducible exact tab3 HST.out) | (with_reducible exact tab3 (rst_str3 HST.out _))) (first | ((go_at_call 39); (with_reducible refine (GT.out _ HST.out.old).mono ?_); (rintro e w8 ⟨rfl, hb8⟩); (have HST9 := Lib.hid (RSt.below HST.out hb8)); (clear hb8 HST); (have HST := Lib.hid HST9.out); (have fz1 := maker_free HST.out.2.2.1 5); (have fc1 := (ref_cells HST.out.2.2.1)); (dsimp only [rawI] at fc1); (obtain ⟨r0, r1, r2, r3, r4, r5, r6, r7, r8, r9, r10, r11, r12, r13⟩ := fc1); (clear HST9)))
          have hst := rst_str3 HST.out (Txt.getOf (HeadA.part l 297 32))
          have HSTN := Lib.hid (show RSt w _ T R P (rawI l 2 4) from rst_eq hst (by simp [rawI, txt]))
          clear hst
          go_wp2_with fail
          go_roundg (gk - 1)
          case rel => exact ⟨4, 4, rfl, rfl, by omega, HSTN.out⟩
          case measure => omega
        · obtain rfl : z = 4 := by omega
          clear hz
          have HST := Lib.hid hst
          clear hst
          have fc1 := ref_cells HST.out.2.2.1
          dsimp only [rawI] at fc1
          obtain ⟨r0, r1, r2, r3, r4, r5, r6, r7, r8, r9, r10, r11, r12, r13⟩ := fc1
          clear r2 r3 r4 r5 r6 r7 r8 r9 r10 r11 r12 r13
          have HSTN := Lib.hid (show RSt w wr T R P (rawI l 2 5) from rst_eq HST.out (by simp [rawI]))
          go_wp2_with fail
          go_roundg (gk - 1)
          case rel => exact ⟨5, 5, rfl, rfl, by omega, HSTN.out⟩
          case measure => omega
        · obtain rfl : z = 5 := by omega
          clear hz
          have HST := Lib.hid hst
          clear hst
          have HZ := Lib.hid HST.out.2.1
          have fc1 := ref_cells HST.out.2.2.1
          dsimp only [rawI] at fc1
          obtain ⟨r0, r1, r2, r3, r4, r5, r6, r7, r8, r9, r10, r11, r12, r13⟩ := fc1
          obtain ⟨t0, t1, t2, t3, t4, t5, t6, t7, t8, t9, t10, t11, t12, t13⟩ := ref_cells HZ.out
          have z0 : wr.frozen? ⟨T, 0, none⟩ = false := maker_free HZ.out 0
          have z1 : wr.frozen? ⟨T, 1, none⟩ = false := maker_free HZ.out 1
          have z2 : wr.frozen? ⟨T, 2, none⟩ = false := maker_free HZ.out 2
          have z3 : wr.frozen? ⟨T, 3, none⟩ = false := maker_free HZ.out 3
          have z4 : wr.frozen? ⟨T, 4, none⟩ = false := maker_free HZ.out 4
          have z5 : wr.frozen? ⟨T, 5, none⟩ = false := maker_free HZ.out 5
          have z6 : wr.frozen? ⟨T, 6, none⟩ = false := maker_free HZ.out 6
          have z7 : wr.frozen? ⟨T, 7, none⟩ = false := maker_free HZ.out 7
          have z8 : wr.frozen? ⟨T, 8, none⟩ = false := maker_free HZ.out 8
          have z9 : wr.frozen? ⟨T, 9, none⟩ = false := maker_free HZ.out 9
          have z10 : wr.frozen? ⟨T, 10, none⟩ = false := maker_free HZ.out 10
          have z11 : wr.frozen? ⟨T, 11, none⟩ = false := maker_free HZ.out 11
          have z12 : wr.frozen? ⟨T, 12, none⟩ = false := maker_free HZ.out 12
          have z13 : wr.frozen? ⟨T, 13, none⟩ = false := maker_free HZ.out 13
          have hnrt : ¬ T = R := by have := HST.out.2.2.2.2.2.2.1; omega
          have hnrt' : ¬ R = T := by omega
          go_wp2_with fail
          refine bodyPost_ret (results_cell_tmp_row (p := 2) (u := 3) rfl _ _ T 34 _ (0, 0) _ rfl (ref_set HZ.out _ _ _ _ _ _ _ _ _ _ _ _ _ _) Tryd.underlying34 rfl (by kernel_rfl)) rfl ?_
          exact ⟨by rw [← HRAW.out]; rfl, HST.out.1.trans ((raw_set_but wr T _ _ _ _ _ _ _ _ _ _ _ _ _ _).below (fun k h => by have := HST.out.2.2.2.2.1; omega) HST.out.1.size)⟩
end Go.Proofs.YtoabboeongbloaaDoor.RefG
/- The law HeadGets: what it compares. -/
set_option linter.unusedVariables false
set_option linter.unusedSimpArgs false
namespace Go.Proofs.YtoabboeongbloaaDoor.RefG
open Go.RowKit Go.Proofs.YtoabboeongbloaaDoorW.PrintWords Go.Proofs.YtoabboeongbloaaDoorW.PrintLast Go.Proofs.YtoabboeongbloaaDoorW.PrintMore Go.Proofs.YtoabboeongbloaaDoorW.Mv Go.Proofs.YtoabboeongbloaaDoorW.HKit Go.Proofs.YtoabboeongbloaaDoorW.But Go.Proofs.YtoabboeongbloaaDoor.HeadA Go.Proofs.YtoabboeongbloaaDoor.PHeadGets Go.Proofs.YtoabboeongbloaaDoor.SumP Go.Proofs.YtoabboeongbloaaDoor.Sums Go.Proofs.YtoabboeongbloaaDoor.Maker Go.Proofs.YtoabboeongbloaaDoor.GetW
theorem eq31 (W : World) (a b c d e : ByteArray) : (Op.equalIn 9999 31 (.agg #[.string a, .string b, .string c, .string d, .string e]) (.agg #[.string a, .string b, .string c, .string d, .string e])).run Tryd.prog W = .ok true W := by
  have hinf : (Tryd.prog.info? 9).map (fun i => i.size) = some 1 := by kernel_rfl
  obtain ⟨i, hi, _⟩ := Option.map_eq_some_iff.1 hinf
  have hc : Tryd.prog.cellsOf 9 = 1 := by kernel_rfl
  rw [run_equalIn_array W 9998 _ _ Tryd.underlying31 hi, hc]
  simp [Op.eqItems, List.range, List.range.loop, go_sem, Tryd.underlying9]
theorem eq32 (W : World) (a b c d e f g : Int) : (Op.equalIn 9999 32 (.agg #[.int .i64 a, .int .i64 b, .int .i64 c, .int .i64 d, .int .i64 e, .int .i64 f, .int .i64 g]) (.agg #[.int .i64 a, .int .i64 b, .int .i64 c, .int .i64 d, .int .i64 e, .int .i64 f, .int .i64 g])).run Tryd.prog W = .ok true W := by
  have hinf : (Tryd.prog.info? 2).map (fun i => i.size) = some 1 := by kernel_rfl
  obtain ⟨i, hi, _⟩ := Option.map_eq_some_iff.1 hinf
  have hc : Tryd.prog.cellsOf 2 = 1 := by kernel_rfl
  rw [run_equalIn_array W 9998 _ _ Tryd.underlying32 hi, hc]
  simp [Op.eqItems, List.range, List.range.loop, go_sem, Tryd.underlying2]
theorem eq34 (W : World) (r : Raw) : (binOp .eql 34 (.agg (refC r)) (.agg (refC r))).run Tryd.prog W = .ok (.bool true) W := by
  rw [run_eql_struct]
  have h : (Op.equalIn (9999 + 1) 34 (.agg (refC r)) (.agg (refC r))).run Tryd.prog W = .ok (true && (true && (true && true))) W := by
    refine eqA_of Tryd.underlying34 (by kernel_rfl) ?_
    refine eqf_cons (a := .int .i64 r.mark) (b := .int .i64 r.mark) (by decide) (by kernel_rfl) (by kernel_rfl) (by rw [run_equalIn_int W 9998 _ _ _ _ _ Tryd.underlying3]; simp) ?_
    refine eqf_cons (a := .int .u8 r.flag) (b := .int .u8 r.flag) (by decide) (by kernel_rfl) (by kernel_rfl) (by rw [run_equalIn_int W 9998 _ _ _ _ _ Tryd.underlying5]; simp) ?_
    refine eqf_cons (by decide) (by kernel_rfl) (by kernel_rfl) (eq31 W r.name r.link r.user r.group r.pre) ?_
    exact eqf_last (by decide) (by kernel_rfl) (by kernel_rfl) (eq32 W r.mode r.uid r.gid r.size r.time r.major r.minor)
  rw [h]
  rfl
def fullOf (r : Raw) : ByteArray := if r.pre.toList = ([] : List UInt8) then r.name else (r.pre ++ (⟨#[47]⟩ : ByteArray)) ++ r.name
set_option maxHeartbeats 1000000 in
set_option maxRecDepth 100000 in
theorem rfull_calls (r : Raw) (w : World) (h1 : r.pre.size ≤ 100000) (h2 : r.name.size ≤ 100000) : Calls Tryd.prog 15 #[.agg (refC r)] w fun e w' => e = .returned (.string (fullOf r)) ∧ Below w.heap.size w w' := by
  have hb0 := (Below.refl w.heap.size w).alloc (Nat.le_refl _) (.cells (refC r) 34)
  have HB0 := Lib.hid hb0
  have ha1 : ∀ W : World, (Op.stringOp .add r.pre ⟨#[47]⟩).run Tryd.prog W = .ok (.string (r.pre ++ ⟨#[47]⟩)) W := fun W => run_string_add_sum W _ _ (by show r.pre.size + 1 ≤ _; omega)
  have ha2 : ∀ W : World, (Op.stringOp .add (r.pre ++ ⟨#[47]⟩) r.name).run Tryd.prog W = .ok (.string ((r.pre ++ ⟨#[47]⟩) ++ r.name)) W := fun W => run_string_add_sum W _ _ (by rw [ByteArray.size_append]; show r.pre.size + 1 + _ ≤ _; omega)
  clear hb0 h1 h2
  obtain ⟨mk, fl, nm, ln, pr, us, gr, n7, n8, n9, n10, n11, n12, n13⟩ := r
  unfold refC fullOf
  unfold refC at HB0
  dsimp only at ha1 ha2 HB0 ⊢
  by_cases hp : pr.toList = []
  · have d1 : (pr.toList == []) = true := by rw [hp]; rfl
    rw [if_pos hp]
    clear hp
    go_enter Tryd.func15, Tryd.ntmps15
    go_wp2_with fail
    go_ret
    exact ⟨rfl, HB0.out⟩
  · have d1 : (pr.toList == []) = false := beq_eq_false_iff_ne.2 hp
    rw [if_neg hp]
    clear hp
    go_enter Tryd.func15, Tryd.ntmps15
    go_wp2_with fail
    go_ret
    exact ⟨rfl, HB0.out⟩
theorem full_is (r : Raw) (w : World) (h1 : r.pre.size ≤ 100000) (h2 : r.name.size ≤ 100000) : Calls Tryd.prog 14 #[.agg (rawC r)] w fun e w' => e = .returned (.string (fullOf r)) ∧ Below w.heap.size w w' := by
  refine head_Full.calls _ _ _ _ _ _ _ _ _ _ _ _ _ _ (fullOf r) w ?_
  unfold head_Full.f fullOf
  split
  · rfl
  · rw [if_pos (by omega), if_pos (by rw [ByteArray.size_append]; show r.pre.size + 1 + _ ≤ _; omega)]
theorem txt_size (l : List Int) (f s : Nat) (hb : Bytes l) : (txt l f s).size ≤ s := by
  unfold txt
  rw [TxtP.get_ahead (HeadA.part l f s) (fun x hx => hb x (List.mem_of_mem_take (List.mem_of_mem_drop hx))), strOfNums_size]
  refine Nat.le_trans (TxtP.ahead_len _) ?_
  unfold HeadA.part
  rw [List.length_drop, List.length_take]
  omega
theorem getR_sizes (l : List Int) (hb : Bytes l) : (getR l).1.pre.size ≤ 100000 ∧ (getR l).1.name.size ≤ 100000 := by
  unfold getR
  split
  · split
    · unfold rawOf
      dsimp only
      refine ⟨?_, Nat.le_trans (txt_size l 0 100 hb) (by omega)⟩
      split
      · exact Nat.le_trans (txt_size l 345 155 hb) (by omega)
      · show (0 : Nat) ≤ _; omega
    · exact ⟨Nat.zero_le _, Nat.zero_le _⟩
  · exact ⟨Nat.zero_le _, Nat.zero_le _⟩
theorem code_bd (l : List Int) : 0 ≤ (getR l).2 ∧ (getR l).2 ≤ 255 := by
  unfold getR
  split
  · split
    · exact ⟨Int.le_refl _, by show (0 : Int) ≤ 255; decide⟩
    · exact ⟨by show (0 : Int) ≤ 9; decide, by show (9 : Int) ≤ 255; decide⟩
  · show 0 ≤ checkOf l ∧ checkOf l ≤ 255
    unfold checkOf
    repeat' split
    all_goals decide
theorem rget_calls (A : Option Addr) (c : Nat) (l : List Int) (w : World) (hb : Bytes l) (hr : Kd.C (Kd.int .u8) w A l.length l) (hc : l.length ≤ c) :
    Calls Tryd.prog 13 #[.slice A l.length c] w fun e w' => e = .returned (.tuple #[.agg (refC (getR l).1), .int .i64 (getR l).2]) ∧ Below w.heap.size w w' := by
  unfold getR
  by_cases he : checkOf l = 0
  · rw [if_pos he]
    have hl := check_len he
    obtain ⟨ad, rfl, _⟩ := C_at hr 0 (by decide) (by omega)
    by_cases hk : knownB (rd l 156) = true
    · rw [if_pos hk]
      exact rget_goes ad c l w hb hl hr hc he hk
    · rw [if_neg hk]
      exact rget_flag ad c l w hb hl hr hc he (by simpa using hk)
  · rw [if_neg he]
    exact rget_bad A c l w hb hr hc he
end Go.Proofs.YtoabboeongbloaaDoor.RefG
/- The law HeadGets: its walk. -/
set_option linter.unusedVariables false
set_option linter.unusedSimpArgs false
namespace Go.Proofs.YtoabboeongbloaaDoor.RefG
open Go.RowKit Go.Proofs.YtoabboeongbloaaDoorW.PrintWords Go.Proofs.YtoabboeongbloaaDoorW.PrintLast Go.Proofs.YtoabboeongbloaaDoorW.PrintMore Go.Proofs.YtoabboeongbloaaDoorW.Mv Go.Proofs.YtoabboeongbloaaDoorW.HKit Go.Proofs.YtoabboeongbloaaDoorW.But Go.Proofs.YtoabboeongbloaaDoor.HeadA Go.Proofs.YtoabboeongbloaaDoor.PHeadGets Go.Proofs.YtoabboeongbloaaDoor.SumP Go.Proofs.YtoabboeongbloaaDoor.Sums Go.Proofs.YtoabboeongbloaaDoor.Maker Go.Proofs.YtoabboeongbloaaDoor.GetW Go.Proofs.YtoabboeongbloaaDoor.Fmt
def GS (w W : World) (Ra Rb : Nat) (x : Raw) : Prop := Below w.heap.size w W ∧ W.heap[Ra]? = some (.cells (rawC x) 23 (0, 0)) ∧ W.heap[Rb]? = some (.cells (refC x) 34 (0, 0))
theorem GS.below {w W W' : World} {Ra Rb : Nat} {x : Raw} (h : GS w W Ra Rb x) (hb : Below W.heap.size W W') : GS w W' Ra Rb x := by
  have hB := But.of_below (fun _ => False) hb
  exact ⟨h.1.trans (hb.mono h.1.size), hB.heap h.2.1 (fun h => h), hB.heap h.2.2 (fun h => h)⟩
theorem GS.drew {w W : World} {Ra Rb : Nat} {x : Raw} (h : GS w W Ra Rb x) : GS w W.drew Ra Rb x := ⟨Below.drew h.1, h.2⟩
theorem GS.old {w W : World} {Ra Rb : Nat} {x : Raw} (h : GS w W Ra Rb x) : Below w.heap.size w W := h.1
theorem gs28 {w W : World} {Ra Rb : Nat} {x : Raw} (h : GS w W Ra Rb x) : W.cell? ⟨Ra, 0, none⟩ = some (.int .i64 x.mark) ∧ W.cell? ⟨Ra, 1, none⟩ = some (.int .u8 x.flag) ∧ W.cell? ⟨Ra, 2, none⟩ = some (.string x.name) ∧ W.cell? ⟨Ra, 3, none⟩ = some (.string x.link) ∧ W.cell? ⟨Ra, 4, none⟩ = some (.string x.pre) ∧ W.cell? ⟨Ra, 5, none⟩ = some (.string x.user) ∧ W.cell? ⟨Ra, 6, none⟩ = some (.string x.group) ∧ W.cell? ⟨Ra, 7, none⟩ = some (.int .i64 x.mode) ∧ W.cell? ⟨Ra, 8, none⟩ = some (.int .i64 x.uid) ∧ W.cell? ⟨Ra, 9, none⟩ = some (.int .i64 x.gid) ∧ W.cell? ⟨Ra, 10, none⟩ = some (.int .i64 x.size) ∧ W.cell? ⟨Ra, 11, none⟩ = some (.int .i64 x.time) ∧ W.cell? ⟨Ra, 12, none⟩ = some (.int .i64 x.major) ∧ W.cell? ⟨Ra, 13, none⟩ = some (.int .i64 x.minor) ∧ W.cell? ⟨Rb, 0, none⟩ = some (.int .i64 x.mark) ∧ W.cell? ⟨Rb, 1, none⟩ = some (.int .u8 x.flag) ∧ W.cell? ⟨Rb, 2, none⟩ = some (.string x.name) ∧ W.cell? ⟨Rb, 3, none⟩ = some (.string x.link) ∧ W.cell? ⟨Rb, 4, none⟩ = some (.string x.user) ∧ W.cell? ⟨Rb, 5, none⟩ = some (.string x.group) ∧ W.cell? ⟨Rb, 6, none⟩ = some (.string x.pre) ∧ W.cell? ⟨Rb, 7, none⟩ = some (.int .i64 x.mode) ∧ W.cell? ⟨Rb, 8, none⟩ = some (.int .i64 x.uid) ∧ W.cell? ⟨Rb, 9, none⟩ = some (.int .i64 x.gid) ∧ W.cell? ⟨Rb, 10, none⟩ = some (.int .i64 x.size) ∧ W.cell? ⟨Rb, 11, none⟩ = some (.int .i64 x.time) ∧ W.cell? ⟨Rb, 12, none⟩ = some (.int .i64 x.major) ∧ W.cell? ⟨Rb, 13, none⟩ = some (.int .i64 x.minor) := by
  obtain ⟨a0, a1, a2, a3, a4, a5, a6, a7, a8, a9, a10, a11, a12, a13⟩ := raw_cells h.2.1
  obtain ⟨b0, b1, b2, b3, b4, b5, b6, b7, b8, b9, b10, b11, b12, b13⟩ := ref_cells h.2.2
  exact ⟨a0, a1, a2, a3, a4, a5, a6, a7, a8, a9, a10, a11, a12, a13, b0, b1, b2, b3, b4, b5, b6, b7, b8, b9, b10, b11, b12, b13⟩
theorem blank_ev (l : List Int) (hl : l.length ≤ 100000) : Ev (fun k => text_Blank.f k l) (l.all (fun x => decide (x = 0))) := by
  have h := BlkP.blank_l0 l hl l.length 0 (by omega)
  rw [List.drop_zero] at h
  exact h
theorem rblank_ev (l : List Int) (hr0 : ∀ x ∈ l, 0 ≤ x) (hl : l.length ≤ 100000) : Ev (fun k => oakumref02_Blank.f k l) (l.all (fun x => decide (x = 0))) := by
  have h := BlkP.refblank_l0 l hr0 hl l.length 0 (by omega)
  rw [List.drop_zero] at h
  exact h
theorem zero_ev (l : List Int) (hl : l.length ≤ 100000) : Ev (fun k => head_Zero.f k l) (decide (l.length = 512) && l.all (fun x => decide (x = 0))) := by
  unfold head_Zero.f
  by_cases h5 : l.length = 512
  · simp only [if_pos (show (l.length : Int) = 512 by omega), h5, decide_true, Bool.true_and]
    exact Ev.bind (blank_ev l hl) (Ev.now _)
  · simp only [if_neg (show ¬ (l.length : Int) = 512 by omega), h5, decide_false, Bool.false_and]
    exact Ev.now _
set_option maxHeartbeats 8000000 in
set_option maxRecDepth 100000 in
theorem gets_512 (w : World) (hT : Tab8 w) (A0 : Option Addr) (c0 : Nat) (l0 : List Int) (hb : Bytes l0) (hr0 : Kd.C (Kd.int .u8) w A0 l0.length l0) (hc0 : l0.length ≤ c0) (h2 : l0.length ≤ 2000) (h5 : l0.length = 512) :
    Calls Tryd.prog 4 #[.slice A0 l0.length c0] w fun e w' => e = .returned (.bool true) ∧ Below w.heap.size w w' := by
  have hal := GetW.alive_calls w hT
  have HAL := Lib.hid hal
  have HR := Lib.hid hr0
  have HB := Lib.hid hb
  have hcd := code_bd l0
  have hsz := getR_sizes l0 hb
  have hget := fun (W : World) (hW : Below w.heap.size w W) => get_calls A0 c0 l0 W hb (Kd.C_below hr0 hW) hc0
  have hrget := fun (W : World) (hW : Below w.heap.size w W) => rget_calls A0 c0 l0 W hb (Kd.C_below hr0 hW) hc0
  generalize getR l0 = gr at *
  obtain ⟨xr, ec⟩ := gr
  dsimp only at hget hrget hcd hsz
  have hw1 : wrap64 ec = ec := by unfold wrap64; omega
  have hw2 : IntKind.i64.wrap ec = ec := by rw [i64_w]; exact hw1
  have hq1 := fun W => ofs_calls xr W
  have hq2 := fun W => full_is xr W hsz.1 hsz.2
  have hq3 := fun W => rfull_calls xr W hsz.1 hsz.2
  have heq := fun W => eq34 W xr
  obtain ⟨kz, hz⟩ := (zero_ev l0 (by omega)).rounds
  obtain ⟨kb, hbk⟩ := (rblank_ev l0 (fun x hx => (hb x hx).1) (by omega)).rounds
  have hq4 := fun (W : World) (hW : Below w.heap.size w W) => head_Zero.calls kz A0 c0 l0 _ W (Kd.C_below hr0 hW) hc0 hz
  have hq5 := fun (W : World) (hW : Below w.heap.size w W) => oakumref02_Blank.calls kb A0 c0 l0 _ W (Kd.C_below hr0 hW) hc0 hbk
  generalize (l0.all fun x => decide (x = 0)) = bl at *
  unfold rawC at hget hq1 hq2
  unfold refC at hrget hq1 hq3 heq
  have HGET := Lib.hid hget
  have HRGET := Lib.hid hrget
  have HQ1 := Lib.hid hq1
  have HQ2 := Lib.hid hq2
  have HQ3 := Lib.hid hq3
  have HEQ := Lib.hid heq
  clear hal hr0 hT hb hcd hsz hget hrget hq1 hq2 hq3 heq hz hbk
  rw [decide_eq_true h5, Bool.true_and] at hq4
  have HQ4 := Lib.hid hq4
  have HQ5 := Lib.hid hq5
  have d1 : decide ((2000 : Int) < (l0.length : Int)) = false := decide_eq_false (by omega)
  have d5 : ((l0.length : Int) == 512) = true := beq_iff_eq.2 (by omega)
  clear hq4 hq5 h5 h2
  go_enter Tryd.func4, Tryd.ntmps4
  go_wp2_with fail
  (with_reducible refine HAL.out.mono ?_)
  rintro e w1 ⟨rfl, hb1⟩
  have HB1 := Lib.hid hb1
  clear hb1 HAL
  go_wp2_with fail
  (with_reducible refine (HGET.out _ HB1.out).mono ?_)
  rintro e w2 ⟨rfl, hb2⟩
  have HB2 := Lib.hid (HB1.out.trans (hb2.mono HB1.out.size))
  clear hb2 HGET HB1
  go_upto_region 6 with (fail)
  obtain ⟨W3, hW3⟩ : ∃ W3, W3 = w2.alloc (.cells #[.int .i64 xr.mark, .int .u8 xr.flag, .string xr.name, .string xr.link, .string xr.pre, .string xr.user, .string xr.group, .int .i64 xr.mode, .int .i64 xr.uid, .int .i64 xr.gid, .int .i64 xr.size, .int .i64 xr.time, .int .i64 xr.major, .int .i64 xr.minor] 23) := ⟨_, rfl⟩
  rw [← hW3]
  have HZ3 := Lib.hid (show W3.heap[w2.heap.size]? = some (.cells (rawC xr) 23 (0, 0)) by rw [hW3]; exact heap_alloc_new w2 _)
  have HB3 := Lib.hid (show Below w.heap.size w W3 by rw [hW3]; exact HB2.out.alloc HB2.out.size _)
  clear hW3 HB2
  go_wp2_with fail
  (with_reducible refine (HRGET.out _ HB3.out).mono ?_)
  rintro e w4 ⟨rfl, hb4⟩
  have HB4 := Lib.hid (HB3.out.trans (hb4.mono HB3.out.size))
  have HZ4 := Lib.hid ((But.of_below (fun _ => False) hb4).heap HZ3.out (fun h => h))
  clear hb4 HRGET HB3 HZ3
  go_upto_region 7 with (fail)
  obtain ⟨W5, hW5⟩ : ∃ W5, W5 = w4.alloc (.cells #[.int .i64 xr.mark, .int .u8 xr.flag, .string xr.name, .string xr.link, .string xr.user, .string xr.group, .string xr.pre, .int .i64 xr.mode, .int .i64 xr.uid, .int .i64 xr.gid, .int .i64 xr.size, .int .i64 xr.time, .int .i64 xr.major, .int .i64 xr.minor] 34) := ⟨_, rfl⟩
  rw [← hW5]
  have HST : Hid (GS w W5 w2.heap.size w4.heap.size xr) := Lib.hid (by
    refine ⟨by rw [hW5]; exact HB4.out.alloc HB4.out.size _, ?_, by rw [hW5]; exact heap_alloc_new w4 _⟩
    exact (But.of_below (fun _ => False) (show Below w4.heap.size w4 W5 by rw [hW5]; exact (Below.refl _ w4).alloc (Nat.le_refl _) _)).heap HZ4.out (fun h => h))
  clear hW5 HB4 HZ4
  generalize w2.heap.size = Ra at *
  generalize w4.heap.size = Rb at *
  have HST9 := Lib.hid HST.out.drew
  clear HST
  have HST := Lib.hid HST9.out
  clear HST9
  have heq := HEQ.out
  go_region_held3 (fun W => W.cell? ⟨Ra, 0, none⟩ = some (.int .i64 xr.mark) ∧ W.cell? ⟨Ra, 1, none⟩ = some (.int .u8 xr.flag) ∧ W.cell? ⟨Ra, 2, none⟩ = some (.string xr.name) ∧ W.cell? ⟨Ra, 3, none⟩ = some (.string xr.link) ∧ W.cell? ⟨Ra, 4, none⟩ = some (.string xr.pre) ∧ W.cell? ⟨Ra, 5, none⟩ = some (.string xr.user) ∧ W.cell? ⟨Ra, 6, none⟩ = some (.string xr.group) ∧ W.cell? ⟨Ra, 7, none⟩ = some (.int .i64 xr.mode) ∧ W.cell? ⟨Ra, 8, none⟩ = some (.int .i64 xr.uid) ∧ W.cell? ⟨Ra, 9, none⟩ = some (.int .i64 xr.gid) ∧ W.cell? ⟨Ra, 10, none⟩ = some (.int .i64 xr.size) ∧ W.cell? ⟨Ra, 11, none⟩ = some (.int .i64 xr.time) ∧ W.cell? ⟨Ra, 12, none⟩ = some (.int .i64 xr.major) ∧ W.cell? ⟨Ra, 13, none⟩ = some (.int .i64 xr.minor) ∧ W.cell? ⟨Rb, 0, none⟩ = some (.int .i64 xr.mark) ∧ W.cell? ⟨Rb, 1, none⟩ = some (.int .u8 xr.flag) ∧ W.cell? ⟨Rb, 2, none⟩ = some (.string xr.name) ∧ W.cell? ⟨Rb, 3, none⟩ = some (.string xr.link) ∧ W.cell? ⟨Rb, 4, none⟩ = some (.string xr.user) ∧ W.cell? ⟨Rb, 5, none⟩ = some (.string xr.group) ∧ W.cell? ⟨Rb, 6, none⟩ = some (.string xr.pre) ∧ W.cell? ⟨Rb, 7, none⟩ = some (.int .i64 xr.mode) ∧ W.cell? ⟨Rb, 8, none⟩ = some (.int .i64 xr.uid) ∧ W.cell? ⟨Rb, 9, none⟩ = some (.int .i64 xr.gid) ∧ W.cell? ⟨Rb, 10, none⟩ = some (.int .i64 xr.size) ∧ W.cell? ⟨Rb, 11, none⟩ = some (.int .i64 xr.time) ∧ W.cell? ⟨Rb, 12, none⟩ = some (.int .i64 xr.major) ∧ W.cell? ⟨Rb, 13, none⟩ = some (.int .i64 xr.minor)) (first | assumption | (with_reducible exact gs28 HST.out)) (first | ((go_at_call 10); (with_reducible refine (HQ1.out _).mono ?_); (rintro e w8 ⟨rfl, hb8⟩); (have HST9 := Lib.hid (GS.below HST.out hb8)); (clear hb8 HST); (have HST := Lib.hid HST9.out); (clear HST9)) | ((go_at_call 14); (with_reducible refine (HQ2.out _).mono ?_); (rintro e w8 ⟨rfl, hb8⟩); (have HST9 := Lib.hid (GS.below HST.out hb8)); (clear hb8 HST); (have HST := Lib.hid HST9.out); (clear HST9)) | ((go_at_call 15); (with_reducible refine (HQ3.out _).mono ?_); (rintro e w8 ⟨rfl, hb8⟩); (have HST9 := Lib.hid (GS.below HST.out hb8)); (clear hb8 HST); (have HST := Lib.hid HST9.out); (clear HST9)) | ((go_at_call 16); (with_reducible refine (HQ4.out _ HST.out.old).mono ?_); (rintro e w8 ⟨rfl, hb8⟩); (have HST9 := Lib.hid (GS.below HST.out hb8.below)); (clear hb8 HST); (have HST := Lib.hid HST9.out); (clear HST9)) | ((go_at_call 17); (with_reducible refine (HQ5.out _ HST.out.old).mono ?_); (rintro e w8 ⟨rfl, hb8⟩); (have HST9 := Lib.hid (GS.below HST.out hb8.below)); (clear hb8 HST); (have HST := Lib.hid HST9.out); (clear HST9)))
  all_goals
    have hbb : (bl == bl) = true := beq_self_eq_true bl
    go_wp2_with fail
    go_ret
    exact ⟨rfl, HST.out.1⟩
set_option maxHeartbeats 8000000 in
set_option maxRecDepth 100000 in
theorem gets_other (w : World) (hT : Tab8 w) (A0 : Option Addr) (c0 : Nat) (l0 : List Int) (hb : Bytes l0) (hr0 : Kd.C (Kd.int .u8) w A0 l0.length l0) (hc0 : l0.length ≤ c0) (h2 : l0.length ≤ 2000) (h5 : ¬ l0.length = 512) :
    Calls Tryd.prog 4 #[.slice A0 l0.length c0] w fun e w' => e = .returned (.bool true) ∧ Below w.heap.size w w' := by
  have hal := GetW.alive_calls w hT
  have HAL := Lib.hid hal
  have HR := Lib.hid hr0
  have HB := Lib.hid hb
  have hcd := code_bd l0
  have hsz := getR_sizes l0 hb
  have hget := fun (W : World) (hW : Below w.heap.size w W) => get_calls A0 c0 l0 W hb (Kd.C_below hr0 hW) hc0
  have hrget := fun (W : World) (hW : Below w.heap.size w W) => rget_calls A0 c0 l0 W hb (Kd.C_below hr0 hW) hc0
  generalize getR l0 = gr at *
  obtain ⟨xr, ec⟩ := gr
  dsimp only at hget hrget hcd hsz
  have hw1 : wrap64 ec = ec := by unfold wrap64; omega
  have hw2 : IntKind.i64.wrap ec = ec := by rw [i64_w]; exact hw1
  have hq1 := fun W => ofs_calls xr W
  have hq2 := fun W => full_is xr W hsz.1 hsz.2
  have hq3 := fun W => rfull_calls xr W hsz.1 hsz.2
  have heq := fun W => eq34 W xr
  obtain ⟨kz, hz⟩ := (zero_ev l0 (by omega)).rounds
  obtain ⟨kb, hbk⟩ := (rblank_ev l0 (fun x hx => (hb x hx).1) (by omega)).rounds
  have hq4 := fun (W : World) (hW : Below w.heap.size w W) => head_Zero.calls kz A0 c0 l0 _ W (Kd.C_below hr0 hW) hc0 hz
  have hq5 := fun (W : World) (hW : Below w.heap.size w W) => oakumref02_Blank.calls kb A0 c0 l0 _ W (Kd.C_below hr0 hW) hc0 hbk
  generalize (l0.all fun x => decide (x = 0)) = bl at *
  unfold rawC at hget hq1 hq2
  unfold refC at hrget hq1 hq3 heq
  have HGET := Lib.hid hget
  have HRGET := Lib.hid hrget
  have HQ1 := Lib.hid hq1
  have HQ2 := Lib.hid hq2
  have HQ3 := Lib.hid hq3
  have HEQ := Lib.hid heq
  clear hal hr0 hT hb hcd hsz hget hrget hq1 hq2 hq3 heq hz hbk
  rw [decide_eq_false h5, Bool.false_and] at hq4
  have HQ4 := Lib.hid hq4
  have HQ5 := Lib.hid hq5
  have d1 : decide ((2000 : Int) < (l0.length : Int)) = false := decide_eq_false (by omega)
  have d5 : ((l0.length : Int) == 512) = false := beq_eq_false_iff_ne.2 (by omega)
  clear hq4 hq5 h5 h2
  go_enter Tryd.func4, Tryd.ntmps4
  go_wp2_with fail
  (with_reducible refine HAL.out.mono ?_)
  rintro e w1 ⟨rfl, hb1⟩
  have HB1 := Lib.hid hb1
  clear hb1 HAL
  go_wp2_with fail
  (with_reducible refine (HGET.out _ HB1.out).mono ?_)
  rintro e w2 ⟨rfl, hb2⟩
  have HB2 := Lib.hid (HB1.out.trans (hb2.mono HB1.out.size))
  clear hb2 HGET HB1
  go_upto_region 6 with (fail)
  obtain ⟨W3, hW3⟩ : ∃ W3, W3 = w2.alloc (.cells #[.int .i64 xr.mark, .int .u8 xr.flag, .string xr.name, .string xr.link, .string xr.pre, .string xr.user, .string xr.group, .int .i64 xr.mode, .int .i64 xr.uid, .int .i64 xr.gid, .int .i64 xr.size, .int .i64 xr.time, .int .i64 xr.major, .int .i64 xr.minor] 23) := ⟨_, rfl⟩
  rw [← hW3]
  have HZ3 := Lib.hid (show W3.heap[w2.heap.size]? = some (.cells (rawC xr) 23 (0, 0)) by rw [hW3]; exact heap_alloc_new w2 _)
  have HB3 := Lib.hid (show Below w.heap.size w W3 by rw [hW3]; exact HB2.out.alloc HB2.out.size _)
  clear hW3 HB2
  go_wp2_with fail
  (with_reducible refine (HRGET.out _ HB3.out).mono ?_)
  rintro e w4 ⟨rfl, hb4⟩
  have HB4 := Lib.hid (HB3.out.trans (hb4.mono HB3.out.size))
  have HZ4 := Lib.hid ((But.of_below (fun _ => False) hb4).heap HZ3.out (fun h => h))
  clear hb4 HRGET HB3 HZ3
  go_upto_region 7 with (fail)
  obtain ⟨W5, hW5⟩ : ∃ W5, W5 = w4.alloc (.cells #[.int .i64 xr.mark, .int .u8 xr.flag, .string xr.name, .string xr.link, .string xr.user, .string xr.group, .string xr.pre, .int .i64 xr.mode, .int .i64 xr.uid, .int .i64 xr.gid, .int .i64 xr.size, .int .i64 xr.time, .int .i64 xr.major, .int .i64 xr.minor] 34) := ⟨_, rfl⟩
  rw [← hW5]
  have HST : Hid (GS w W5 w2.heap.size w4.heap.size xr) := Lib.hid (by
    refine ⟨by rw [hW5]; exact HB4.out.alloc HB4.out.size _, ?_, by rw [hW5]; exact heap_alloc_new w4 _⟩
    exact (But.of_below (fun _ => False) (show Below w4.heap.size w4 W5 by rw [hW5]; exact (Below.refl _ w4).alloc (Nat.le_refl _) _)).heap HZ4.out (fun h => h))
  clear hW5 HB4 HZ4
  generalize w2.heap.size = Ra at *
  generalize w4.heap.size = Rb at *
  have HST9 := Lib.hid HST.out.drew
  clear HST
  have HST := Lib.hid HST9.out
  clear HST9
  have heq := HEQ.out
  refine wp_region_held_drew (S := fun W : World => W.cell? ⟨Ra, 0, none⟩ = some (.int .i64 xr.mark) ∧ W.cell? ⟨Ra, 1, none⟩ = some (.int .u8 xr.flag) ∧ W.cell? ⟨Ra, 2, none⟩ = some (.string xr.name) ∧ W.cell? ⟨Ra, 3, none⟩ = some (.string xr.link) ∧ W.cell? ⟨Ra, 4, none⟩ = some (.string xr.pre) ∧ W.cell? ⟨Ra, 5, none⟩ = some (.string xr.user) ∧ W.cell? ⟨Ra, 6, none⟩ = some (.string xr.group) ∧ W.cell? ⟨Ra, 7, none⟩ = some (.int .i64 xr.mode) ∧ W.cell? ⟨Ra, 8, none⟩ = some (.int .i64 xr.uid) ∧ W.cell? ⟨Ra, 9, none⟩ = some (.int .i64 xr.gid) ∧ W.cell? ⟨Ra, 10, none⟩ = some (.int .i64 xr.size) ∧ W.cell? ⟨Ra, 11, none⟩ = some (.int .i64 xr.time) ∧ W.cell? ⟨Ra, 12, none⟩ = some (.int .i64 xr.major) ∧ W.cell? ⟨Ra, 13, none⟩ = some (.int .i64 xr.minor) ∧ W.cell? ⟨Rb, 0, none⟩ = some (.int .i64 xr.mark) ∧ W.cell? ⟨Rb, 1, none⟩ = some (.int .u8 xr.flag) ∧ W.cell? ⟨Rb, 2, none⟩ = some (.string xr.name) ∧ W.cell? ⟨Rb, 3, none⟩ = some (.string xr.link) ∧ W.cell? ⟨Rb, 4, none⟩ = some (.string xr.user) ∧ W.cell? ⟨Rb, 5, none⟩ = some (.string xr.group) ∧ W.cell? ⟨Rb, 6, none⟩ = some (.string xr.pre) ∧ W.cell? ⟨Rb, 7, none⟩ = some (.int .i64 xr.mode) ∧ W.cell? ⟨Rb, 8, none⟩ = some (.int .i64 xr.uid) ∧ W.cell? ⟨Rb, 9, none⟩ = some (.int .i64 xr.gid) ∧ W.cell? ⟨Rb, 10, none⟩ = some (.int .i64 xr.size) ∧ W.cell? ⟨Rb, 11, none⟩ = some (.int .i64 xr.time) ∧ W.cell? ⟨Rb, 12, none⟩ = some (.int .i64 xr.major) ∧ W.cell? ⟨Rb, 13, none⟩ = some (.int .i64 xr.minor)) (by kernel_rfl) (gs28 HST.out) (fun hHeld => ?_)
  refine wpAnyH_take (i := 0) (v := ?_) rfl (by kernel_rfl) (by kernel_rfl) (by kernel_rfl) (fun _ _ _ h => h) (Or.inl ⟨by rfl, ?_⟩) (by assumption) ?_; rotate_left; focus (intro w hSw; (try dsimp only at hSw); simp only [List.getElem_toArray, List.getElem_cons_succ, List.getElem_cons_zero]; go_simp; (try (with_reducible rfl)))
  simp only [List.getElem_toArray, List.getElem_cons_succ, List.getElem_cons_zero, Act.put, List.setIfInBounds_toArray, List.set_cons_zero, List.set_cons_succ]
  refine wpAnyH_take (i := 1) (v := ?_) rfl (by kernel_rfl) (by kernel_rfl) (by kernel_rfl) (fun _ _ _ h => h) (Or.inl ⟨by rfl, ?_⟩) (by assumption) ?_; rotate_left; focus (intro w hSw; (try dsimp only at hSw); simp only [List.getElem_toArray, List.getElem_cons_succ, List.getElem_cons_zero]; go_simp; (try (with_reducible rfl)))
  simp only [List.getElem_toArray, List.getElem_cons_succ, List.getElem_cons_zero, Act.put, List.setIfInBounds_toArray, List.set_cons_zero, List.set_cons_succ]
  refine wpAnyH_take (i := 2) (v := ?_) rfl (by kernel_rfl) (by kernel_rfl) (by kernel_rfl) (fun _ _ _ h => h) (Or.inl ⟨by rfl, ?_⟩) (by assumption) ?_; rotate_left; focus (intro w hSw; (try dsimp only at hSw); simp only [List.getElem_toArray, List.getElem_cons_succ, List.getElem_cons_zero]; go_simp; (try (with_reducible rfl)))
  simp only [List.getElem_toArray, List.getElem_cons_succ, List.getElem_cons_zero, Act.put, List.setIfInBounds_toArray, List.set_cons_zero, List.set_cons_succ]
  refine wpAnyH_take (i := 3) (v := ?_) rfl (by kernel_rfl) (by kernel_rfl) (by kernel_rfl) (fun _ _ _ h => h) (Or.inl ⟨by rfl, ?_⟩) (by assumption) ?_; rotate_left; focus (intro w hSw; (try dsimp only at hSw); simp only [List.getElem_toArray, List.getElem_cons_succ, List.getElem_cons_zero]; go_simp; (try (with_reducible rfl)))
  simp only [List.getElem_toArray, List.getElem_cons_succ, List.getElem_cons_zero, Act.put, List.setIfInBounds_toArray, List.set_cons_zero, List.set_cons_succ]
  refine wpAnyH_take (i := 4) (v := ?_) rfl (by kernel_rfl) (by kernel_rfl) (by kernel_rfl) (fun _ _ _ h => h) (Or.inl ⟨by rfl, ?_⟩) (by assumption) ?_; rotate_left; focus (intro w hSw; (try dsimp only at hSw); simp only [List.getElem_toArray, List.getElem_cons_succ, List.getElem_cons_zero]; go_simp; (try (with_reducible rfl)))
  simp only [List.getElem_toArray, List.getElem_cons_succ, List.getElem_cons_zero, Act.put, List.setIfInBounds_toArray, List.set_cons_zero, List.set_cons_succ]
  refine wpAnyH_take (i := 5) (v := ?_) rfl (by kernel_rfl) (by kernel_rfl) (by kernel_rfl) (fun _ _ _ h => h) (Or.inl ⟨by rfl, ?_⟩) (by assumption) ?_; rotate_left; focus (intro w hSw; (try dsimp only at hSw); simp only [List.getElem_toArray, List.getElem_cons_succ, List.getElem_cons_zero]; go_simp; (try (with_reducible rfl)))
  simp only [List.getElem_toArray, List.getElem_cons_succ, List.getElem_cons_zero, Act.put, List.setIfInBounds_toArray, List.set_cons_zero, List.set_cons_succ]
  refine wpAnyH_take (i := 7) (v := ?_) rfl (by kernel_rfl) (by kernel_rfl) (by kernel_rfl) (fun _ _ _ h => h) (Or.inl ⟨by rfl, ?_⟩) (by assumption) ?_; rotate_left; focus (intro w hSw; (try dsimp only at hSw); simp only [List.getElem_toArray, List.getElem_cons_succ, List.getElem_cons_zero]; go_simp; (try (with_reducible rfl)))
  simp only [List.getElem_toArray, List.getElem_cons_succ, List.getElem_cons_zero, Act.put, List.setIfInBounds_toArray, List.set_cons_zero, List.set_cons_succ]
  refine wpAnyH_ready (rs := [6]) (by kernel_rfl) (by simp) ?_
  refine AllReadyH.cons rfl (fun K hK => ?_) AllReadyH.nil
  go_simp
  (with_reducible refine (HQ1.out _).mono ?_)
  rintro e w8 ⟨rfl, hb8⟩
  have HST9 := Lib.hid (GS.below HST.out hb8)
  clear hb8 HST
  have HST := Lib.hid HST9.out
  clear HST9
  refine hK.out _ _ (gs28 HST.out) (fun hHeld => ?_)
  clear hK K
  try simp only [Act.put, List.setIfInBounds_toArray, List.set_cons_zero, List.set_cons_succ]
  refine wpAnyH_take (i := 8) (v := ?_) rfl (by kernel_rfl) (by kernel_rfl) (by kernel_rfl) (fun _ _ _ h => h) (Or.inl ⟨by rfl, ?_⟩) (by assumption) ?_; rotate_left; focus (intro w hSw; (try dsimp only at hSw); simp only [List.getElem_toArray, List.getElem_cons_succ, List.getElem_cons_zero]; go_simp; (try (with_reducible rfl)))
  simp only [List.getElem_toArray, List.getElem_cons_succ, List.getElem_cons_zero, Act.put, List.setIfInBounds_toArray, List.set_cons_zero, List.set_cons_succ]
  refine wpAnyH_take (i := 9) (v := ?_) rfl (by kernel_rfl) (by kernel_rfl) (by kernel_rfl) (fun _ _ _ h => h) (Or.inl ⟨by rfl, ?_⟩) (by assumption) ?_; rotate_left; focus (intro w hSw; (try dsimp only at hSw); simp only [List.getElem_toArray, List.getElem_cons_succ, List.getElem_cons_zero]; go_simp; (try (with_reducible rfl)))
  simp only [List.getElem_toArray, List.getElem_cons_succ, List.getElem_cons_zero, Act.put, List.setIfInBounds_toArray, List.set_cons_zero, List.set_cons_succ]
  refine wpAnyH_take (i := 10) (v := ?_) rfl (by kernel_rfl) (by kernel_rfl) (by kernel_rfl) (fun _ _ _ h => h) (Or.inl ⟨by rfl, ?_⟩) (by assumption) ?_; rotate_left; focus (intro w hSw; (try dsimp only at hSw); simp only [List.getElem_toArray, List.getElem_cons_succ, List.getElem_cons_zero]; go_simp; (try (with_reducible rfl)))
  simp only [List.getElem_toArray, List.getElem_cons_succ, List.getElem_cons_zero, Act.put, List.setIfInBounds_toArray, List.set_cons_zero, List.set_cons_succ]
  refine wpAnyH_take (i := 11) (v := ?_) rfl (by kernel_rfl) (by kernel_rfl) (by kernel_rfl) (fun _ _ _ h => h) (Or.inl ⟨by rfl, ?_⟩) (by assumption) ?_; rotate_left; focus (intro w hSw; (try dsimp only at hSw); simp only [List.getElem_toArray, List.getElem_cons_succ, List.getElem_cons_zero]; go_simp; (try (with_reducible rfl)))
  simp only [List.getElem_toArray, List.getElem_cons_succ, List.getElem_cons_zero, Act.put, List.setIfInBounds_toArray, List.set_cons_zero, List.set_cons_succ]
  refine wpAnyH_take (i := 13) (v := ?_) rfl (by kernel_rfl) (by kernel_rfl) (by kernel_rfl) (fun _ _ _ h => h) (Or.inl ⟨by rfl, ?_⟩) (by assumption) ?_; rotate_left; focus (intro w hSw; (try dsimp only at hSw); simp only [List.getElem_toArray, List.getElem_cons_succ, List.getElem_cons_zero]; go_simp; (try (with_reducible rfl)))
  simp only [List.getElem_toArray, List.getElem_cons_succ, List.getElem_cons_zero, Act.put, List.setIfInBounds_toArray, List.set_cons_zero, List.set_cons_succ]
  refine wpAnyH_ready (rs := [12]) (by kernel_rfl) (by simp) ?_
  refine AllReadyH.cons rfl (fun K hK => ?_) AllReadyH.nil
  go_simp
  (with_reducible refine (HQ2.out _).mono ?_)
  rintro e w8 ⟨rfl, hb8⟩
  have HST9 := Lib.hid (GS.below HST.out hb8)
  clear hb8 HST
  have HST := Lib.hid HST9.out
  clear HST9
  refine hK.out _ _ (gs28 HST.out) (fun hHeld => ?_)
  clear hK K
  try simp only [Act.put, List.setIfInBounds_toArray, List.set_cons_zero, List.set_cons_succ]
  refine wpAnyH_ready (rs := [14]) (by kernel_rfl) (by simp) ?_
  refine AllReadyH.cons rfl (fun K hK => ?_) AllReadyH.nil
  go_simp
  (with_reducible refine (HQ3.out _).mono ?_)
  rintro e w8 ⟨rfl, hb8⟩
  have HST9 := Lib.hid (GS.below HST.out hb8)
  clear hb8 HST
  have HST := Lib.hid HST9.out
  clear HST9
  refine hK.out _ _ (gs28 HST.out) (fun hHeld => ?_)
  clear hK K
  try simp only [Act.put, List.setIfInBounds_toArray, List.set_cons_zero, List.set_cons_succ]
  refine wpAnyH_take (i := 15) (v := ?_) rfl (by kernel_rfl) (by kernel_rfl) (by kernel_rfl) (fun _ _ _ h => h) (Or.inl ⟨by rfl, ?_⟩) (by assumption) ?_; rotate_left; focus (intro w hSw; (try dsimp only at hSw); simp only [List.getElem_toArray, List.getElem_cons_succ, List.getElem_cons_zero]; go_simp; (try (with_reducible rfl)))
  simp only [List.getElem_toArray, List.getElem_cons_succ, List.getElem_cons_zero, Act.put, List.setIfInBounds_toArray, List.set_cons_zero, List.set_cons_succ]
  refine wpAnyH_take (i := 16) (v := ?_) rfl (by kernel_rfl) (by kernel_rfl) (by kernel_rfl) (fun _ _ _ h => h) (Or.inl ⟨by rfl, ?_⟩) (by assumption) ?_; rotate_left; focus (intro w hSw; (try dsimp only at hSw); simp only [List.getElem_toArray, List.getElem_cons_succ, List.getElem_cons_zero]; go_simp; (try (with_reducible rfl)))
  simp only [List.getElem_toArray, List.getElem_cons_succ, List.getElem_cons_zero, Act.put, List.setIfInBounds_toArray, List.set_cons_zero, List.set_cons_succ]
  refine wpAnyH_take (i := 17) (v := ?_) rfl (by kernel_rfl) (by kernel_rfl) (by kernel_rfl) (fun _ _ _ h => h) (Or.inl ⟨by rfl, ?_⟩) (by assumption) ?_; rotate_left; focus (intro w hSw; (try dsimp only at hSw); simp only [List.getElem_toArray, List.getElem_cons_succ, List.getElem_cons_zero]; go_simp; (try (with_reducible rfl)))
  simp only [List.getElem_toArray, List.getElem_cons_succ, List.getElem_cons_zero, Act.put, List.setIfInBounds_toArray, List.set_cons_zero, List.set_cons_succ]
  refine wpAnyH_take (i := 18) (v := ?_) rfl (by kernel_rfl) (by kernel_rfl) (by kernel_rfl) (fun _ _ _ h => h) (Or.inl ⟨by rfl, ?_⟩) (by assumption) ?_; rotate_left; focus (intro w hSw; (try dsimp only at hSw); simp only [List.getElem_toArray, List.getElem_cons_succ, List.getElem_cons_zero]; go_simp; (try (with_reducible rfl)))
  simp only [List.getElem_toArray, List.getElem_cons_succ, List.getElem_cons_zero, Act.put, List.setIfInBounds_toArray, List.set_cons_zero, List.set_cons_succ]
  refine wpAnyH_take (i := 20) (v := ?_) rfl (by kernel_rfl) (by kernel_rfl) (by kernel_rfl) (fun _ _ _ h => h) (Or.inl ⟨by rfl, ?_⟩) (by assumption) ?_; rotate_left; focus (intro w hSw; (try dsimp only at hSw); simp only [List.getElem_toArray, List.getElem_cons_succ, List.getElem_cons_zero]; go_simp; (try (with_reducible rfl)))
  simp only [List.getElem_toArray, List.getElem_cons_succ, List.getElem_cons_zero, Act.put, List.setIfInBounds_toArray, List.set_cons_zero, List.set_cons_succ]
  refine wpAnyH_take (i := 21) (v := ?_) rfl (by kernel_rfl) (by kernel_rfl) (by kernel_rfl) (fun _ _ _ h => h) (Or.inl ⟨by rfl, ?_⟩) (by assumption) ?_; rotate_left; focus (intro w hSw; (try dsimp only at hSw); simp only [List.getElem_toArray, List.getElem_cons_succ, List.getElem_cons_zero]; go_simp; (try (with_reducible rfl)))
  simp only [List.getElem_toArray, List.getElem_cons_succ, List.getElem_cons_zero, Act.put, List.setIfInBounds_toArray, List.set_cons_zero, List.set_cons_succ]
  refine wpAnyH_take (i := 22) (v := ?_) rfl (by kernel_rfl) (by kernel_rfl) (by kernel_rfl) (fun _ _ _ h => h) (Or.inl ⟨by rfl, ?_⟩) (by assumption) ?_; rotate_left; focus (intro w hSw; (try dsimp only at hSw); simp only [List.getElem_toArray, List.getElem_cons_succ, List.getElem_cons_zero]; go_simp; (try (with_reducible rfl)))
  simp only [List.getElem_toArray, List.getElem_cons_succ, List.getElem_cons_zero, Act.put, List.setIfInBounds_toArray, List.set_cons_zero, List.set_cons_succ]
  refine wpAnyH_ready (rs := [19]) (by kernel_rfl) (by simp) ?_
  refine AllReadyH.cons rfl (fun K hK => ?_) AllReadyH.nil
  go_simp
  (with_reducible refine (HQ4.out _ HST.out.old).mono ?_)
  rintro e w8 ⟨rfl, hb8⟩
  have HST9 := Lib.hid (GS.below HST.out hb8.below)
  clear hb8 HST
  have HST := Lib.hid HST9.out
  clear HST9
  refine hK.out _ _ (gs28 HST.out) (fun hHeld => ?_)
  clear hK K
  try simp only [Act.put, List.setIfInBounds_toArray, List.set_cons_zero, List.set_cons_succ]
  refine wpAnyH_take (i := 23) (v := ?_) rfl (by kernel_rfl) (by kernel_rfl) (by kernel_rfl) (fun _ _ _ h => h) (Or.inl ⟨by rfl, ?_⟩) (by assumption) ?_; rotate_left; focus (intro w hSw; (try dsimp only at hSw); simp only [List.getElem_toArray, List.getElem_cons_succ, List.getElem_cons_zero]; go_simp; (try (with_reducible rfl)))
  simp only [List.getElem_toArray, List.getElem_cons_succ, List.getElem_cons_zero, Act.put, List.setIfInBounds_toArray, List.set_cons_zero, List.set_cons_succ]
  refine wpAnyH_take (i := 24) (v := undef) rfl (by kernel_rfl) (by kernel_rfl) (by kernel_rfl) (fun _ _ _ h => h) (Or.inr ⟨by rfl, rfl⟩) (by assumption) ?_
  simp only [List.getElem_toArray, List.getElem_cons_succ, List.getElem_cons_zero, Act.put, List.setIfInBounds_toArray, List.set_cons_zero, List.set_cons_succ]
  refine wpAnyH_take (i := 25) (v := undef) rfl (by kernel_rfl) (by kernel_rfl) (by kernel_rfl) (fun _ _ _ h => h) (Or.inr ⟨by rfl, rfl⟩) (by assumption) ?_
  simp only [List.getElem_toArray, List.getElem_cons_succ, List.getElem_cons_zero, Act.put, List.setIfInBounds_toArray, List.set_cons_zero, List.set_cons_succ]
  refine wpAnyH_take (i := 26) (v := ?_) rfl (by kernel_rfl) (by kernel_rfl) (by kernel_rfl) (fun _ _ _ h => h) (Or.inl ⟨by rfl, ?_⟩) (by assumption) ?_; rotate_left; focus (intro w hSw; (try dsimp only at hSw); simp only [List.getElem_toArray, List.getElem_cons_succ, List.getElem_cons_zero]; go_simp; (try (with_reducible rfl)))
  simp only [List.getElem_toArray, List.getElem_cons_succ, List.getElem_cons_zero, Act.put, List.setIfInBounds_toArray, List.set_cons_zero, List.set_cons_succ]
  refine wpAnyH_take (i := 27) (v := ?_) rfl (by kernel_rfl) (by kernel_rfl) (by kernel_rfl) (fun _ _ _ h => h) (Or.inl ⟨by rfl, ?_⟩) (by assumption) ?_; rotate_left; focus (intro w hSw; (try dsimp only at hSw); simp only [List.getElem_toArray, List.getElem_cons_succ, List.getElem_cons_zero]; go_simp; (try (with_reducible rfl)))
  simp only [List.getElem_toArray, List.getElem_cons_succ, List.getElem_cons_zero, Act.put, List.setIfInBounds_toArray, List.set_cons_zero, List.set_cons_succ]
  refine wpAnyH_take (i := 28) (v := ?_) rfl (by kernel_rfl) (by kernel_rfl) (by kernel_rfl) (fun _ _ _ h => h) (Or.inl ⟨by rfl, ?_⟩) (by assumption) ?_; rotate_left; focus (intro w hSw; (try dsimp only at hSw); simp only [List.getElem_toArray, List.getElem_cons_succ, List.getElem_cons_zero]; go_simp; (try (with_reducible rfl)))
  simp only [List.getElem_toArray, List.getElem_cons_succ, List.getElem_cons_zero, Act.put, List.setIfInBounds_toArray, List.set_cons_zero, List.set_cons_succ]
  refine wpAnyH_take (i := 29) (v := ?_) rfl (by kernel_rfl) (by kernel_rfl) (by kernel_rfl) (fun _ _ _ h => h) (Or.inl ⟨by rfl, ?_⟩) (by assumption) ?_; rotate_left; focus (intro w hSw; (try dsimp only at hSw); simp only [List.getElem_toArray, List.getElem_cons_succ, List.getElem_cons_zero]; go_simp; (try (with_reducible rfl)))
  simp only [List.getElem_toArray, List.getElem_cons_succ, List.getElem_cons_zero, Act.put, List.setIfInBounds_toArray, List.set_cons_zero, List.set_cons_succ]
  refine wpAnyH_done (by kernel_rfl) ?_ _
  all_goals
    go_wp2_with fail
    go_ret
    exact ⟨rfl, HST.out.1⟩
set_option maxHeartbeats 2000000 in
theorem headGets_calls (w : World) (hT : Tab8 w) (A0 : Option Addr) (c0 : Nat) (l0 : List Int) (hr0 : Kd.C (Kd.int .u8) w A0 l0.length l0) (hn0 : A0 = none → l0.length = 0 ∧ c0 = 0) (hc0 : l0.length ≤ c0) (y0 : l0.length * 1 ≤ 140737488351232) (hw0 : ∀ x ∈ l0, (Lit.int .u8 x).wf = true) :
    Calls Tryd.prog 4 #[.slice A0 l0.length c0] w fun e w' => e = .returned (.bool true) ∧ Below w.heap.size w w' := by
  have hb : Bytes l0 := fun x hx => wf_u8_bd (hw0 x hx)
  by_cases h2 : l0.length ≤ 2000
  · by_cases h5 : l0.length = 512
    · exact gets_512 w hT A0 c0 l0 hb hr0 hc0 h2 h5
    · exact gets_other w hT A0 c0 l0 hb hr0 hc0 h2 h5
  · have hal := GetW.alive_calls w hT
    have HAL := Lib.hid hal
    have d1 : decide ((2000 : Int) < (l0.length : Int)) = true := decide_eq_true (by omega)
    clear hal h2 hr0 hT hb hw0 hn0 y0
    go_enter Tryd.func4, Tryd.ntmps4
    go_wp2_with fail
    (with_reducible refine HAL.out.mono ?_)
    rintro e w1 ⟨rfl, hb1⟩
    have HB1 := Lib.hid hb1
    clear hb1 HAL
    go_wp2_with fail
    go_ret
    exact ⟨rfl, HB1.out⟩
end Go.Proofs.YtoabboeongbloaaDoor.RefG
