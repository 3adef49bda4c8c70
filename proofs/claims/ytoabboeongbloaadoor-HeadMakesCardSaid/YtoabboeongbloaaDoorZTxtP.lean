/- The text of a field: over numbers and lists alone. -/
import Derived.Test.YtoabboeongbloaaDoorZPHeadGetsx0
import Derived.Test.YtoabboeongbloaaDoorZPHeadGetsx1
import Derived.Test.YtoabboeongbloaaDoorZPHeadGetsx2
import Derived.Test.YtoabboeongbloaaDoorZPHeadGetsx3
import Derived.Test.YtoabboeongbloaaDoorZPHeadGetsx4
import Derived.Test.YtoabboeongbloaaDoorZPHeadGetsx5
set_option linter.unusedVariables false
set_option linter.unusedSimpArgs false
namespace Go.Proofs.YtoabboeongbloaaDoor.TxtP
open Go.RowKit Go.Proofs.YtoabboeongbloaaDoorW.PrintWords Go.Proofs.YtoabboeongbloaaDoorW.PrintLast Go.Proofs.YtoabboeongbloaaDoorW.PrintMore Go.Proofs.YtoabboeongbloaaDoor.PHeadGets
theorem w64 {n : Int} (h0 : -9223372036854775808 ≤ n) (h1 : n ≤ 9223372036854775807) : wrap64 n = n := by unfold wrap64; omega
theorem toList_inj {a b : ByteArray} : a.toList = b.toList ↔ a = b := by
  constructor
  · intro h
    rw [ByteArray.toList_eq, ByteArray.toList_eq] at h
    exact ByteArray.ext (Array.toList_inj.1 h)
  · intro h; rw [h]
/-- Sums that fit (no equation with a wrap stays in a context: linear arithmetic would look into it). -/
theorem wadd1 (n : Nat) (h : n < 9223372036854775807) : wrap64 ((n : Int) + 1) = ((n + 1 : Nat) : Int) := by rw [w64 (by omega) (by omega)]; omega
theorem wsub1 (n : Nat) (h0 : 0 < n) (h : n < 9223372036854775807) : wrap64 ((n : Int) - 1) = ((n - 1 : Nat) : Int) := by rw [w64 (by omega) (by omega)]; omega
theorem bytesOf_range (s : ByteArray) : ∀ b ∈ bytesOf s, 0 ≤ b ∧ b ≤ 255 := by
  intro b hb
  unfold bytesOf at hb
  obtain ⟨x, _, rfl⟩ := List.mem_map.1 hb
  have := x.toNat_lt
  omega
theorem strOfNums_bytesOf (s : ByteArray) : strOfNums (bytesOf s) = s := by
  unfold strOfNums bytesOf
  apply ByteArray.ext
  apply Array.ext'
  rw [List.map_map]
  conv => rhs; rw [← List.map_id s.data.toList]
  apply List.map_congr_left
  intro b _
  simp
theorem bytesOf_data (l : List UInt8) : bytesOf (⟨l.toArray⟩ : ByteArray) = l.map fun b => (b.toNat : Int) := rfl
theorem bytesOf_strOfNums (l : List Int) (h : ∀ b ∈ l, 0 ≤ b ∧ b ≤ 255) : bytesOf (strOfNums l) = l := by
  unfold strOfNums
  rw [bytesOf_data, List.map_map]
  conv => rhs; rw [← List.map_id l]
  apply List.map_congr_left
  intro b hb
  have := h b hb
  simp only [Function.comp, id]
  rw [UInt8.toNat_ofNat']
  omega
/-- Ahead of the first nought. -/
def ahead : List Int → List Int
  | [] => []
  | x :: r => if x = 0 then [] else x :: ahead r
theorem ahead_sub : ∀ l : List Int, ∀ x ∈ ahead l, x ∈ l
  | [], _, h => by simp [ahead] at h
  | y :: r, x, h => by
    unfold ahead at h
    split at h
    · simp at h
    · rcases List.mem_cons.1 h with rfl | h
      · simp
      · exact List.mem_cons_of_mem _ (ahead_sub r x h)
theorem byte_zero (x : Int) (h : 0 ≤ x ∧ x ≤ 255) : (UInt8.ofNat x.toNat == (0 : UInt8)) = decide (x = 0) := by
  rw [Bool.eq_iff_iff, beq_iff_eq, decide_eq_true_eq]
  constructor
  · intro e
    have := congrArg UInt8.toNat e
    rw [UInt8.toNat_ofNat'] at this
    have z : (0 : UInt8).toNat = 0 := rfl
    omega
  · intro e; subst e; rfl
theorem index_ahead : ∀ l : List Int, (∀ x ∈ l, 0 ≤ x ∧ x ≤ 255) → (Lib.indexByte (Lib.bytesOf l) 0 = -1 ∧ ahead l = l ∧ (0 : Int) ∉ l) ∨ (Lib.indexByte (Lib.bytesOf l) 0 = (ahead l).length ∧ l.take (ahead l).length = ahead l ∧ ahead l ≠ l ∧ (0 : Int) ∈ l)
  | [], _ => .inl ⟨rfl, rfl, by simp⟩
  | x :: r, h => by
    have hx := h x List.mem_cons_self
    have ih := index_ahead r (fun y hy => h y (List.mem_cons_of_mem _ hy))
    have e : Lib.indexByte (Lib.bytesOf (x :: r)) 0 = if decide (x = 0) = true then 0 else if Lib.indexByte (Lib.bytesOf r) 0 == -1 then -1 else Lib.indexByte (Lib.bytesOf r) 0 + 1 := by
      rw [← byte_zero x hx]; rfl
    rw [e]
    unfold ahead
    by_cases h0 : x = 0
    · right
      subst h0
      simp
    · rw [if_neg h0, decide_eq_false h0]
      simp only [Bool.false_eq_true, if_false]
      rcases ih with ⟨i1, i2, i3⟩ | ⟨i1, i2, i3, i4⟩
      · left
        rw [i1, i2]
        refine ⟨rfl, rfl, ?_⟩
        simp only [List.mem_cons, not_or]
        exact ⟨fun e => h0 e.symm, i3⟩
      · right
        rw [i1]
        have hn : (((ahead r).length : Int) == -1) = false := by rw [beq_eq_false_iff_ne]; omega
        refine ⟨by rw [hn]; simp, by simp [i2], ?_, List.mem_cons_of_mem _ i4⟩
        intro e
        injection e with _ e
        exact i3 e
theorem rd_nat (l : List Int) (n : Nat) : rd l (n : Int) = l.getD n 0 := by unfold rd; simp
theorem refget_l0 (l : List Int) (hl : l.length ≤ 100000) : ∀ (d i : Nat) (acc : List Int), i + d = l.length → acc.length ≤ i → Ev (fun k => oakumref02_Get.l0 k l acc (i : Int)) (strOfNums (acc ++ ahead (l.drop i)))
  | 0, i, acc, h, ha => by
    refine Ev.step (fun k => oakumref02_Get.l0.eq_2 ..) ?_
    rw [List.drop_of_length_le (by omega)]
    simp only [if_neg (show ¬ (i : Int) < (l.length : Int) by omega), ahead, List.append_nil]
    exact Ev.now _
  | d + 1, i, acc, h, ha => by
    refine Ev.step (fun k => oakumref02_Get.l0.eq_2 ..) ?_
    have hi : i < l.length := by omega
    have hd : l.drop i = l[i] :: l.drop (i + 1) := List.drop_eq_getElem_cons hi
    have hr : l.getD i 0 = l[i] := by rw [List.getD_eq_getElem?_getD, List.getElem?_eq_getElem hi]; rfl
    rw [hd]
    simp only [if_pos (show (i : Int) < (l.length : Int) by omega), if_pos (show (0 : Int) ≤ (i : Int) by omega), rd_nat, hr, wadd1 i (by omega)]
    unfold ahead
    by_cases h0 : l[i] = 0
    · simp only [if_pos h0, List.append_nil]
      exact Ev.now _
    · simp only [if_neg h0, if_pos (show acc.length < 140737488355328 by omega)]
      have ih := refget_l0 l hl d (i + 1) (acc ++ [l[i]]) (by omega) (by simp; omega)
      rw [List.append_assoc] at ih
      exact ih
theorem refget_ev (l : List Int) (hl : l.length ≤ 100000) : Ev (fun k => oakumref02_Get.f k l) (strOfNums (ahead l)) := by
  unfold oakumref02_Get.f
  exact refget_l0 l hl l.length 0 [] (by omega) (by simp)
end Go.Proofs.YtoabboeongbloaaDoor.TxtP
