/- Texts put into a field. -/
import Derived.Test.YtoabboeongbloaaDoorZPM
set_option linter.unusedVariables false
set_option linter.unusedSimpArgs false
namespace Go.Proofs.YtoabboeongbloaaDoor.PutP
open Go.RowKit Go.Proofs.YtoabboeongbloaaDoorW.PrintWords Go.Proofs.YtoabboeongbloaaDoorW.PrintLast Go.Proofs.YtoabboeongbloaaDoorW.PrintMore Go.Proofs.YtoabboeongbloaaDoor.PHeadGets Go.Proofs.YtoabboeongbloaaDoor.PM
theorem w64 {n : Int} (h0 : -9223372036854775808 ≤ n) (h1 : n ≤ 9223372036854775807) : wrap64 n = n := by unfold wrap64; omega
theorem toList_inj {a b : ByteArray} : a.toList = b.toList ↔ a = b := by
  constructor
  · intro h
    rw [ByteArray.toList_eq, ByteArray.toList_eq] at h
    exact ByteArray.ext (Array.toList_inj.1 h)
  · intro h; rw [h]
/-- Sums that fit (no equation with a wrap stays in a context: linear arithmetic would look into it). -/
theorem wadd1 (n : Nat) (h : n < 9223372036854775807) : wrap64 ((n : Int) + 1) = ((n + 1 : Nat) : Int) := by rw [w64 (by omega) (by omega)]; omega
theorem wsub1 (n : Nat) (h0 : 0 < n) (h : n < 9223372036854775807) : wrap64 ((n : Int) - 1) = ((n - 1 : Nat) : Int) := by rw [w64 (by omega) (by omega)]; omega
theorem bytesOf_range (s : ByteArray) : ∀ b ∈ bytesOf s, 0 ≤ b ∧ b ≤ 255 := by
  intro b hb
  unfold bytesOf at hb
  obtain ⟨x, _, rfl⟩ := List.mem_map.1 hb
  have := x.toNat_lt
  omega
theorem strOfNums_bytesOf (s : ByteArray) : strOfNums (bytesOf s) = s := by
  unfold strOfNums bytesOf
  apply ByteArray.ext
  apply Array.ext'
  rw [List.map_map]
  conv => rhs; rw [← List.map_id s.data.toList]
  apply List.map_congr_left
  intro b _
  simp
theorem bytesOf_data (l : List UInt8) : bytesOf (⟨l.toArray⟩ : ByteArray) = l.map fun b => (b.toNat : Int) := rfl
theorem bytesOf_strOfNums (l : List Int) (h : ∀ b ∈ l, 0 ≤ b ∧ b ≤ 255) : bytesOf (strOfNums l) = l := by
  unfold strOfNums
  rw [bytesOf_data, List.map_map]
  conv => rhs; rw [← List.map_id l]
  apply List.map_congr_left
  intro b hb
  have := h b hb
  simp only [Function.comp, id]
  rw [UInt8.toNat_ofNat']
  omega
/-- Ahead of the first nought. -/
def ahead : List Int → List Int
  | [] => []
  | x :: r => if x = 0 then [] else x :: ahead r
theorem ahead_sub : ∀ l : List Int, ∀ x ∈ ahead l, x ∈ l
  | [], _, h => by simp [ahead] at h
  | y :: r, x, h => by
    unfold ahead at h
    split at h
    · simp at h
    · rcases List.mem_cons.1 h with rfl | h
      · simp
      · exact List.mem_cons_of_mem _ (ahead_sub r x h)
theorem byte_zero (x : Int) (h : 0 ≤ x ∧ x ≤ 255) : (UInt8.ofNat x.toNat == (0 : UInt8)) = decide (x = 0) := by
  rw [Bool.eq_iff_iff, beq_iff_eq, decide_eq_true_eq]
  constructor
  · intro e
    have := congrArg UInt8.toNat e
    rw [UInt8.toNat_ofNat'] at this
    have z : (0 : UInt8).toNat = 0 := rfl
    omega
  · intro e; subst e; rfl
theorem index_ahead : ∀ l : List Int, (∀ x ∈ l, 0 ≤ x ∧ x ≤ 255) → (Lib.indexByte (Lib.bytesOf l) 0 = -1 ∧ ahead l = l ∧ (0 : Int) ∉ l) ∨ (Lib.indexByte (Lib.bytesOf l) 0 = (ahead l).length ∧ l.take (ahead l).length = ahead l ∧ ahead l ≠ l ∧ (0 : Int) ∈ l)
  | [], _ => .inl ⟨rfl, rfl, by simp⟩
  | x :: r, h => by
    have hx := h x List.mem_cons_self
    have ih := index_ahead r (fun y hy => h y (List.mem_cons_of_mem _ hy))
    have e : Lib.indexByte (Lib.bytesOf (x :: r)) 0 = if decide (x = 0) = true then 0 else if Lib.indexByte (Lib.bytesOf r) 0 == -1 then -1 else Lib.indexByte (Lib.bytesOf r) 0 + 1 := by
      rw [← byte_zero x hx]; rfl
    rw [e]
    unfold ahead
    by_cases h0 : x = 0
    · right
      subst h0
      simp
    · rw [if_neg h0, decide_eq_false h0]
      simp only [Bool.false_eq_true, if_false]
      rcases ih with ⟨i1, i2, i3⟩ | ⟨i1, i2, i3, i4⟩
      · left
        rw [i1, i2]
        refine ⟨rfl, rfl, ?_⟩
        simp only [List.mem_cons, not_or]
        exact ⟨fun e => h0 e.symm, i3⟩
      · right
        rw [i1]
        have hn : (((ahead r).length : Int) == -1) = false := by rw [beq_eq_false_iff_ne]; omega
        refine ⟨by rw [hn]; simp, by simp [i2], ?_, List.mem_cons_of_mem _ i4⟩
        intro e
        injection e with _ e
        exact i3 e
theorem rd_nat (l : List Int) (n : Nat) : rd l (n : Int) = l.getD n 0 := by unfold rd; simp
theorem refget_l0 (l : List Int) (hl : l.length ≤ 100000) : ∀ (d i : Nat) (acc : List Int), i + d = l.length → acc.length ≤ i → Ev (fun k => oakumref02_Get.l0 k l acc (i : Int)) (strOfNums (acc ++ ahead (l.drop i)))
  | 0, i, acc, h, ha => by
    refine Ev.step (fun k => oakumref02_Get.l0.eq_2 ..) ?_
    rw [List.drop_of_length_le (by omega)]
    simp only [if_neg (show ¬ (i : Int) < (l.length : Int) by omega), ahead, List.append_nil]
    exact Ev.now _
  | d + 1, i, acc, h, ha => by
    refine Ev.step (fun k => oakumref02_Get.l0.eq_2 ..) ?_
    have hi : i < l.length := by omega
    have hd : l.drop i = l[i] :: l.drop (i + 1) := List.drop_eq_getElem_cons hi
    have hr : l.getD i 0 = l[i] := by rw [List.getD_eq_getElem?_getD, List.getElem?_eq_getElem hi]; rfl
    rw [hd]
    simp only [if_pos (show (i : Int) < (l.length : Int) by omega), if_pos (show (0 : Int) ≤ (i : Int) by omega), rd_nat, hr, wadd1 i (by omega)]
    unfold ahead
    by_cases h0 : l[i] = 0
    · simp only [if_pos h0, List.append_nil]
      exact Ev.now _
    · simp only [if_neg h0, if_pos (show acc.length < 140737488355328 by omega)]
      have ih := refget_l0 l hl d (i + 1) (acc ++ [l[i]]) (by omega) (by simp; omega)
      rw [List.append_assoc] at ih
      exact ih
theorem refget_ev (l : List Int) (hl : l.length ≤ 100000) : Ev (fun k => oakumref02_Get.f k l) (strOfNums (ahead l)) := by
  unfold oakumref02_Get.f
  exact refget_l0 l hl l.length 0 [] (by omega) (by simp)
theorem str_inj {l r : List Int} (hl : ∀ b ∈ l, 0 ≤ b ∧ b ≤ 255) (hr : ∀ b ∈ r, 0 ≤ b ∧ b ≤ 255) (h : strOfNums l = strOfNums r) : l = r := by
  rw [← bytesOf_strOfNums l hl, h, bytesOf_strOfNums r hr]
theorem clean_iff (s : ByteArray) : Go.Proofs.YtoabboeongbloaaDoor.Txt.cleanB s = true ↔ ahead (bytesOf s) = bytesOf s := by
  have hbs : Lib.bytesOf (bytesOf s) = s.data.toList := by
    unfold Lib.bytesOf bytesOf
    rw [List.map_map]
    conv => rhs; rw [← List.map_id s.data.toList]
    apply List.map_congr_left
    intro b _
    simp [Function.comp]
  unfold Go.Proofs.YtoabboeongbloaaDoor.Txt.cleanB
  rw [decide_eq_true_eq, ← hbs]
  rcases index_ahead (bytesOf s) (bytesOf_range s) with ⟨h1, h2, _⟩ | ⟨h1, _, h3, _⟩
  · rw [h1]; simp [h2]
  · rw [h1]
    constructor
    · intro h; omega
    · intro h; exact absurd h h3
theorem refclean_ev (s : ByteArray) (hs : s.size ≤ 100000) : Ev (fun k => oakumref02_Clean.f k s) (Go.Proofs.YtoabboeongbloaaDoor.Txt.cleanB s) := by
  unfold oakumref02_Clean.f
  simp only [if_pos (show s.size ≤ 140737488351232 by omega)]
  refine Ev.bind (refget_ev (bytesOf s) (by rw [bytesOf_length]; omega)) ?_
  have e : ((strOfNums (ahead (bytesOf s))).toList == s.toList) = Go.Proofs.YtoabboeongbloaaDoor.Txt.cleanB s := by
    rw [Bool.eq_iff_iff, beq_iff_eq, toList_inj, clean_iff]
    constructor
    · intro h
      apply str_inj (fun b hb => bytesOf_range s b (ahead_sub _ b hb)) (bytesOf_range s)
      rw [h, strOfNums_bytesOf]
    · intro h; rw [h, strOfNums_bytesOf]
  rw [e]
  exact Ev.now _
theorem pad_field (s : ByteArray) (n : Int) (h : (s.size : Int) ≤ n) : Go.Proofs.YtoabboeongbloaaDoor.Txt.padOf s n = Go.Proofs.YtoabboeongbloaaDoorW.HKit.fieldOf s n.toNat := by
  unfold Go.Proofs.YtoabboeongbloaaDoor.Txt.padOf Go.Proofs.YtoabboeongbloaaDoorW.HKit.fieldOf
  rw [List.take_of_length_le (by rw [bytesOf_length]; omega)]
theorem pad_f (s : ByteArray) (n : Int) (hs : s.size ≤ 100000) (hn : n ≤ 100000) : oakumref02_Pad.f s n = some (Go.Proofs.YtoabboeongbloaaDoor.Txt.padOf s n) := by
  unfold oakumref02_Pad.f
  rw [if_pos (by omega)]
theorem refput_ev (s : ByteArray) (n : Int) (hs : s.size ≤ 100000) : Ev (fun k => oakumref02_Put.f k s n) (Go.Proofs.YtoabboeongbloaaDoor.Txt.putOf s n) := by
  unfold oakumref02_Put.f Go.Proofs.YtoabboeongbloaaDoor.Txt.putOf
  have two : Ev (fun k => oakumref02_Put.j0 k s n true) (([] : List Int), (2 : Int)) := by
    refine Ev.step (fun k => oakumref02_Put.j0.eq_2 ..) ?_
    simp only [if_true]
    exact Ev.now _
  by_cases h1 : n < 0
  · simp only [if_pos h1, if_pos (show n < 0 ∨ 65536 < n from Or.inl h1)]
    exact two
  by_cases h2 : n > 65536
  · simp only [if_neg h1, decide_eq_true h2, if_pos (show n < 0 ∨ 65536 < n from Or.inr h2)]
    exact two
  simp only [if_neg h1, decide_eq_false h2, if_neg (show ¬ (n < 0 ∨ 65536 < n) by omega)]
  refine Ev.step (fun k => oakumref02_Put.j0.eq_2 ..) ?_
  simp only [Bool.false_eq_true, if_false]
  refine Ev.bind (refclean_ev s hs) ?_
  by_cases h3 : Go.Proofs.YtoabboeongbloaaDoor.Txt.cleanB s = true
  · simp only [h3, if_true, Bool.true_eq_false, if_false]
    by_cases h4 : (s.size : Int) > n
    · simp only [if_pos h4]
      exact Ev.now _
    · simp only [if_neg h4, pad_f s n hs (by omega), Option.bind_some, pad_field s n (by omega)]
      exact Ev.now _
  · have h3' : Go.Proofs.YtoabboeongbloaaDoor.Txt.cleanB s = false := by simpa using h3
    simp only [h3', Bool.false_eq_true, if_false, if_true]
    exact Ev.now _
end Go.Proofs.YtoabboeongbloaaDoor.PutP
