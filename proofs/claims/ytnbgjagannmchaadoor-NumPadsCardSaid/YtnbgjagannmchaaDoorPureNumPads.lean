/- The law NumPads over lists and numbers: for every list of bytes and two bytes within the reach the printed function of the law comes to true; no further condition. -/
import Derived.Test.YtnbgjagannmchaaDoorPNumPadsx2
set_option linter.unusedVariables false
set_option linter.unusedSimpArgs false
namespace Go.Proofs.YtnbgjagannmchaaDoor.Pure
open Go.RowKit Go.Proofs.YtnbgjagannmchaaDoor.PNumPads Go.Proofs.YtnbgjagannmchaaDoorW.PrintWords Go.Proofs.YtnbgjagannmchaaDoorW.PrintLast Go.Proofs.YtnbgjagannmchaaDoorW.PrintMore

/-! ### Small words: numbers that fit, rounds, bytes of a cut -/
theorem w64 {n : Int} (h0 : -9223372036854775808 ≤ n) (h1 : n ≤ 9223372036854775807) : wrap64 n = n := by unfold wrap64; omega
theorem bt_nonneg (s : ByteArray) (i : Int) : 0 ≤ bt s i := (bt_range s i).1
theorem bt_le (s : ByteArray) (i : Int) : bt s i ≤ 255 := (bt_range s i).2
theorem bt_nat (s : ByteArray) (n : Nat) (h : n < s.size) : bt s (n : Int) = ((s[n]'h).toNat : Int) := by simp [bt, h]
theorem bt_out (s : ByteArray) (i : Int) (h : s.size ≤ i.toNat) : bt s i = 0 := by unfold bt; rw [dif_neg (by omega)]
theorem bt_extract (s : ByteArray) (m n : Nat) (i : Nat) (hi : m + i < n) (hn : n ≤ s.size) : bt (s.extract m n) (i : Int) = bt s ((m + i : Nat) : Int) := by
  have h1 : i < (s.extract m n).size := by rw [ByteArray.size_extract]; omega
  rw [bt_nat _ _ h1, bt_nat _ _ (by omega)]
  rw [ByteArray.getElem_extract]
theorem bytes_ext {a b : ByteArray} (hs : a.size = b.size) (h : ∀ i : Nat, i < a.size → bt a (i : Int) = bt b (i : Int)) : a = b := by
  apply ByteArray.ext_getElem hs
  intro i h1 h2
  have := h i h1
  rw [bt_nat _ _ h1, bt_nat _ _ h2] at this
  exact UInt8.toNat_inj.1 (by omega)
theorem toList_eq_nil (s : ByteArray) : s.toList = ([] : List UInt8) ↔ s.size = 0 := by
  rw [ByteArray.toList_eq]
  constructor
  · intro h
    have : s.data.toList.length = 0 := by rw [h]; rfl
    rwa [data_length] at this
  · intro h
    apply List.eq_nil_of_length_eq_zero
    rwa [data_length]
theorem toList_inj {a b : ByteArray} : a.toList = b.toList ↔ a = b := by
  constructor
  · intro h
    rw [ByteArray.toList_eq, ByteArray.toList_eq] at h
    exact ByteArray.ext (Array.toList_inj.1 h)
  · intro h; rw [h]
theorem wf_i64_bd {n : Int} (h : (Lit.int .i64 n).wf = true) : -9223372036854775808 ≤ n ∧ n ≤ 9223372036854775807 := by
  simp [Lit.wf, IntKind.min, IntKind.max, IntKind.signed, IntKind.bits] at h
  omega
theorem wf_u8_bd {n : Int} (h : (Lit.int .u8 n).wf = true) : 0 ≤ n ∧ n ≤ 255 := by
  simp [Lit.wf, IntKind.min, IntKind.max, IntKind.signed, IntKind.bits] at h
  omega
/-- Sums that fit (no equation with a wrap stays in a context: linear arithmetic would look into it). -/
theorem wadd1 (n : Nat) (h : n < 9223372036854775807) : wrap64 ((n : Int) + 1) = ((n + 1 : Nat) : Int) := by rw [w64 (by omega) (by omega)]; omega
theorem wadd4 (n : Nat) (h : n < 9223372036854775803) : wrap64 ((n : Int) + 4) = ((n + 4 : Nat) : Int) := by rw [w64 (by omega) (by omega)]; omega
theorem wsub1 (n : Nat) (h0 : 0 < n) (h : n < 9223372036854775807) : wrap64 ((n : Int) - 1) = ((n - 1 : Nat) : Int) := by rw [w64 (by omega) (by omega)]; omega

theorem alive_ev : Ev (fun k => oakumlaw01_alive.f k) true := Ev.of oakumlaw01_alive.mono (k := 40) (by decide +kernel)

/-! ### Blanks ahead, noughts and blanks behind -/
theorem pad_not_digit (x : Int) (h : Hand.pad x = true) : ¬ (48 ≤ x ∧ x ≤ 55) := by
  simp [Hand.pad] at h
  omega
theorem octAt_pad (n : Int) : ∀ t : List Int, Hand.padAll t = true → Hand.octAt n t = (n, 0)
  | [], _ => rfl
  | x :: r, h => by
    have hx : Hand.pad x = true := by
      unfold Hand.padAll at h
      rw [List.all_cons, Bool.and_eq_true] at h
      exact h.1
    unfold Hand.octAt
    rw [if_neg (pad_not_digit x hx), if_pos h]
theorem octAt_app (t : List Int) (ht : Hand.padAll t = true) : ∀ (ys : List Int) (n : Int), Hand.octAt n (ys ++ t) = Hand.octAt n ys
  | [], n => by rw [List.nil_append, octAt_pad n t ht]; rfl
  | x :: r, n => by
    rw [List.cons_append]
    unfold Hand.octAt
    by_cases hd : 48 ≤ x ∧ x ≤ 55
    · rw [if_pos hd, if_pos hd]
      by_cases hn : 1152921504606846975 < n
      · rw [if_pos hn, if_pos hn]
      · rw [if_neg hn, if_neg hn]
        exact octAt_app t ht r _
    · rw [if_neg hd, if_neg hd]
      have : Hand.padAll (x :: (r ++ t)) = Hand.padAll (x :: r) := by
        unfold Hand.padAll at ht ⊢
        rw [List.all_cons, List.all_append, ht, Bool.and_true, List.all_cons]
      rw [this]
theorem padAll_drop (p : Int → Bool) : ∀ t : List Int, Hand.padAll t = true → Hand.padAll (t.dropWhile p) = true := by
  intro t h
  unfold Hand.padAll at h ⊢
  rw [List.all_eq_true] at h ⊢
  intro x hx
  exact h x ((List.dropWhile_suffix _).mem hx)
/-- The number of a field, by the code. -/
def num (l : List Int) : Int × Int := Hand.octAt 0 (l.dropWhile (fun x => decide (x = 32)))
theorem num_behind (t : List Int) (ht : Hand.padAll t = true) : ∀ b : List Int, num (b ++ t) = num b
  | [] => by
    unfold num
    rw [List.nil_append, octAt_pad _ _ (padAll_drop _ t ht)]
    rfl
  | x :: r => by
    have ih := num_behind t ht r
    unfold num at ih ⊢
    rw [List.cons_append, List.dropWhile_cons, List.dropWhile_cons]
    split
    · exact ih
    · rw [← List.cons_append, octAt_app t ht]
theorem num_ahead (b : List Int) : ∀ m : Nat, num (List.replicate m 32 ++ b) = num b
  | 0 => rfl
  | m + 1 => by
    have ih := num_ahead b m
    unfold num at ih ⊢
    rw [List.replicate_succ, List.cons_append, List.dropWhile_cons, if_pos (by decide)]
    exact ih
theorem octal_eq (l : List Int) (h : ∀ x ∈ l, 0 ≤ x ∧ x ≤ 255) : num_Octal.f l = some (num l) := by
  unfold num_Octal.f
  rw [if_pos]
  · rfl
  · rw [List.all_eq_true]
    intro x hx
    have := h x hx
    simp only [Bool.and_eq_true, decide_eq_true_eq]
    omega
theorem pads_l1 (b c : List Int) (x2 : Int) (h2 : 0 ≤ x2 ∧ x2 ≤ 255) (hb : ∀ x ∈ b, 0 ≤ x ∧ x ≤ 255) (hc : ∀ x ∈ c, 0 ≤ x ∧ x ≤ 255) (hn : num c = num b) (hlen : c.length ≤ 1000) :
    ∀ (d i : Nat) (t : List Int), i + d = 20 → (i : Int) ≤ x2 % 10 → Hand.padAll t = true → t.length ≤ i → Ev (fun k => oakumlaw01_NumPads.l1 k b x2 (c ++ t) (i : Int)) true
  | 0, i, t, hd, hi, ht, htl => by omega
  | d + 1, i, t, hd, hi, ht, htl => by
    have e2 : wrap64 x2 = x2 := w64 (by omega) (by omega)
    have em : Int.tmod x2 10 = x2 % 10 := Int.tmod_eq_emod_of_nonneg (by omega)
    have hr : ∀ x ∈ t, 0 ≤ x ∧ x ≤ 255 := by
      intro x hx
      unfold Hand.padAll at ht
      have := List.all_eq_true.1 ht x hx
      simp [Hand.pad] at this
      omega
    have hall : ∀ x ∈ c ++ t, 0 ≤ x ∧ x ≤ 255 := by
      intro x hx
      rcases List.mem_append.1 hx with hx | hx
      · exact hc x hx
      · exact hr x hx
    refine Ev.step (fun k => oakumlaw01_NumPads.l1.eq_2 b x2 (c ++ t) (i : Int) k) ?_
    rw [e2, em]
    by_cases hlt : (i : Int) < x2 % 10
    · simp only [if_pos hlt]
      have hle : (c ++ t).length < 140737488355328 := by rw [List.length_append]; omega
      simp only [if_pos hle, List.append_assoc]
      rw [wadd1 i (by omega), Int.tmod_eq_emod_of_nonneg (a := (i : Int)) (b := 2) (by omega)]
      have hv : (wrap64 (32 * ((i : Int) % 2))) % 256 = 32 * ((i : Int) % 2) := by rw [w64 (by omega) (by omega)]; omega
      rw [hv]
      clear hv e2 em
      refine pads_l1 b c x2 h2 hb hc hn hlen d (i + 1) (t ++ [32 * ((i : Int) % 2)]) (by omega) (by omega) ?_ (by rw [List.length_append]; simp; omega)
      unfold Hand.padAll at ht ⊢
      rw [List.all_append, ht, Bool.true_and]
      simp [Hand.pad]
      omega
    · simp only [if_neg hlt, octal_eq b hb, octal_eq (c ++ t) hall, num_behind t ht c, hn, Option.bind_some, if_true, beq_self_eq_true]
      exact Ev.now _
theorem pads_l0 (b : List Int) (x2 : Int) (h2 : 0 ≤ x2 ∧ x2 ≤ 255) (hb : ∀ x ∈ b, 0 ≤ x ∧ x ≤ 255) (hl : b.length ≤ 500) (m : Nat) (hm : m ≤ 9) :
    ∀ (d i : Nat), i + d = m → Ev (fun k => oakumlaw01_NumPads.l0 k b x2 (List.replicate i 32 ++ List.replicate d 0) (i : Int)) true
  | 0, i, hd => by
    refine Ev.step (fun k => oakumlaw01_NumPads.l0.eq_2 b x2 (List.replicate i 32 ++ List.replicate 0 0) (i : Int) k) ?_
    rw [List.replicate_zero, List.append_nil]
    simp only [List.length_replicate]
    simp only [if_neg (show ¬ (i : Int) < (i : Int) by omega), if_pos (show i + b.length < 140737488355328 by omega)]
    have := pads_l1 b (List.replicate i 32 ++ b) x2 h2 hb (fun x hx => by
      rcases List.mem_append.1 hx with hx | hx
      · have := (List.mem_replicate.1 hx).2; omega
      · exact hb x hx) (num_ahead b i) (by rw [List.length_append, List.length_replicate]; omega) 20 0 [] rfl (by omega) rfl (Nat.le_refl _)
    rw [List.append_nil] at this
    exact this
  | d + 1, i, hd => by
    refine Ev.step (fun k => oakumlaw01_NumPads.l0.eq_2 b x2 (List.replicate i 32 ++ List.replicate (d + 1) 0) (i : Int) k) ?_
    have hlen : (List.replicate i (32 : Int) ++ List.replicate (d + 1) 0).length = i + (d + 1) := by rw [List.length_append, List.length_replicate, List.length_replicate]
    simp only [if_pos (show (i : Int) < ((List.replicate i (32 : Int) ++ List.replicate (d + 1) 0).length : Int) by rw [hlen]; omega), if_pos (show 0 ≤ (i : Int) by omega), Int.toNat_natCast, wadd1 i (by omega)]
    have hset : (List.replicate i (32 : Int) ++ List.replicate (d + 1) 0).set i 32 = List.replicate (i + 1) 32 ++ List.replicate d 0 := by
      rw [List.set_append_right _ _ (by rw [List.length_replicate]; exact Nat.le_refl _), List.length_replicate, Nat.sub_self, List.replicate_succ, List.set_cons_zero, List.replicate_succ', List.append_assoc]
      rfl
    rw [hset]
    exact pads_l0 b x2 h2 hb hl m hm d (i + 1) (by omega)
theorem NumPads : oakumlaw01_NumPads.Pure := by
  intro l0 a1 a2 _ _ hw h1 h2
  have hb : ∀ x ∈ l0, 0 ≤ x ∧ x ≤ 255 := fun x hx => wf_u8_bd (hw x hx)
  have h1 := wf_u8_bd h1
  have h2 := wf_u8_bd h2
  refine Ev.rounds (g := fun k => oakumlaw01_NumPads.f k l0 a1 a2) ?_
  unfold oakumlaw01_NumPads.f
  refine Ev.bind alive_ev ?_
  simp only [if_true]
  by_cases hl : (l0.length : Int) > 500
  · simp only [if_pos hl]; exact Ev.now _
  simp only [if_neg hl]
  rw [w64 (n := a1) (by omega) (by omega), Int.tmod_eq_emod_of_nonneg (by omega)]
  simp only [if_pos (show 0 ≤ a1 % 10 by omega), if_pos (show (a1 % 10).toNat ≤ 281474976710656 by omega)]
  have := pads_l0 l0 a2 h2 hb (by omega) (a1 % 10).toNat (by omega) (a1 % 10).toNat 0 (by omega)
  rw [List.replicate_zero, List.nil_append] at this
  exact this

end Go.Proofs.YtnbgjagannmchaaDoor.Pure
