/- What is made as a header is got: over numbers and lists alone. -/
import Derived.Test.YtoabboeongbloaaDoorNL
set_option linter.unusedVariables false
set_option linter.unusedSimpArgs false
namespace Go.Proofs.YtoabboeongbloaaDoor.BackP
open Go.RowKit Go.Proofs.YtoabboeongbloaaDoorW.PrintWords Go.Proofs.YtoabboeongbloaaDoorW.PrintLast Go.Proofs.YtoabboeongbloaaDoorW.PrintMore Go.Proofs.YtoabboeongbloaaDoor.PHeadGets Go.Proofs.YtoabboeongbloaaDoor.PN Go.Proofs.YtoabboeongbloaaDoor.NumP Go.Proofs.YtoabboeongbloaaDoor.GetP Go.Proofs.YtoabboeongbloaaDoor.HeadA Go.Proofs.YtoabboeongbloaaDoor.Maker Go.Proofs.YtoabboeongbloaaDoorW.HKit
/-! ### What is put is got -/
theorem octAt_digs : ∀ (w : Nat) (n m : Int) (t : List Int), 0 ≤ n → 0 ≤ m → m * 8 ^ w + n % 8 ^ w ≤ 9223372036854775807 → Go.Proofs.YtoabboeongbloaaDoor.Hand.octAt m (oct n w ++ t) = Go.Proofs.YtoabboeongbloaaDoor.Hand.octAt (m * 8 ^ w + n % 8 ^ w) t
  | 0, n, m, t, h0, hm, hb => by
    have : m * 8 ^ 0 + n % 8 ^ 0 = m := by rw [Int.pow_zero, Int.mul_one, Int.emod_one, Int.add_zero]
    rw [this]
    rfl
  | w + 1, n, m, t, h0, hm, hb => by
    have hP : (0 : Int) < 8 ^ w := Int.pow_pos (by omega)
    have e1 : n % 8 ^ (w + 1) = 8 * ((n / 8) % 8 ^ w) + n % 8 := by
      rw [Int.pow_succ, Int.mul_comm]
      have h1 := Int.mul_ediv_add_emod n 8
      have h2 := Int.mul_ediv_add_emod (n / 8) (8 ^ w)
      have h3 := Int.emod_nonneg (n / 8) (show (8 : Int) ^ w ≠ 0 by omega)
      have h4 := Int.emod_lt_of_pos (n / 8) hP
      have h5 := Int.emod_nonneg n (show (8 : Int) ≠ 0 by omega)
      have h6 := Int.emod_lt_of_pos n (show (0 : Int) < 8 by omega)
      have h7 : n = (8 * ((n / 8) % 8 ^ w) + n % 8) + (8 * 8 ^ w) * (n / 8 / 8 ^ w) := by
        rw [Int.mul_assoc]
        generalize 8 ^ w * (n / 8 / 8 ^ w) = Y at *
        omega
      have h8 : (8 * ((n / 8) % 8 ^ w) + n % 8) % (8 * 8 ^ w) = 8 * ((n / 8) % 8 ^ w) + n % 8 := Int.emod_eq_of_lt (by omega) (by omega)
      conv => lhs; rw [h7]
      rw [Int.add_mul_emod_self_left, h8]
    have e2 : m * 8 ^ (w + 1) = 8 * (m * 8 ^ w) := by rw [Int.pow_succ, ← Int.mul_assoc, Int.mul_comm]
    rw [e1, e2] at hb ⊢
    have h3 := Int.emod_nonneg (n / 8) (show (8 : Int) ^ w ≠ 0 by omega)
    have h5 := Int.emod_nonneg n (show (8 : Int) ≠ 0 by omega)
    have h6 := Int.emod_lt_of_pos n (show (0 : Int) < 8 by omega)
    have hm0 : 0 ≤ m * 8 ^ w := Int.mul_nonneg hm (by omega)
    have ih := octAt_digs w (n / 8) m ([n % 8 + 48] ++ t) (by omega) hm (by omega)
    have e3 : oct n (w + 1) ++ t = oct (n / 8) w ++ ([n % 8 + 48] ++ t) := by
      unfold oct
      rw [digs, List.map_append, List.append_assoc]
      rfl
    rw [e3, ih, List.singleton_append]
    conv => lhs; unfold Go.Proofs.YtoabboeongbloaaDoor.Hand.octAt
    rw [if_pos (by omega), if_neg (by omega)]
    congr 1
    omega
theorem val_digs (neg : Bool) : ∀ (w : Nat) (s m : Int) (l : List Int), 0 ≤ s → l.map (comp neg) = digs 256 s w → val neg m l = m * 256 ^ w + s % 256 ^ w := by
  have gen : ∀ (l : List Int) (m : Int) (x : Int), val neg m (l ++ [x]) = 256 * val neg m l + comp neg x := by
    intro l
    induction l with
    | nil => intro m x; simp [val]
    | cons c r ih => intro m x; rw [List.cons_append, val, val, ih]
  intro w
  induction w with
  | zero =>
    intro s m l h0 hl
    have : l = [] := by simpa [digs] using hl
    subst this
    rw [Int.pow_zero, Int.mul_one, Int.emod_one, Int.add_zero]
    rfl
  | succ w ih =>
    intro s m l h0 hl
    unfold digs at hl
    obtain ⟨l1, l2, rfl, h1, h2⟩ := List.map_eq_append_iff.1 hl
    obtain ⟨x, rfl, hx⟩ : ∃ x, l2 = [x] ∧ comp neg x = s % 256 := by
      match l2, h2 with
      | [], h2 => exact absurd h2 (by simp)
      | [x], h2 => exact ⟨x, rfl, by simpa using h2⟩
      | x :: y :: r, h2 => exact absurd h2 (by simp)
    rw [gen, ih (s / 256) m l1 (by omega) h1, hx]
    have hP : (0 : Int) < 256 ^ w := Int.pow_pos (by omega)
    have e1 : s % 256 ^ (w + 1) = 256 * ((s / 256) % 256 ^ w) + s % 256 := by
      rw [Int.pow_succ, Int.mul_comm]
      have h1 := Int.mul_ediv_add_emod s 256
      have h2 := Int.mul_ediv_add_emod (s / 256) (256 ^ w)
      have h3 := Int.emod_nonneg (s / 256) (show (256 : Int) ^ w ≠ 0 by omega)
      have h4 := Int.emod_lt_of_pos (s / 256) hP
      have h7 : s = (256 * ((s / 256) % 256 ^ w) + s % 256) + (256 * 256 ^ w) * (s / 256 / 256 ^ w) := by
        rw [Int.mul_assoc]
        generalize 256 ^ w * (s / 256 / 256 ^ w) = Y at *
        omega
      have h8 : (256 * ((s / 256) % 256 ^ w) + s % 256) % (256 * 256 ^ w) = 256 * ((s / 256) % 256 ^ w) + s % 256 := Int.emod_eq_of_lt (by omega) (by omega)
      conv => lhs; rw [h7]
      rw [Int.add_mul_emod_self_left, h8]
    have e2 : m * 256 ^ (w + 1) = 256 * (m * 256 ^ w) := by rw [Int.pow_succ, ← Int.mul_assoc, Int.mul_comm]
    rw [e1, e2]
    omega
theorem digs_bd (b : Int) (hb : 2 ≤ b) : ∀ (w : Nat) (n : Int), ∀ x ∈ digs b n w, 0 ≤ x ∧ x < b
  | 0, n, x, h => by simp [digs] at h
  | w + 1, n, x, h => by
    unfold digs at h
    rcases List.mem_append.1 h with h | h
    · exact digs_bd b hb w _ x h
    · rw [List.mem_singleton] at h
      subst h
      exact ⟨Int.emod_nonneg n (by omega), Int.emod_lt_of_pos n (by omega)⟩
theorem digs_comp : ∀ (w : Nat) (n : Int), (digs 256 n w).map (comp true) = digs 256 (-n - 1) w
  | 0, _ => rfl
  | w + 1, n => by
    unfold digs
    rw [List.map_append, digs_comp w, show (-n - 1) / 256 = -(n / 256) - 1 by omega]
    congr 1
    simp only [List.map_cons, List.map_nil, comp, if_true]
    congr 1
    omega
theorem digs_comp0 (w : Nat) (n : Int) : (digs 256 n w).map (comp false) = digs 256 n w := by
  conv => rhs; rw [← List.map_id (digs 256 n w)]
  apply List.map_congr_left
  intro x _
  rfl
theorem most_lt : ∀ w : Fin 33, mostOf w.val < 8 ^ w.val ∧ mostOf w.val ≤ 9223372036854775807 := by decide +kernel
theorem get_oct (n : Int) (w : Nat) (t : List Int) (ht : t = [] ∨ t = [0]) (h1 : 1 ≤ w) (h : w ≤ 32) (h0 : 0 ≤ n) (hm : n ≤ mostOf w) : Ev (fun k => num_Get.f k (oct n w ++ t)) (n, 0) := by
  have hml : mostOf w < 8 ^ w ∧ mostOf w ≤ 9223372036854775807 := most_lt ⟨w, by omega⟩
  have hr : ∀ x ∈ oct n w, 48 ≤ x ∧ x ≤ 55 := by
    intro x hx
    unfold oct at hx
    obtain ⟨y, hy, rfl⟩ := List.mem_map.1 hx
    have := digs_bd 8 (by omega) w n y hy
    omega
  have hlen : 0 < (oct n w ++ t).length := by rw [List.length_append, oct_len]; omega
  obtain ⟨x, r, hxr⟩ : ∃ x r, oct n w = x :: r := by
    match h : oct n w with
    | [] => have := oct_len n w; rw [h] at this; simp at this; omega
    | x :: r => exact ⟨x, r, rfl⟩
  have hx := hr x (by rw [hxr]; exact List.mem_cons_self)
  have hall : ∀ y ∈ oct n w ++ t, 0 ≤ y ∧ y ≤ 255 := by
    intro y hy
    rcases List.mem_append.1 hy with hy | hy
    · have := hr y hy; omega
    · rcases ht with rfl | rfl
      · simp at hy
      · simp at hy; omega
  have hrd : rd (oct n w ++ t) 0 = x := by rw [hxr]; rfl
  have hdrop : (oct n w ++ t).dropWhile (fun x => decide (x = 32)) = oct n w ++ t := by
    rw [hxr, List.cons_append, List.dropWhile_cons, if_neg (by simp; omega)]
  have hfin : Go.Proofs.YtoabboeongbloaaDoor.Hand.octAt 0 (oct n w ++ t) = (n, 0) := by
    have hmod : n % 8 ^ w = n := Int.emod_eq_of_lt h0 (by omega)
    have := octAt_digs w n 0 t h0 (by omega) (by rw [Int.zero_mul, Int.zero_add, hmod]; omega)
    rw [Int.zero_mul, Int.zero_add, hmod] at this
    rw [this]
    rcases ht with rfl | rfl
    · rfl
    · rfl
  have hf : num_Octal.f (oct n w ++ t) = some (n, 0) := by rw [octal_eq _ hall, hdrop, hfin]
  unfold num_Get.f
  simp only [if_pos (show ((oct n w ++ t).length : Int) > 0 by omega), hrd, decide_eq_false (show ¬ x ≥ 128 by omega)]
  refine Ev.step (fun k => num_Get.j0.eq_2 _ _ k) ?_
  simp only [if_neg Bool.false_ne_true, hf, Option.bind_some]
  exact Ev.now _
theorem get_wide (n : Int) (w : Nat) (h2 : 2 ≤ w) (h : w ≤ 32) (h0 : -9223372036854775808 ≤ n) (h1 : n ≤ 9223372036854775807) (hf : fitsB n w = true) : Ev (fun k => num_Get.f k ((if n < 0 then 255 else 128) :: digs 256 n (w - 1))) (n, 0) := by
  have hbd : ∀ x ∈ digs 256 n (w - 1), 0 ≤ x ∧ x ≤ 255 := fun x hx => by have := digs_bd 256 (by omega) _ _ x hx; omega
  have hlen := digs_len 256 (w - 1) n
  have hP : (9223372036854775808 : Int) ≤ 256 ^ (w - 1) ∨ (-(256 ^ (w - 1)) ≤ n ∧ n < 256 ^ (w - 1)) := by
    unfold fitsB at hf
    rw [Bool.or_eq_true, Bool.and_eq_true, decide_eq_true_eq, decide_eq_true_eq, decide_eq_true_eq] at hf
    rcases hf with hf | hf
    · left
      have := pow256 8 (w - 1) (by omega)
      omega
    · exact .inr hf
  obtain ⟨neg, hneg⟩ : ∃ neg : Bool, neg = decide (n < 0) := ⟨_, rfl⟩
  have hwide : Ev (fun k => num_Wide.l0 k (if neg = true then 255 else 0) (carry neg 0) (digs 256 n (w - 1))) (n, 0) := by
    have hw0 := wide_l0 neg (digs 256 n (w - 1)) (by omega) hbd
    have hval : val neg 0 (digs 256 n (w - 1)) = if neg = true then -n - 1 else n := by
      cases neg with
      | true =>
        have hn : n < 0 := of_decide_eq_true hneg.symm
        have := val_digs true (w - 1) (-n - 1) 0 (digs 256 n (w - 1)) (by omega) (digs_comp (w - 1) n)
        rw [this, Int.zero_mul, Int.zero_add, Int.emod_eq_of_lt (by omega) (by omega)]
        rfl
      | false =>
        have hn : ¬ n < 0 := of_decide_eq_false hneg.symm
        have := val_digs false (w - 1) n 0 (digs 256 n (w - 1)) (by omega) (digs_comp0 (w - 1) n)
        rw [this, Int.zero_mul, Int.zero_add, Int.emod_eq_of_lt (by omega) (by omega)]
        rfl
    have hres : wideOf neg (val neg 0 (digs 256 n (w - 1))) = (n, 0) := by
      rw [hval]
      unfold wideOf
      cases neg with
      | true =>
        have hn : n < 0 := of_decide_eq_true hneg.symm
        simp only [if_true]
        rw [if_pos (by omega)]
        congr 1
        omega
      | false =>
        simp only [if_neg Bool.false_ne_true]
        rw [if_pos (by omega)]
    rw [hres] at hw0
    exact hw0
  obtain ⟨c, hc⟩ : ∃ c : Int, c = if n < 0 then 255 else 128 := ⟨_, rfl⟩
  rw [← hc]
  have hc2 : c = if neg = true then 255 else 128 := by
    rw [hc, hneg]
    by_cases hn : n < 0
    · rw [if_pos hn, decide_eq_true hn]; rfl
    · rw [if_neg hn, decide_eq_false hn]; rfl
  have hL : (c :: digs 256 n (w - 1)).length = w := by rw [List.length_cons, hlen]; omega
  have hrd : rd (c :: digs 256 n (w - 1)) 0 = c := rfl
  have hge : c ≥ 128 := by rw [hc]; split <;> omega
  have hj0 : Ev (fun k => num_Wide.j0 k (c :: digs 256 n (w - 1)) false) (n, 0) := by
    refine Ev.step (fun k => num_Wide.j0.eq_2 _ _ k) ?_
    simp only [if_neg Bool.false_ne_true, hL, if_pos (show 0 < (w : Int) by omega), hrd]
    cases neg with
    | true =>
      simp only [if_true] at hc2 hwide
      simp only [if_pos hc2]
      refine Ev.step (fun k => num_Wide.j1.eq_2 _ _ k) ?_
      simp only [if_neg (show ¬ (255 : Int) = 0 by decide)]
      refine Ev.step (fun k => num_Wide.j2.eq_2 _ _ _ k) ?_
      simp only [hL, if_pos (show 1 ≤ (w : Int) by omega), List.drop_succ_cons, List.drop_zero]
      exact hwide
    | false =>
      simp only [if_neg Bool.false_ne_true] at hc2 hwide
      simp only [if_neg (show ¬ c = 255 by omega)]
      refine Ev.step (fun k => num_Wide.j1.eq_2 _ _ k) ?_
      simp only [if_true]
      refine Ev.step (fun k => num_Wide.j2.eq_2 _ _ _ k) ?_
      simp only [hL, if_pos (show 1 ≤ (w : Int) by omega), List.drop_succ_cons, List.drop_zero]
      exact hwide
  have hwf : Ev (fun k => num_Wide.f k (c :: digs 256 n (w - 1))) (n, 0) := by
    unfold num_Wide.f
    simp only [hL, hrd, if_neg (show ¬ (w : Int) < 2 by omega), if_pos (show 0 < (w : Int) by omega)]
    by_cases h128 : c = 128
    · simp only [if_pos h128]; exact hj0
    · have h255 : c = 255 := by rw [hc] at h128 ⊢; split at h128 <;> simp_all
      have : (c != 255) = false := by simp [h255]
      simp only [if_neg h128, this]
      exact hj0
  unfold num_Get.f
  simp only [hL, if_pos (show (w : Int) > 0 by omega), hrd, decide_eq_true hge]
  refine Ev.step (fun k => num_Get.j0.eq_2 _ _ k) ?_
  simp only [if_true]
  refine Ev.bind hwf ?_
  exact Ev.now _
theorem bytesOf_range (s : ByteArray) : ∀ b ∈ bytesOf s, 0 ≤ b ∧ b ≤ 255 := by
  intro b hb
  unfold bytesOf at hb
  obtain ⟨x, _, rfl⟩ := List.mem_map.1 hb
  have := x.toNat_lt
  omega
theorem strOfNums_bytesOf (s : ByteArray) : strOfNums (bytesOf s) = s := by
  unfold strOfNums bytesOf
  apply ByteArray.ext
  apply Array.ext'
  rw [List.map_map]
  conv => rhs; rw [← List.map_id s.data.toList]
  apply List.map_congr_left
  intro b _
  simp
theorem bytesOf_data (l : List UInt8) : bytesOf (⟨l.toArray⟩ : ByteArray) = l.map fun b => (b.toNat : Int) := rfl
theorem index_neg (c : UInt8) : ∀ l : List UInt8, Lib.indexByte l c < 0 ↔ c ∉ l
  | [] => by simp [Lib.indexByte]
  | b :: l => by
    unfold Lib.indexByte
    have ih := index_neg c l
    have := Go.Proofs.YtoabboeongbloaaDoor.Txt.index_lt c l
    by_cases h : b = c
    · simp [h]
    · simp only [beq_iff_eq, h, if_false, List.mem_cons, not_or, Ne.symm h, not_false_eq_true, true_and, ← ih]
      have hge : Lib.indexByte l c < 0 → Lib.indexByte l c = -1 := Go.Proofs.YtoabboeongbloaaDoor.Txt.index_m1 c l
      by_cases h2 : Lib.indexByte l c = -1
      · rw [if_pos h2, h2]
      · rw [if_neg h2]
        constructor
        · intro h3; omega
        · intro h3; exact absurd (hge h3) h2
theorem index_split (c : UInt8) : ∀ (l r : List UInt8), c ∉ l → Lib.indexByte (l ++ c :: r) c = l.length
  | [], r, _ => by simp [Lib.indexByte]
  | b :: l, r, h => by
    have hb : ¬ b = c := fun e => h (by simp [e])
    have ih := index_split c l r (fun hl => h (List.mem_cons_of_mem _ hl))
    simp only [List.cons_append, Lib.indexByte, beq_iff_eq, hb, if_false, ih, List.length_cons]
    rw [if_neg (by omega)]
    omega
theorem get_field (s : ByteArray) (n : Nat) (hc : Go.Proofs.YtoabboeongbloaaDoor.Txt.cleanB s = true) (hn : s.size ≤ n) : Go.Proofs.YtoabboeongbloaaDoor.Txt.getOf (Go.Proofs.YtoabboeongbloaaDoorW.HKit.fieldOf s n) = s := by
  have h0 : (0 : UInt8) ∉ s.data.toList := by
    rw [← index_neg]
    unfold Go.Proofs.YtoabboeongbloaaDoor.Txt.cleanB at hc
    simpa using hc
  have hf : Go.Proofs.YtoabboeongbloaaDoorW.HKit.fieldOf s n = bytesOf s ++ List.replicate (n - s.size) 0 := by
    unfold Go.Proofs.YtoabboeongbloaaDoorW.HKit.fieldOf
    rw [List.take_of_length_le (by rw [bytesOf_length]; exact hn)]
  have hbs : Lib.bytesOf (bytesOf s) = s.data.toList := by
    unfold Lib.bytesOf bytesOf
    rw [List.map_map]
    conv => rhs; rw [← List.map_id s.data.toList]
    apply List.map_congr_left
    intro b _
    simp [Function.comp]
  have hl : Lib.bytesOf (Go.Proofs.YtoabboeongbloaaDoorW.HKit.fieldOf s n) = s.data.toList ++ List.replicate (n - s.size) 0 := by
    rw [hf]
    show (bytesOf s ++ List.replicate (n - s.size) 0).map _ = _
    rw [List.map_append]
    congr 1
    rw [List.map_replicate]; rfl
  unfold Go.Proofs.YtoabboeongbloaaDoor.Txt.getOf
  rw [hl]
  rcases Nat.eq_zero_or_pos (n - s.size) with hz | hp
  · rw [hz, List.replicate_zero, List.append_nil, if_neg (by have := (index_neg 0 s.data.toList).2 h0; omega), hf, hz]
    simp only [List.replicate_zero, List.append_nil]
    exact strOfNums_bytesOf s
  · obtain ⟨m, hm⟩ : ∃ m, n - s.size = m + 1 := ⟨n - s.size - 1, by omega⟩
    rw [hm, List.replicate_succ, index_split 0 _ _ h0, if_pos (by omega), Int.toNat_natCast, hf, data_length, List.take_append_of_le_length (by rw [bytesOf_length]; exact Nat.le_refl _), List.take_of_length_le (by rw [bytesOf_length]; exact Nat.le_refl _)]
    exact strOfNums_bytesOf s
open SumP (sealOf Bytes take_seal drop_seal seal_len seal_bytes check_seal)
theorem num_back (n : Int) (w : Nat) (wide : Bool) (h2 : 2 ≤ w) (h : w ≤ 32) (h0 : -9223372036854775808 ≤ n) (h1 : n ≤ 9223372036854775807) (hp : (putOf n w wide).2 = 0) : Ev (fun k => num_Get.f k (putOf n w wide).1) (n, 0) := by
  unfold putOf at hp ⊢
  by_cases c1 : 0 ≤ n ∧ n ≤ mostOf (w - 1)
  · simp only [if_pos c1]
    exact get_oct n (w - 1) [0] (.inr rfl) (by omega) (by omega) c1.1 c1.2
  · by_cases c2 : 0 ≤ n ∧ n ≤ mostOf w
    · simp only [if_neg c1, if_pos c2]
      have hg := get_oct n w [] (.inl rfl) (by omega) (by omega) c2.1 c2.2
      rwa [List.append_nil] at hg
    · by_cases c3 : wide = true ∧ fitsB n w = true
      · simp only [if_neg c1, if_neg c2, if_pos c3]
        exact get_wide n w h2 h h0 h1 c3.2
      · simp only [if_neg c1, if_neg c2, if_neg c3] at hp
        exact absurd hp (by decide)
theorem num_blank : num_Get.f 100 (List.replicate 8 0) = some (0, 0) := by decide +kernel
/-! ### Fields of a row -/
theorem part_get (xs : List Int) (f s i : Nat) : (HeadA.part xs f s)[i]? = if i < s then xs[f + i]? else none := by
  unfold HeadA.part
  rw [List.getElem?_drop, List.getElem?_take]
  by_cases h : i < s
  · rw [if_pos h, if_pos (by omega)]
  · rw [if_neg h, if_neg (by omega)]
theorem splice_get (xs ys : List Int) (f i : Nat) (h : f + ys.length ≤ xs.length) : (splice xs f ys)[i]? = if i < f then xs[i]? else if i < f + ys.length then ys[i - f]? else xs[i]? := by
  unfold splice
  by_cases h1 : i < f
  · rw [if_pos h1, List.getElem?_append_left (by rw [List.length_take]; omega), List.getElem?_take, if_pos h1]
  · rw [if_neg h1, List.getElem?_append_right (by rw [List.length_take]; omega), List.length_take, Nat.min_eq_left (by omega)]
    by_cases h2 : i < f + ys.length
    · rw [if_pos h2, List.getElem?_append_left (by omega)]
    · rw [if_neg h2, List.getElem?_append_right (by omega), List.getElem?_drop]
      congr 1
      omega
theorem part_new (xs ys : List Int) (f : Nat) (h : f + ys.length ≤ xs.length) : HeadA.part (splice xs f ys) f ys.length = ys := by
  apply List.ext_getElem?
  intro i
  rw [part_get]
  by_cases h1 : i < ys.length
  · rw [if_pos h1, splice_get _ _ _ _ h, if_neg (by omega), if_pos (by omega)]
    congr 1
    omega
  · rw [if_neg h1, List.getElem?_eq_none (by omega)]
theorem part_old (xs ys : List Int) (f a s : Nat) (h : f + ys.length ≤ xs.length) (hd : a + s ≤ f ∨ f + ys.length ≤ a) : HeadA.part (splice xs f ys) a s = HeadA.part xs a s := by
  apply List.ext_getElem?
  intro i
  rw [part_get, part_get]
  by_cases h1 : i < s
  · rw [if_pos h1, if_pos h1, splice_get _ _ _ _ h]
    by_cases h2 : a + i < f
    · rw [if_pos h2]
    · rw [if_neg h2, if_neg (by omega)]
  · rw [if_neg h1, if_neg h1]
theorem seal_get {l : List Int} (hl : l.length = 512) (i : Nat) (h : i < 148 ∨ 156 ≤ i) : (sealOf l)[i]? = l[i]? := by
  rcases h with h | h
  · have h1 : ((sealOf l).take 148)[i]? = (l.take 148)[i]? := by rw [take_seal hl]
    rwa [List.getElem?_take, List.getElem?_take, if_pos h, if_pos h] at h1
  · have h1 : ((sealOf l).drop 156)[i - 156]? = (l.drop 156)[i - 156]? := by rw [drop_seal hl]
    rwa [List.getElem?_drop, List.getElem?_drop, show 156 + (i - 156) = i by omega] at h1
theorem part_seal {l : List Int} (hl : l.length = 512) (v : Int) (a s : Nat) (h : a + s ≤ 148 ∨ 157 ≤ a) : HeadA.part (sealOf (l.set 156 v)) a s = HeadA.part l a s := by
  apply List.ext_getElem?
  intro i
  rw [part_get, part_get]
  by_cases h1 : i < s
  · rw [if_pos h1, if_pos h1, seal_get (by rw [List.length_set]; exact hl) _ (by omega), List.getElem?_set_ne (by omega)]
  · rw [if_neg h1, if_neg h1]
theorem rd_seal {l : List Int} (hl : l.length = 512) (v : Int) : rd (sealOf (l.set 156 v)) 156 = v := by
  unfold rd
  rw [List.getD_eq_getElem?_getD, show (156 : Int).toNat = 156 from rfl, seal_get (by rw [List.length_set]; exact hl) 156 (.inr (Nat.le_refl _)), List.getElem?_set_self (by omega)]
  rfl
/-- The row's length, and what its fields hold. -/
def Fits (l : List Int) (fs : List (Nat × List Int)) : Prop := l.length = 512 ∧ ∀ p ∈ fs, HeadA.part l p.1 p.2.length = p.2
theorem Fits.put {l : List Int} {fs : List (Nat × List Int)} (h : Fits l fs) (f : Nat) (ys : List Int) (hf : f + ys.length ≤ 512) (hd : ∀ p ∈ fs, p.1 + p.2.length ≤ f ∨ f + ys.length ≤ p.1) : Fits (splice l f ys) ((f, ys) :: fs) := by
  have hl := h.1
  refine ⟨by rw [length_splice _ _ _ (by omega)]; exact hl, fun p hp => ?_⟩
  rcases List.mem_cons.1 hp with rfl | hp
  · exact part_new l ys f (by omega)
  · rw [part_old l ys f p.1 p.2.length (by omega) (hd p hp)]
    exact h.2 p hp
theorem Fits.over {l : List Int} {fs : List (Nat × List Int)} {f : Nat} {zs : List Int} (h : Fits l ((f, zs) :: fs)) (ys : List Int) (he : ys.length = zs.length) (hf : f + ys.length ≤ 512) (hd : ∀ p ∈ fs, p.1 + p.2.length ≤ f ∨ f + ys.length ≤ p.1) : Fits (splice l f ys) ((f, ys) :: fs) :=
  Fits.put ⟨h.1, fun p hp => h.2 p (List.mem_cons_of_mem _ hp)⟩ f ys hf hd
theorem Fits.at_ {l : List Int} {fs : List (Nat × List Int)} (h : Fits l fs) (v : Int) (hd : ∀ p ∈ fs, p.1 + p.2.length ≤ 148 ∨ 157 ≤ p.1) : ∀ p ∈ fs, HeadA.part (sealOf (l.set 156 v)) p.1 p.2.length = p.2 := by
  intro p hp
  rw [part_seal h.1 v p.1 p.2.length (hd p hp)]
  exact h.2 p hp
/-! ### What is made -/
theorem text_step {st : List Int × Int} {f s : Nat} {t : ByteArray} (h : (mText st f s t).2 = 0) : st.2 = 0 ∧ Txt.cleanB t = true ∧ t.size ≤ s ∧ (mText st f s t).1 = splice st.1 f (Go.Proofs.YtoabboeongbloaaDoorW.HKit.fieldOf t s) := by
  unfold mText at h ⊢
  by_cases h1 : st.2 = 0
  · rw [if_pos h1] at h ⊢
    by_cases h2 : (Txt.putOf t s).2 = 0
    · rw [if_pos h2]
      unfold Txt.putOf at h2 ⊢
      by_cases h3 : (s : Int) < 0 ∨ 65536 < (s : Int)
      · rw [if_pos h3] at h2; exact absurd h2 (by decide)
      · rw [if_neg h3] at h2 ⊢
        by_cases h4 : Txt.cleanB t = false
        · rw [if_pos h4] at h2; exact absurd h2 (by decide)
        · rw [if_neg h4] at h2 ⊢
          by_cases h5 : (s : Int) < t.size
          · rw [if_pos h5] at h2; exact absurd h2 (by decide)
          · rw [if_neg h5]
            exact ⟨h1, by simpa using h4, by omega, rfl⟩
    · rw [if_neg h2] at h
      exact absurd h h2
  · rw [if_neg h1] at h
    exact absurd h h1
theorem num_step {st : List Int × Int} {f s : Nat} {fld n : Int} {wide : Bool} (h : (mNum st f s fld n wide).2 = 0) : st.2 = 0 ∧ (putOf n s wide).2 = 0 ∧ (n < 0 → fld = 8) ∧ (mNum st f s fld n wide).1 = splice st.1 f (putOf n s wide).1 := by
  unfold mNum at h ⊢
  by_cases h1 : st.2 = 0
  · rw [if_pos h1] at h ⊢
    by_cases h2 : n < 0 ∧ ¬ fld = 8
    · rw [if_pos h2] at h; exact absurd (show (5 : Int) = 0 from h) (by decide)
    · rw [if_neg h2] at h ⊢
      by_cases h3 : (putOf n s wide).2 = 0
      · rw [if_pos h3]
        exact ⟨h1, h3, fun h0 => by by_cases h8 : fld = 8; exact h8; exact absurd ⟨h0, h8⟩ h2, rfl⟩
      · rw [if_neg h3] at h
        exact absurd h h3
  · rw [if_neg h1] at h
    exact absurd h h1
/-- A number is told: what its field holds leads back to it. -/
def NumIs (n fld : Int) (s : Nat) (wide : Bool) : Prop := (putOf n s wide).2 = 0 ∧ (n < 0 → fld = 8)
theorem field_len (t : ByteArray) (s : Nat) : (Go.Proofs.YtoabboeongbloaaDoorW.HKit.fieldOf t s).length = s := Go.Proofs.YtoabboeongbloaaDoorW.HKit.fieldOf_length t s
abbrev F (t : ByteArray) (s : Nat) : List Int := Go.Proofs.YtoabboeongbloaaDoorW.HKit.fieldOf t s
theorem A_fits (r : Raw) (wide : Bool) (fs : List (Nat × List Int)) (h : (makeA r wide).2 = 0) (h0 : Fits (List.replicate 512 0) fs) (hd : ∀ p ∈ fs, 257 ≤ p.1) :
    (Txt.cleanB r.name = true ∧ r.name.size ≤ 100) ∧ (Txt.cleanB r.link = true ∧ r.link.size ≤ 100) ∧ NumIs r.mode 4 8 wide ∧ NumIs r.uid 5 8 wide ∧ NumIs r.gid 6 8 wide ∧ NumIs r.size 7 12 wide ∧ NumIs r.time 8 12 wide ∧
    Fits (makeA r wide).1 ((157, F r.link 100) :: (136, (putOf r.time 12 wide).1) :: (124, (putOf r.size 12 wide).1) :: (116, (putOf r.gid 8 wide).1) :: (108, (putOf r.uid 8 wide).1) :: (100, (putOf r.mode 8 wide).1) :: (0, F r.name 100) :: fs) := by
  unfold makeA at h ⊢
  dsimp only at h ⊢
  obtain ⟨h6, k6, z6, e6⟩ := text_step h
  obtain ⟨h5, k5, z5, e5⟩ := num_step h6
  obtain ⟨h4, k4, z4, e4⟩ := num_step h5
  obtain ⟨h3, k3, z3, e3⟩ := num_step h4
  obtain ⟨h2, k2, z2, e2⟩ := num_step h3
  obtain ⟨h1, k1, z1, e1⟩ := num_step h2
  obtain ⟨_, k0, z0, e0⟩ := text_step h1
  have l5 := numput_len r.time 12 wide (by decide) k5
  have l4 := numput_len r.size 12 wide (by decide) k4
  have l3 := numput_len r.gid 8 wide (by decide) k3
  have l2 := numput_len r.uid 8 wide (by decide) k2
  have l1 := numput_len r.mode 8 wide (by decide) k1
  refine ⟨⟨k0, z0⟩, ⟨k6, z6⟩, ⟨k1, z1⟩, ⟨k2, z2⟩, ⟨k3, z3⟩, ⟨k4, z4⟩, ⟨k5, z5⟩, ?_⟩
  rw [e6, e5, e4, e3, e2, e1, e0]
  have f0 := h0.put 0 (F r.name 100) (by rw [field_len]; decide) (fun p hp => by have := hd p hp; rw [field_len]; omega)
  have f1 := f0.put 100 (putOf r.mode 8 wide).1 (by rw [l1]; decide) (by
    intro p hp
    simp only [List.mem_cons] at hp
    rw [l1]
    rcases hp with rfl | hp
    · rw [field_len]; omega
    · have := hd p hp; omega)
  have f2 := f1.put 108 (putOf r.uid 8 wide).1 (by rw [l2]; decide) (by
    intro p hp
    simp only [List.mem_cons] at hp
    rw [l2]
    rcases hp with rfl | rfl | hp
    · rw [l1]; omega
    · rw [field_len]; omega
    · have := hd p hp; omega)
  have f3 := f2.put 116 (putOf r.gid 8 wide).1 (by rw [l3]; decide) (by
    intro p hp
    simp only [List.mem_cons] at hp
    rw [l3]
    rcases hp with rfl | rfl | rfl | hp
    · rw [l2]; omega
    · rw [l1]; omega
    · rw [field_len]; omega
    · have := hd p hp; omega)
  have f4 := f3.put 124 (putOf r.size 12 wide).1 (by rw [l4]; decide) (by
    intro p hp
    simp only [List.mem_cons] at hp
    rw [l4]
    rcases hp with rfl | rfl | rfl | rfl | hp
    · rw [l3]; omega
    · rw [l2]; omega
    · rw [l1]; omega
    · rw [field_len]; omega
    · have := hd p hp; omega)
  have f5 := f4.put 136 (putOf r.time 12 wide).1 (by rw [l5]; decide) (by
    intro p hp
    simp only [List.mem_cons] at hp
    rw [l5]
    rcases hp with rfl | rfl | rfl | rfl | rfl | hp
    · rw [l4]; omega
    · rw [l3]; omega
    · rw [l2]; omega
    · rw [l1]; omega
    · rw [field_len]; omega
    · have := hd p hp; omega)
  exact f5.put 157 (F r.link 100) (by rw [field_len]; decide) (by
    intro p hp
    simp only [List.mem_cons] at hp
    rw [field_len]
    rcases hp with rfl | rfl | rfl | rfl | rfl | rfl | hp
    · rw [l5]; omega
    · rw [l4]; omega
    · rw [l3]; omega
    · rw [l2]; omega
    · rw [l1]; omega
    · rw [field_len]; omega
    · have := hd p hp; omega)
/-- What comes out of the header's fields. -/
def place : Nat → Nat × Nat
  | 0 => (100, 8) | 1 => (108, 8) | 2 => (116, 8) | 3 => (124, 12) | 4 => (136, 12) | 5 => (329, 8) | _ => (337, 8)
def fldOf : Nat → Int
  | 0 => 4 | 1 => 5 | 2 => 6 | 3 => 7 | 4 => 8 | 5 => 11 | _ => 12
def numAt (r : Raw) : Nat → Int
  | 0 => r.mode | 1 => r.uid | 2 => r.gid | 3 => r.size | 4 => r.time | 5 => r.major | _ => r.minor
def NumsBack (r : Raw) (l : List Int) : Prop := ∀ i, i < 7 → ∃ n, Ev (fun k => num_Get.f k (HeadA.part l (place i).1 (place i).2)) (n, 0) ∧ (n < 0 → fldOf i = 8) ∧ ((i < 5 ∨ ¬ r.mark = 0) → n = numAt r i)
def Bd (n : Int) : Prop := -9223372036854775808 ≤ n ∧ n ≤ 9223372036854775807
theorem num_field {r : Raw} {l : List Int} {a s : Nat} {n fld : Int} {wide : Bool} (hn : NumIs n fld s wide) (hb : Bd n) (h2 : 2 ≤ s) (h3 : s ≤ 32) (hp : HeadA.part l a (putOf n s wide).1.length = (putOf n s wide).1) :
    ∃ m, Ev (fun k => num_Get.f k (HeadA.part l a s)) (m, 0) ∧ (m < 0 → fld = 8) ∧ m = n := by
  have hl := numput_len n s wide h2 hn.1
  rw [hl] at hp
  rw [hp]
  exact ⟨n, num_back n s wide h2 h3 hb.1 hb.2 hn.1, hn.2, rfl⟩
theorem text_field {l : List Int} {a s : Nat} {t : ByteArray} (hc : Txt.cleanB t = true ∧ t.size ≤ s) (hp : HeadA.part l a (F t s).length = F t s) : GetW.txt l a s = t := by
  rw [field_len] at hp
  unfold GetW.txt
  rw [hp]
  exact get_field t s hc.1 hc.2
theorem mark_zero {l : List Int} (h : HeadA.part l 257 (List.replicate 8 (0 : Int)).length = List.replicate 8 0) : markOf l = 0 := by
  unfold markOf
  rw [show (List.replicate 8 (0 : Int)).length = 8 from rfl] at h
  rw [h]
  decide +kernel
theorem mark_P {l : List Int} (h : HeadA.part l 257 ustarP.length = ustarP) : markOf l = 1 := by
  unfold markOf
  rw [show ustarP.length = 8 from rfl] at h
  rw [h]
  decide +kernel
theorem mark_G {l : List Int} (h : HeadA.part l 257 ustarG.length = ustarG) : markOf l = 2 := by
  unfold markOf
  rw [show ustarG.length = 8 from rfl] at h
  rw [h]
  decide +kernel
def backRaw (r : Raw) : Raw := GetW.rw0 r.mark r.flag r.name r.link (if r.mark = 1 then r.pre else ⟨#[]⟩) (if r.mark = 0 then ⟨#[]⟩ else r.user) (if r.mark = 0 then ⟨#[]⟩ else r.group)
theorem get_back {r : Raw} {l : List Int} (hb : Bytes l) (hl : l.length = 512) (hk : knownB r.flag = true) (hm : markOf (sealOf (l.set 156 r.flag)) = r.mark) (h1 : GetW.txt (sealOf (l.set 156 r.flag)) 0 100 = r.name) (h2 : GetW.txt (sealOf (l.set 156 r.flag)) 157 100 = r.link) (h3 : ¬ r.mark = 0 → GetW.txt (sealOf (l.set 156 r.flag)) 265 32 = r.user ∧ GetW.txt (sealOf (l.set 156 r.flag)) 297 32 = r.group) (h4 : r.mark = 1 → GetW.txt (sealOf (l.set 156 r.flag)) 345 155 = r.pre) (hfl : 0 ≤ r.flag ∧ r.flag ≤ 255) :
    GetW.getR (sealOf (l.set 156 r.flag)) = (backRaw r, 0) := by
  unfold GetW.getR
  rw [if_pos (check_seal (bytes_set hb 156 r.flag hfl) (by rw [List.length_set]; exact hl)), rd_seal hl, if_pos hk]
  refine Prod.ext ?_ rfl
  show GetW.rawOf _ = _
  unfold GetW.rawOf backRaw GetW.rw0
  rw [hm, rd_seal hl, h1, h2]
  by_cases c0 : r.mark = 0
  · rw [if_pos c0, if_pos c0, if_neg (by omega), if_neg (by omega), if_pos c0, if_pos c0]
  · rw [if_neg c0, if_neg c0, if_neg c0, if_neg c0, (h3 c0).1, (h3 c0).2]
    by_cases c1 : r.mark = 1
    · rw [if_pos c1, if_pos c1, h4 c1]
    · rw [if_neg c1, if_neg c1]
theorem zero_part (a s : Nat) (h : a + s ≤ 512) : HeadA.part (List.replicate 512 0) a s = List.replicate s 0 := by
  apply List.ext_getElem?
  intro i
  rw [part_get]
  by_cases h1 : i < s
  · rw [if_pos h1, List.getElem?_replicate, List.getElem?_replicate, if_pos (by omega), if_pos h1]
  · rw [if_neg h1, List.getElem?_replicate, if_neg h1]
theorem back_old (r : Raw) (wide : Bool) (hm : r.mark = 0) (hk : knownB r.flag = true) (hfl : 0 ≤ r.flag ∧ r.flag ≤ 255) (hnb : ∀ i, Bd (numAt r i)) (h : (makeB r wide true).2 = 0) :
    GetW.getR (sealOf ((makeB r wide true).1.set 156 r.flag)) = (backRaw r, 0) ∧ NumsBack r (sealOf ((makeB r wide true).1.set 156 r.flag)) ∧ (makeB r wide true).1.length = 512 := by
  have hbb := bytes_B r wide true
  have hAB : makeB r wide true = makeA r wide := by unfold makeB; dsimp only; rw [if_pos hm]
  rw [hAB] at h hbb ⊢
  have f0 : Fits (List.replicate 512 0) [(257, List.replicate 8 0), (329, List.replicate 8 0), (337, List.replicate 8 0)] := by
    refine ⟨List.length_replicate, fun p hp => ?_⟩
    simp only [List.mem_cons, List.not_mem_nil, or_false] at hp
    rcases hp with rfl | rfl | rfl
    · exact zero_part 257 8 (by decide)
    · exact zero_part 329 8 (by decide)
    · exact zero_part 337 8 (by decide)
  obtain ⟨c0, c1, n0, n1, n2, n3, n4, hf⟩ := A_fits r wide _ h f0 (by
    intro p hp
    simp only [List.mem_cons, List.not_mem_nil, or_false] at hp
    rcases hp with rfl | rfl | rfl <;> dsimp only <;> omega)
  have l4 := numput_len r.time 12 wide (by decide) n4.1
  have l3 := numput_len r.size 12 wide (by decide) n3.1
  have l2 := numput_len r.gid 8 wide (by decide) n2.1
  have l1 := numput_len r.uid 8 wide (by decide) n1.1
  have l0 := numput_len r.mode 8 wide (by decide) n0.1
  have g := hf.at_ r.flag (by
    intro p hp
    simp only [List.mem_cons, List.not_mem_nil, or_false] at hp
    rcases hp with rfl | rfl | rfl | rfl | rfl | rfl | rfl | rfl | rfl | rfl <;> dsimp only <;> simp only [field_len, l0, l1, l2, l3, l4, List.length_replicate] <;> omega)
  simp only [List.forall_mem_cons, List.not_mem_nil, false_implies, implies_true, and_true] at g
  obtain ⟨g0, g1, g2, g3, g4, g5, g6, g7, g8, g9⟩ := g
  refine ⟨get_back hbb hf.1 hk (by rw [mark_zero g7, hm]) (text_field c0 g6) (text_field c1 g0) (fun c => absurd hm c) (fun c => by omega) hfl, ?_, hf.1⟩
  intro i hi
  match i, hi with
  | 0, _ => obtain ⟨m, e1, e2, e3⟩ := num_field (r := r) n0 (hnb 0) (by decide) (by decide) g5; exact ⟨m, e1, e2, fun _ => e3⟩
  | 1, _ => obtain ⟨m, e1, e2, e3⟩ := num_field (r := r) n1 (hnb 1) (by decide) (by decide) g4; exact ⟨m, e1, e2, fun _ => e3⟩
  | 2, _ => obtain ⟨m, e1, e2, e3⟩ := num_field (r := r) n2 (hnb 2) (by decide) (by decide) g3; exact ⟨m, e1, e2, fun _ => e3⟩
  | 3, _ => obtain ⟨m, e1, e2, e3⟩ := num_field (r := r) n3 (hnb 3) (by decide) (by decide) g2; exact ⟨m, e1, e2, fun _ => e3⟩
  | 4, _ => obtain ⟨m, e1, e2, e3⟩ := num_field (r := r) n4 (hnb 4) (by decide) (by decide) g1; exact ⟨m, e1, e2, fun _ => e3⟩
  | 5, _ =>
    refine ⟨0, ?_, fun h => absurd h (by decide), fun h => by rcases h with h | h; exact absurd h (by decide); exact absurd hm h⟩
    rw [show HeadA.part (sealOf ((makeA r wide).1.set 156 r.flag)) (place 5).1 (place 5).2 = List.replicate 8 0 from g8]
    exact Ev.of (num_Get.mono _) (k := 100) num_blank
  | 6, _ =>
    refine ⟨0, ?_, fun h => absurd h (by decide), fun h => by rcases h with h | h; exact absurd h (by decide); exact absurd hm h⟩
    rw [show HeadA.part (sealOf ((makeA r wide).1.set 156 r.flag)) (place 6).1 (place 6).2 = List.replicate 8 0 from g9]
    exact Ev.of (num_Get.mono _) (k := 100) num_blank
theorem back_late (r : Raw) (wide : Bool) (hm : r.mark = 1 ∨ r.mark = 2) (hk : knownB r.flag = true) (hfl : 0 ≤ r.flag ∧ r.flag ≤ 255) (hnb : ∀ i, Bd (numAt r i)) (h : (makeB r wide true).2 = 0) :
    GetW.getR (sealOf ((makeB r wide true).1.set 156 r.flag)) = (backRaw r, 0) ∧ NumsBack r (sealOf ((makeB r wide true).1.set 156 r.flag)) ∧ (makeB r wide true).1.length = 512 := by
  have hbb := bytes_B r wide true
  have hm0 : ¬ r.mark = 0 := by omega
  obtain ⟨ms, hms⟩ : ∃ ms : List Int, ms = if r.mark = 1 then ustarP else ustarG := ⟨_, rfl⟩
  have hml : ms.length = 8 := by rw [hms]; split <;> rfl
  obtain ⟨st, hst⟩ : ∃ st, st = (if r.mark = 1 then (splice (splice (makeA r wide).1 257 ustarG) 257 ustarP, (makeA r wide).2) else (splice (makeA r wide).1 257 ustarG, (makeA r wide).2) : List Int × Int) := ⟨_, rfl⟩
  have hAB : makeB r wide true = lateOf st r wide true := by
    unfold makeB
    dsimp only
    rw [if_neg hm0, hst]
  rw [hAB] at h hbb ⊢
  have hst2 : st.2 = (makeA r wide).2 := by rw [hst]; split <;> rfl
  unfold lateOf at h hbb ⊢
  dsimp only at h hbb ⊢
  simp only [↓reduceIte] at h hbb ⊢
  obtain ⟨c, hc⟩ : ∃ c, c = mNum (mNum (mText (mText st 265 32 r.user) 297 32 r.group) 329 8 11 r.major wide) 337 8 12 r.minor wide := ⟨_, rfl⟩
  rw [← hc] at h hbb ⊢
  have hc2 : c.2 = 0 := by
    by_cases h1 : r.mark = 1
    · rw [if_pos h1] at h; exact (text_step h).1
    · rw [if_neg h1] at h; exact h
  rw [hc] at hc2
  obtain ⟨q1, k1, z1, e1⟩ := num_step hc2
  obtain ⟨q2, k2, z2, e2⟩ := num_step q1
  obtain ⟨q3, k3, z3, e3⟩ := text_step q2
  obtain ⟨q4, k4, z4, e4⟩ := text_step q3
  rw [e2, e3, e4] at e1
  rw [← hc] at e1
  rw [hst2] at q4
  obtain ⟨c0, c1, n0, n1, n2, n3, n4, hf⟩ := A_fits r wide [] q4 ⟨List.length_replicate, fun p hp => by cases hp⟩ (fun p hp => by cases hp)
  have l4 := numput_len r.time 12 wide (by decide) n4.1
  have l3 := numput_len r.size 12 wide (by decide) n3.1
  have l2 := numput_len r.gid 8 wide (by decide) n2.1
  have l1 := numput_len r.uid 8 wide (by decide) n1.1
  have l0 := numput_len r.mode 8 wide (by decide) n0.1
  have l6 := numput_len r.minor 8 wide (by decide) k1
  have l5 := numput_len r.major 8 wide (by decide) k2
  have hlow : ∀ p ∈ ((157, F r.link 100) :: (136, (putOf r.time 12 wide).1) :: (124, (putOf r.size 12 wide).1) :: (116, (putOf r.gid 8 wide).1) :: (108, (putOf r.uid 8 wide).1) :: (100, (putOf r.mode 8 wide).1) :: (0, F r.name 100) :: []), p.1 + p.2.length ≤ 257 := by
    intro p hp
    simp only [List.mem_cons, List.not_mem_nil, or_false] at hp
    rcases hp with rfl | rfl | rfl | rfl | rfl | rfl | rfl <;> dsimp only <;> simp only [field_len, l0, l1, l2, l3, l4] <;> omega
  have hlow2 : ∀ p ∈ ((157, F r.link 100) :: (136, (putOf r.time 12 wide).1) :: (124, (putOf r.size 12 wide).1) :: (116, (putOf r.gid 8 wide).1) :: (108, (putOf r.uid 8 wide).1) :: (100, (putOf r.mode 8 wide).1) :: (0, F r.name 100) :: []), p.1 + p.2.length ≤ 148 ∨ 157 ≤ p.1 := by
    intro p hp
    simp only [List.mem_cons, List.not_mem_nil, or_false] at hp
    rcases hp with rfl | rfl | rfl | rfl | rfl | rfl | rfl <;> dsimp only <;> simp only [field_len, l0, l1, l2, l3, l4] <;> omega
  obtain ⟨low, hlw⟩ : ∃ low, low = ((157, F r.link 100) :: (136, (putOf r.time 12 wide).1) :: (124, (putOf r.size 12 wide).1) :: (116, (putOf r.gid 8 wide).1) :: (108, (putOf r.uid 8 wide).1) :: (100, (putOf r.mode 8 wide).1) :: (0, F r.name 100) :: []) := ⟨_, rfl⟩
  rw [← hlw] at hf hlow hlow2
  have f0 : Fits st.1 ((257, ms) :: low) := by
    have g0 := hf.put 257 ustarG (by decide) (fun p hp => .inl (hlow p hp))
    rw [hst, hms]
    by_cases h1 : r.mark = 1
    · rw [if_pos h1, if_pos h1]
      exact g0.over ustarP rfl (by decide) (fun p hp => .inl (hlow p hp))
    · rw [if_neg h1, if_neg h1]
      exact g0
  have f1 := f0.put 265 (F r.user 32) (by rw [field_len]; decide) (by
    intro p hp
    rcases List.mem_cons.1 hp with rfl | hp
    · rw [hml]; omega
    · have := hlow p hp; omega)
  have f2 := f1.put 297 (F r.group 32) (by rw [field_len]; decide) (by
    intro p hp
    rcases List.mem_cons.1 hp with rfl | hp
    · rw [field_len]; omega
    rcases List.mem_cons.1 hp with rfl | hp
    · rw [hml]; omega
    · have := hlow p hp; omega)
  have f3 := f2.put 329 (putOf r.major 8 wide).1 (by rw [l5]; decide) (by
    intro p hp
    rcases List.mem_cons.1 hp with rfl | hp
    · rw [field_len]; omega
    rcases List.mem_cons.1 hp with rfl | hp
    · rw [field_len]; omega
    rcases List.mem_cons.1 hp with rfl | hp
    · rw [hml]; omega
    · have := hlow p hp; omega)
  have f4 := f3.put 337 (putOf r.minor 8 wide).1 (by rw [l6]; decide) (by
    intro p hp
    rcases List.mem_cons.1 hp with rfl | hp
    · rw [l5]; omega
    rcases List.mem_cons.1 hp with rfl | hp
    · rw [field_len]; omega
    rcases List.mem_cons.1 hp with rfl | hp
    · rw [field_len]; omega
    rcases List.mem_cons.1 hp with rfl | hp
    · rw [hml]; omega
    · have := hlow p hp; omega)
  rw [← e1] at f4
  obtain ⟨X, hX⟩ : ∃ X : List Int × Int, X = if r.mark = 1 then mText c 345 155 r.pre else c := ⟨_, rfl⟩
  rw [← hX] at h hbb ⊢
  obtain ⟨f5, hpre⟩ : ∃ up, Fits X.1 (up ++ ((337, (putOf r.minor 8 wide).1) :: (329, (putOf r.major 8 wide).1) :: (297, F r.group 32) :: (265, F r.user 32) :: (257, ms) :: low)) ∧ (∀ p ∈ up, 345 ≤ p.1) ∧ (r.mark = 1 → (Txt.cleanB r.pre = true ∧ r.pre.size ≤ 155) ∧ (345, F r.pre 155) ∈ up) := by
    by_cases h1 : r.mark = 1
    · rw [if_pos h1] at hX
      rw [hX] at h
      obtain ⟨_, k, z, e⟩ := text_step h
      rw [hX, e]
      refine ⟨[(345, F r.pre 155)], f4.put 345 (F r.pre 155) (by rw [field_len]; decide) ?_, ?_, fun _ => ⟨⟨k, z⟩, List.mem_cons_self⟩⟩
      · intro p hp
        rcases List.mem_cons.1 hp with rfl | hp
        · rw [l6]; omega
        rcases List.mem_cons.1 hp with rfl | hp
        · rw [l5]; omega
        rcases List.mem_cons.1 hp with rfl | hp
        · rw [field_len]; omega
        rcases List.mem_cons.1 hp with rfl | hp
        · rw [field_len]; omega
        rcases List.mem_cons.1 hp with rfl | hp
        · rw [hml]; omega
        · have := hlow p hp; omega
      · intro p hp
        simp only [List.mem_cons, List.not_mem_nil, or_false] at hp
        rw [hp]; exact Nat.le_refl _
    · rw [if_neg h1] at hX
      rw [hX]
      exact ⟨[], f4, fun p hp => absurd hp List.not_mem_nil, fun c => absurd c h1⟩
  obtain ⟨hfit, hup, hpr⟩ := hpre
  have g := hfit.at_ r.flag (by
    intro p hp
    rcases List.mem_append.1 hp with hp | hp
    · have := hup p hp; omega
    rcases List.mem_cons.1 hp with rfl | hp
    · right; dsimp only; omega
    rcases List.mem_cons.1 hp with rfl | hp
    · right; dsimp only; omega
    rcases List.mem_cons.1 hp with rfl | hp
    · right; dsimp only; omega
    rcases List.mem_cons.1 hp with rfl | hp
    · right; dsimp only; omega
    rcases List.mem_cons.1 hp with rfl | hp
    · right; dsimp only; omega
    · exact hlow2 p hp)
  have gup : ∀ p ∈ f5, HeadA.part (sealOf (X.1.set 156 r.flag)) p.1 p.2.length = p.2 := fun p hp => g p (List.mem_append_left _ hp)
  have g2 := fun p hp => g p (List.mem_append_right f5 hp)
  rw [hlw] at g2
  simp only [List.forall_mem_cons, List.not_mem_nil, false_implies, implies_true, and_true] at g2
  obtain ⟨g0, g1, g2, g3, gm, a0, a1, a2, a3, a4, a5, a6⟩ := g2
  refine ⟨get_back hbb hfit.1 hk ?_ (text_field c0 a6) (text_field c1 a0) (fun _ => ⟨text_field ⟨k4, z4⟩ g3, text_field ⟨k3, z3⟩ g2⟩) (fun h1 => text_field (hpr h1).1 (gup _ (hpr h1).2)) hfl, ?_, hfit.1⟩
  · rw [hms] at gm
    rcases hm with h1 | h1
    · rw [if_pos h1] at gm
      rw [mark_P gm, h1]
    · rw [if_neg (by omega)] at gm
      rw [mark_G gm, h1]
  · intro i hi
    match i, hi with
    | 0, _ => obtain ⟨m, e1, e2, e3⟩ := num_field (r := r) n0 (hnb 0) (by decide) (by decide) a5; exact ⟨m, e1, e2, fun _ => e3⟩
    | 1, _ => obtain ⟨m, e1, e2, e3⟩ := num_field (r := r) n1 (hnb 1) (by decide) (by decide) a4; exact ⟨m, e1, e2, fun _ => e3⟩
    | 2, _ => obtain ⟨m, e1, e2, e3⟩ := num_field (r := r) n2 (hnb 2) (by decide) (by decide) a3; exact ⟨m, e1, e2, fun _ => e3⟩
    | 3, _ => obtain ⟨m, e1, e2, e3⟩ := num_field (r := r) n3 (hnb 3) (by decide) (by decide) a2; exact ⟨m, e1, e2, fun _ => e3⟩
    | 4, _ => obtain ⟨m, e1, e2, e3⟩ := num_field (r := r) n4 (hnb 4) (by decide) (by decide) a1; exact ⟨m, e1, e2, fun _ => e3⟩
    | 5, _ => obtain ⟨m, e1, e2, e3⟩ := num_field (r := r) (n := r.major) (fld := 11) ⟨k2, z2⟩ (hnb 5) (by decide) (by decide) g1; exact ⟨m, e1, e2, fun _ => e3⟩
    | 6, _ => obtain ⟨m, e1, e2, e3⟩ := num_field (r := r) (n := r.minor) (fld := 12) ⟨k1, z1⟩ (hnb 6) (by decide) (by decide) g0; exact ⟨m, e1, e2, fun _ => e3⟩
theorem make_zero {r : Raw} {wide dev : Bool} (h : (makeOf r wide dev).2 = 0) : 0 ≤ r.mark ∧ r.mark ≤ 2 ∧ knownB r.flag = true ∧ (makeB r wide dev).2 = 0 ∧ (makeOf r wide dev).1 = sealOf ((makeB r wide dev).1.set 156 r.flag) := by
  unfold makeOf at h ⊢
  by_cases h1 : r.mark < 0 ∨ 2 < r.mark
  · rw [if_pos h1] at h; exact absurd h (by decide)
  · rw [if_neg h1] at h ⊢
    by_cases h2 : knownB r.flag = false
    · rw [if_pos h2] at h; exact absurd h (by decide)
    · rw [if_neg h2] at h ⊢
      dsimp only at h ⊢
      by_cases h3 : (makeB r wide dev).2 = 0
      · rw [if_pos h3]
        exact ⟨by omega, by omega, by simpa using h2, h3, rfl⟩
      · rw [if_neg h3] at h
        exact absurd h h3
theorem make_none {r : Raw} {wide dev : Bool} (h : ¬ (makeOf r wide dev).2 = 0) : (makeOf r wide dev).1 = [] := by
  unfold makeOf at h ⊢
  by_cases h1 : r.mark < 0 ∨ 2 < r.mark
  · rw [if_pos h1]
  · rw [if_neg h1] at h ⊢
    by_cases h2 : knownB r.flag = false
    · rw [if_pos h2]
    · rw [if_neg h2] at h ⊢
      dsimp only at h ⊢
      by_cases h3 : (makeB r wide dev).2 = 0
      · rw [if_pos h3] at h; exact absurd rfl h
      · rw [if_neg h3]
/-- What is made is got. -/
theorem back_all (r : Raw) (wide : Bool) (hfl : 0 ≤ r.flag ∧ r.flag ≤ 255) (hnb : ∀ i, Bd (numAt r i)) (h : (makeOf r wide true).2 = 0) :
    (0 ≤ r.mark ∧ r.mark ≤ 2) ∧ GetW.getR (makeOf r wide true).1 = (backRaw r, 0) ∧ NumsBack r (makeOf r wide true).1 ∧ (makeOf r wide true).1.length = 512 ∧ Bytes (makeOf r wide true).1 := by
  obtain ⟨h1, h2, hk, hb, he⟩ := make_zero h
  rw [he]
  have hs : ∀ l : List Int, l.length = 512 → (sealOf (l.set 156 r.flag)).length = 512 := fun l hl => seal_len (by rw [List.length_set]; exact hl)
  have hby : Bytes (sealOf ((makeB r wide true).1.set 156 r.flag)) := seal_bytes (bytes_set (bytes_B r wide true) 156 r.flag hfl)
  by_cases h0 : r.mark = 0
  · obtain ⟨g1, g2, g3⟩ := back_old r wide h0 hk hfl hnb hb
    exact ⟨⟨h1, h2⟩, g1, g2, hs _ g3, hby⟩
  · obtain ⟨g1, g2, g3⟩ := back_late r wide (by omega) hk hfl hnb hb
    exact ⟨⟨h1, h2⟩, g1, g2, hs _ g3, hby⟩
theorem make_code (r : Raw) (wide dev : Bool) : 0 ≤ (makeOf r wide dev).2 ∧ (makeOf r wide dev).2 ≤ 255 := by
  have hp : ∀ (t : ByteArray) (s : Int), 0 ≤ (Txt.putOf t s).2 ∧ (Txt.putOf t s).2 ≤ 255 := by
    intro t s
    unfold Txt.putOf
    repeat' split
    all_goals simp
  have ht : ∀ (st : List Int × Int) (f s : Nat) (t : ByteArray), (0 ≤ st.2 ∧ st.2 ≤ 255) → 0 ≤ (mText st f s t).2 ∧ (mText st f s t).2 ≤ 255 := by
    intro st f s t h
    unfold mText
    repeat' split
    · simp
    · exact hp t s
    · exact h
  have hn : ∀ (st : List Int × Int) (f s : Nat) (a b : Int) (w : Bool), (0 ≤ st.2 ∧ st.2 ≤ 255) → 0 ≤ (mNum st f s a b w).2 ∧ (mNum st f s a b w).2 ≤ 255 := by
    intro st f s a b w h
    unfold mNum
    repeat' split
    · simp
    · simp
    · show 0 ≤ (putOf b s w).2 ∧ (putOf b s w).2 ≤ 255
      unfold putOf
      repeat' split
      all_goals simp
    · exact h
  have hA : 0 ≤ (makeA r wide).2 ∧ (makeA r wide).2 ≤ 255 := by
    unfold makeA
    exact ht _ _ _ _ (hn _ _ _ _ _ _ (hn _ _ _ _ _ _ (hn _ _ _ _ _ _ (hn _ _ _ _ _ _ (hn _ _ _ _ _ _ (ht _ _ _ _ (by simp)))))))
  have hL : ∀ st : List Int × Int, (0 ≤ st.2 ∧ st.2 ≤ 255) → 0 ≤ (lateOf st r wide dev).2 ∧ (lateOf st r wide dev).2 ≤ 255 := by
    intro st h
    have h1 := ht _ 297 32 r.group (ht st 265 32 r.user h)
    unfold lateOf
    dsimp only
    have h2 := hn _ 337 8 12 r.minor wide (hn _ 329 8 11 r.major wide h1)
    repeat' split
    · exact ht _ _ _ _ h2
    · exact ht _ _ _ _ h1
    · exact h2
    · exact h1
  have hB : 0 ≤ (makeB r wide dev).2 ∧ (makeB r wide dev).2 ≤ 255 := by
    unfold makeB
    dsimp only
    split
    · exact hA
    · split
      · exact hL _ hA
      · exact hL _ hA
  unfold makeOf
  dsimp only
  repeat' split
  · simp
  · simp
  · simp
  · exact hB
end Go.Proofs.YtoabboeongbloaaDoor.BackP
