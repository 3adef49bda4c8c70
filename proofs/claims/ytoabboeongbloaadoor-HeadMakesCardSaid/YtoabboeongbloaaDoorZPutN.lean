/- Numbers put into a field. -/
import Derived.Test.YtoabboeongbloaaDoorZPM
import Derived.Test.YtoabboeongbloaaDoorZMK
set_option linter.unusedVariables false
set_option linter.unusedSimpArgs false
namespace Go.Proofs.YtoabboeongbloaaDoor.PutN
open Go.RowKit Go.Proofs.YtoabboeongbloaaDoorW.PrintWords Go.Proofs.YtoabboeongbloaaDoorW.PrintLast Go.Proofs.YtoabboeongbloaaDoorW.PrintMore Go.Proofs.YtoabboeongbloaaDoor.PHeadGets Go.Proofs.YtoabboeongbloaaDoor.PM Go.Proofs.YtoabboeongbloaaDoor.NumP
theorem rmost_fin : ∀ w : Fin 33, oakumref01_Most.f 60 ((w.val : Nat) : Int) = some (mostOf w.val) := by decide +kernel
theorem rmost_ev (w : Nat) (h : w ≤ 32) : Ev (fun k => oakumref01_Most.f k (w : Int)) (mostOf w) := Ev.of (oakumref01_Most.mono _) (k := 60) (rmost_fin ⟨w, by omega⟩)
theorem rpower_fin : ∀ w : Fin 9, oakumref01_Power.f 60 256 ((w.val : Nat) : Int) = some (if w.val < 8 then 256 ^ w.val else 9223372036854775807) := by decide +kernel
theorem rpower_ev (w : Nat) (h : w ≤ 7) : Ev (fun k => oakumref01_Power.f k 256 (w : Int)) (256 ^ w) := by
  have := Ev.of (oakumref01_Power.mono 256 (w : Int)) (k := 60) (rpower_fin ⟨w, by omega⟩)
  rwa [if_pos (show w < 8 by omega)] at this
theorem digits_l0 (b : Int) (hb : 2 ≤ b) (hb2 : b ≤ 256) (w : Nat) (hw : w ≤ 40) : ∀ (m i : Nat) (n : Int) (B : List Int), i + m = w → B.length = i → 0 ≤ n → n ≤ 9223372036854775807 → Ev (fun k => oakumref01_digits.l0 k n b (w : Int) (List.replicate m 0 ++ B) (i : Int)) (digs b n m ++ B)
  | 0, i, n, B, hi, hB, h0, h1 => by
    refine Ev.step (fun k => oakumref01_digits.l0.eq_2 _ _ _ _ _ k) ?_
    simp only [if_neg (show ¬ (i : Int) < (w : Int) by omega), List.replicate_zero, List.nil_append]
    exact Ev.now _
  | m + 1, i, n, B, hi, hB, h0, h1 => by
    have hd0 : 0 ≤ n / b := Int.ediv_nonneg h0 (by omega)
    have hd1 : n / b ≤ n := Int.ediv_le_self b h0
    have ih := digits_l0 b hb hb2 w hw m (i + 1) (n / b) ((n % b) :: B) (by omega) (by rw [List.length_cons, hB]) hd0 (by omega)
    refine Ev.step (fun k => oakumref01_digits.l0.eq_2 _ _ _ _ _ k) ?_
    have e1 : wrap64 (wrap64 ((w : Int) - 1) - (i : Int)) = (m : Int) := by rw [w64 (n := (w : Int) - 1) (by omega) (by omega), w64 (by omega) (by omega)]; omega
    have e2 : wrap64 (Int.tdiv n b) = n / b := by rw [Int.tdiv_eq_ediv_of_nonneg h0, w64 (by omega) (by omega)]
    have hm0 := Int.emod_nonneg n (show b ≠ 0 by omega)
    have hm1 := Int.emod_lt_of_pos n (show 0 < b by omega)
    have e3 : Int.tmod n b % 256 = n % b := by rw [Int.tmod_eq_emod_of_nonneg h0]; omega
    simp only [if_pos (show (i : Int) < (w : Int) by omega), if_neg (show ¬ b = 0 by omega), e1, e2, e3, if_pos (show 0 ≤ (m : Int) by omega), zeros_len, if_pos (show (m : Int) < ((m + 1 + B.length : Nat) : Int) by omega), Int.toNat_natCast, set_zero, wadd1 i (by omega)]
    rw [digs, List.append_assoc]
    exact ih
theorem digits_ev (b n : Int) (hb : 2 ≤ b) (hb2 : b ≤ 256) (w : Nat) (hw : w ≤ 40) (h0 : 0 ≤ n) (h1 : n ≤ 9223372036854775807) : Ev (fun k => oakumref01_digits.f k n b (w : Int)) (digs b n w) := by
  unfold oakumref01_digits.f
  simp only [if_pos (show 0 ≤ (w : Int) by omega), Int.toNat_natCast, if_pos (show w ≤ 281474976710656 by omega)]
  have := digits_l0 b hb hb2 w hw w 0 n [] (by omega) rfl h0 h1
  rw [List.append_nil, List.append_nil] at this
  exact this
theorem set_mid (A B : List Int) (x v : Int) (i : Nat) (h : A.length = i) : (A ++ x :: B).set i v = (A ++ [v]) ++ B := by
  rw [List.set_append_right _ _ (by omega), h, Nat.sub_self, List.set_cons_zero, List.append_assoc]
  rfl
theorem rd_mid (A B : List Int) (x : Int) (i : Nat) (h : A.length = i) : rd (A ++ x :: B) (i : Int) = x := by
  unfold rd
  rw [Int.toNat_natCast, List.getD_eq_getElem?_getD, List.getElem?_append_right (by omega), h, Nat.sub_self]
  rfl
theorem rput_l0 (w k8 : Nat) (hw : w ≤ 40) (hk : k8 ≤ 40) : ∀ (B A : List Int), A.length + B.length = k8 → (∀ x ∈ B, 0 ≤ x ∧ x ≤ 9) → Ev (fun k => oakumref01_Put.l0 k (w : Int) (k8 : Int) (A ++ B) (A.length : Int)) (if k8 < w then A ++ B.map (· + 48) ++ [0] else A ++ B.map (· + 48), 0)
  | [], A, hl, hB => by
    simp only [List.length_nil, Nat.add_zero] at hl
    refine Ev.step (fun k => oakumref01_Put.l0.eq_2 _ _ _ _ k) ?_
    simp only [if_neg (show ¬ (A.length : Int) < (k8 : Int) by omega), List.append_nil, List.map_nil]
    by_cases hw : k8 < w
    · simp only [if_pos (show (k8 : Int) < (w : Int) by omega), if_pos hw, if_pos (show A.length < 140737488355328 by omega)]
      exact Ev.now _
    · simp only [if_neg (show ¬ (k8 : Int) < (w : Int) by omega), if_neg hw]
      exact Ev.now _
  | x :: B, A, hl, hB => by
    have hx := hB x List.mem_cons_self
    have hlen : (A ++ x :: B).length = A.length + (B.length + 1) := by rw [List.length_append, List.length_cons]
    rw [List.length_cons] at hl
    have ih := rput_l0 w k8 hw hk B (A ++ [x + 48]) (by rw [List.length_append]; simp; omega) (fun y hy => hB y (List.mem_cons_of_mem _ hy))
    refine Ev.step (fun k => oakumref01_Put.l0.eq_2 _ _ _ _ k) ?_
    simp only [if_pos (show (A.length : Int) < (k8 : Int) by omega), if_pos (show 0 ≤ (A.length : Int) by omega), hlen, if_pos (show (A.length : Int) < ((A.length + (B.length + 1) : Nat) : Int) by omega), Int.toNat_natCast, rd_mid A B x A.length rfl, set_mid A B x _ A.length rfl, show (x + 48) % 256 = x + 48 by omega, wadd1 A.length (by omega)]
    have e1 : (A ++ [x + 48]).length = A.length + 1 := by rw [List.length_append]; rfl
    rw [e1] at ih
    have e2 : A ++ (x :: B).map (· + 48) = A ++ [x + 48] ++ B.map (· + 48) := by simp
    rw [e2]
    exact ih
theorem digs_bd (b : Int) (hb : 2 ≤ b) : ∀ (w : Nat) (n : Int), ∀ x ∈ digs b n w, 0 ≤ x ∧ x < b
  | 0, n, x, h => by simp [digs] at h
  | w + 1, n, x, h => by
    unfold digs at h
    rcases List.mem_append.1 h with h | h
    · exact digs_bd b hb w _ x h
    · rw [List.mem_singleton] at h
      subst h
      exact ⟨Int.emod_nonneg n (by omega), Int.emod_lt_of_pos n (by omega)⟩
theorem rput_j2 (n : Int) (w k8 : Nat) (hw : w ≤ 32) (hk : k8 ≤ 32) (h0 : 0 ≤ n) (h1 : n ≤ 9223372036854775807) : Ev (fun k => oakumref01_Put.j2 k n (w : Int) (k8 : Int)) (if k8 < w then oct n k8 ++ [0] else oct n k8, 0) := by
  refine Ev.step (fun k => oakumref01_Put.j2.eq_2 _ _ _ k) ?_
  refine Ev.bind (digits_ev 8 n (by omega) (by omega) k8 (by omega) h0 h1) ?_
  have := rput_l0 w k8 (by omega) (by omega) (digs 8 n k8) [] (by rw [digs_len]; simp) (fun x hx => by have := digs_bd 8 (by omega) k8 n x hx; omega)
  simp only [List.nil_append] at this
  exact this
/-- The other sides. -/
theorem digs_neg : ∀ (w : Nat) (n : Int), (digs 256 (-n - 1) w).map (fun x => 255 - x) = digs 256 n w
  | 0, _ => rfl
  | w + 1, n => by
    unfold digs
    rw [List.map_append, show (-n - 1) / 256 = -(n / 256) - 1 by omega, digs_neg w]
    congr 1
    simp only [List.map_cons, List.map_nil]
    congr 1
    omega
theorem rput_l1_neg (n : Int) (hn : n < 0) (w : Nat) (hw : w ≤ 40) : ∀ (B A : List Int), A.length + B.length = w → 0 < w → (∀ x ∈ B, 0 ≤ x ∧ x ≤ 255) → Ev (fun k => oakumref01_Put.l1 k n (w : Int) (A ++ B) (A.length : Int)) ((A ++ B.map (fun x => 255 - x)).set 0 255, 0)
  | [], A, hl, h0, hB => by
    simp only [List.length_nil, Nat.add_zero] at hl
    refine Ev.step (fun k => oakumref01_Put.l1.eq_2 _ _ _ _ k) ?_
    simp only [if_neg (show ¬ (A.length : Int) < (w : Int) by omega), List.append_nil, List.map_nil, if_pos hn, if_pos (show 0 < (A.length : Int) by omega)]
    exact Ev.now _
  | x :: B, A, hl, h0, hB => by
    have hx := hB x List.mem_cons_self
    have hlen : (A ++ x :: B).length = A.length + (B.length + 1) := by rw [List.length_append, List.length_cons]
    rw [List.length_cons] at hl
    have ih := rput_l1_neg n hn w hw B (A ++ [255 - x]) (by rw [List.length_append]; simp; omega) h0 (fun y hy => hB y (List.mem_cons_of_mem _ hy))
    refine Ev.step (fun k => oakumref01_Put.l1.eq_2 _ _ _ _ k) ?_
    simp only [if_pos (show (A.length : Int) < (w : Int) by omega), if_pos hn, if_pos (show 0 ≤ (A.length : Int) by omega), hlen, if_pos (show (A.length : Int) < ((A.length + (B.length + 1) : Nat) : Int) by omega), Int.toNat_natCast, rd_mid A B x A.length rfl, set_mid A B x _ A.length rfl, show (255 - x) % 256 = 255 - x by omega, wadd1 A.length (by omega)]
    have e1 : (A ++ [255 - x]).length = A.length + 1 := by rw [List.length_append]; rfl
    rw [e1] at ih
    have e2 : A ++ (x :: B).map (fun x => 255 - x) = A ++ [255 - x] ++ B.map (fun x => 255 - x) := by simp
    rw [e2]
    exact ih
theorem rput_j5 (n : Int) (w : Nat) (h2 : 2 ≤ w) (hw : w ≤ 32) (h0 : -9223372036854775808 ≤ n) (h1 : n ≤ 9223372036854775807) : Ev (fun k => oakumref01_Put.j5 k n (w : Int) (if n < 0 then -n - 1 else n) false) ((if n < 0 then 255 else 128) :: digs 256 n (w - 1), 0) := by
  have hp : wrap64 ((w : Int) - 1) = ((w - 1 : Nat) : Int) := wsub1 w (by omega) (by omega)
  refine Ev.step (fun k => oakumref01_Put.j5.eq_2 _ _ _ _ k) ?_
  simp only [if_neg Bool.false_ne_true, Option.bind_some, hp]
  by_cases hn : n < 0
  · simp only [if_pos hn]
    refine Ev.bind (digits_ev 256 (-n - 1) (by omega) (by omega) (w - 1) (by omega) (by omega) (by omega)) ?_
    simp only [digs_len, List.length_cons, List.length_nil, if_pos (show 0 + 1 + (w - 1) < 140737488355328 by omega)]
    have := rput_l1_neg n hn w (by omega) ([128] ++ digs 256 (-n - 1) (w - 1)) [] (by rw [List.length_append, digs_len]; simp; omega) (by omega) (fun x hx => by
      rcases List.mem_append.1 hx with hx | hx
      · simp at hx; omega
      · have := digs_bd 256 (by omega) _ _ x hx; omega)
    rw [List.map_append, digs_neg] at this
    exact this
  · simp only [if_neg hn]
    refine Ev.bind (digits_ev 256 n (by omega) (by omega) (w - 1) (by omega) (by omega) (by omega)) ?_
    simp only [digs_len, List.length_cons, List.length_nil, if_pos (show 0 + 1 + (w - 1) < 140737488355328 by omega)]
    refine Ev.step (fun k => oakumref01_Put.l1.eq_2 _ _ _ _ k) ?_
    simp only [if_pos (show (0 : Int) < (w : Int) by omega), if_neg hn]
    exact Ev.now _
theorem most_le : ∀ w : Fin 33, mostOf (w.val - 1) ≤ mostOf w.val := by decide +kernel
theorem rput_ev (n : Int) (w : Nat) (wide : Bool) (h2 : 2 ≤ w) (h : w ≤ 32) (h0 : -9223372036854775808 ≤ n) (h1 : n ≤ 9223372036854775807) : Ev (fun k => oakumref01_Put.f k n (w : Int) wide) (putOf n w wide) := by
  have hp : wrap64 ((w : Int) - 1) = ((w - 1 : Nat) : Int) := wsub1 w (by omega) (by omega)
  have hle : mostOf (w - 1) ≤ mostOf w := most_le ⟨w, by omega⟩
  have hsz : (if n < 0 then wrap64 (-(wrap64 (n + 1))) else n) = (if n < 0 then -n - 1 else n) := by
    by_cases hn : n < 0
    · rw [if_pos hn, if_pos hn, w64 (n := n + 1) (by omega) (by omega), w64 (by omega) (by omega)]; omega
    · rw [if_neg hn, if_neg hn]
  have hj4 : ¬ (0 ≤ n ∧ n ≤ mostOf w) → Ev (fun k => oakumref01_Put.j4 k n (w : Int) wide (if n < 0 then -n - 1 else n)) (putOf n w wide) := by
    intro hno
    have hpo : putOf n w wide = if wide = true ∧ fitsB n w = true then ((if n < 0 then 255 else 128) :: digs 256 n (w - 1), 0) else ([], 5) := by
      unfold putOf
      rw [if_neg (fun x => hno ⟨x.1, by omega⟩), if_neg hno]
    rw [hpo]
    have hbad : Ev (fun k => oakumref01_Put.j5 k n (w : Int) (if n < 0 then -n - 1 else n) true) ([], 5) := by
      refine Ev.step (fun k => oakumref01_Put.j5.eq_2 _ _ _ _ k) ?_
      simp only [if_true]
      exact Ev.now _
    refine Ev.step (fun k => oakumref01_Put.j4.eq_2 _ _ _ _ k) ?_
    cases wide with
    | false =>
      simp only [if_neg Bool.false_ne_true, false_and, if_false, Bool.false_eq_true]
      exact hbad
    | true =>
      simp only [if_true, true_and]
      by_cases h8 : 8 < w
      · have hf : fitsB n w = true := by unfold fitsB; rw [decide_eq_true h8]; rfl
        simp only [if_neg (show ¬ (w : Int) < 9 by omega), hf, if_true]
        exact rput_j5 n w h2 h h0 h1
      · simp only [if_pos (show (w : Int) < 9 by omega), hp]
        refine Ev.bind (rpower_ev (w - 1) (by omega)) ?_
        have hf : fitsB n w = (decide (-(256 ^ (w - 1)) ≤ n) && decide (n < 256 ^ (w - 1))) := by unfold fitsB; rw [decide_eq_false h8, Bool.false_or]
        have hpos : (0 : Int) < 256 ^ (w - 1) := Int.pow_pos (by omega)
        rw [hf]
        generalize (256 : Int) ^ (w - 1) = P at hpos
        by_cases hge : (if n < 0 then -n - 1 else n) ≥ P
        · simp only [decide_eq_true hge]
          have : (decide (-P ≤ n) && decide (n < P)) = false := by
            rw [Bool.and_eq_false_iff, decide_eq_false_iff_not, decide_eq_false_iff_not]
            split at hge <;> omega
          rw [this]
          simp only [if_neg Bool.false_ne_true]
          exact hbad
        · simp only [decide_eq_false hge]
          have : (decide (-P ≤ n) && decide (n < P)) = true := by
            rw [Bool.and_eq_true, decide_eq_true_eq, decide_eq_true_eq]
            split at hge <;> omega
          rw [this]
          simp only [if_true]
          exact rput_j5 n w h2 h h0 h1
  have hj1 : ¬ (0 ≤ n ∧ n ≤ mostOf w) → Ev (fun k => oakumref01_Put.j1 k n (w : Int) wide false) (putOf n w wide) := by
    intro hno
    have := hj4 hno
    refine Ev.step (fun k => oakumref01_Put.j1.eq_2 _ _ _ _ k) ?_
    simp only [if_neg Bool.false_ne_true]
    rw [← hsz] at this
    by_cases hn : n < 0
    · simp only [if_pos hn] at this ⊢; exact this
    · simp only [if_neg hn] at this ⊢; exact this
  unfold oakumref01_Put.f
  simp only [if_neg (show ¬ (w : Int) < 2 by omega), decide_eq_false (show ¬ (w : Int) > 32 by omega)]
  refine Ev.step (fun k => oakumref01_Put.j0.eq_2 _ _ _ _ k) ?_
  simp only [if_neg Bool.false_ne_true]
  by_cases hn : 0 ≤ n
  · simp only [if_pos (show n ≥ 0 from hn)]
    refine Ev.bind (rmost_ev w h) ?_
    by_cases hm : n ≤ mostOf w
    · simp only [decide_eq_true hm]
      refine Ev.step (fun k => oakumref01_Put.j1.eq_2 _ _ _ _ k) ?_
      simp only [if_true, hp]
      refine Ev.bind (rmost_ev (w - 1) (by omega)) ?_
      unfold putOf
      by_cases hm1 : n ≤ mostOf (w - 1)
      · simp only [if_pos hm1, if_pos (show 0 ≤ n ∧ n ≤ mostOf (w - 1) from ⟨hn, hm1⟩)]
        have := rput_j2 n w (w - 1) h (by omega) hn h1
        rw [if_pos (by omega)] at this
        exact this
      · simp only [if_neg hm1, if_neg (show ¬ (0 ≤ n ∧ n ≤ mostOf (w - 1)) from fun x => hm1 x.2), if_pos (show 0 ≤ n ∧ n ≤ mostOf w from ⟨hn, hm⟩)]
        have := rput_j2 n w w h h hn h1
        rw [if_neg (by omega)] at this
        exact this
    · simp only [decide_eq_false hm]
      exact hj1 (fun x => hm x.2)
  · simp only [if_neg (show ¬ n ≥ 0 from hn)]
    exact hj1 (fun x => hn x.1)
theorem put_code (n : Int) (w : Nat) (wide : Bool) : (putOf n w wide).2 = 0 ∨ (putOf n w wide).2 = 5 := by
  unfold putOf
  split
  · exact .inl rfl
  · split
    · exact .inl rfl
    · split
      · exact .inl rfl
      · exact .inr rfl
end Go.Proofs.YtoabboeongbloaaDoor.PutN
