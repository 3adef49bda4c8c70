/- The law TextQuotes over lists and numbers: for every text the printed function of the law comes to true; no condition beyond the text reach. -/
import Derived.Test.YthojbddpfpgnhaaPTextQuotesx3
set_option linter.unusedVariables false
set_option linter.unusedSimpArgs false
namespace Go.Proofs.Ythojbddpfpgnhaa.Pure
open Go.RowKit Go.Proofs.Ythojbddpfpgnhaa.PTextQuotes Go.Proofs.YthojbddpfpgnhaaW.PrintWords Go.Proofs.YthojbddpfpgnhaaW.PrintLast Go.Proofs.YthojbddpfpgnhaaW.PrintMore

/-! ### Small words: numbers that fit, rounds, bytes of a cut -/
theorem w64 {n : Int} (h0 : -9223372036854775808 ≤ n) (h1 : n ≤ 9223372036854775807) : wrap64 n = n := by unfold wrap64; omega
theorem bt_nonneg (s : ByteArray) (i : Int) : 0 ≤ bt s i := (bt_range s i).1
theorem bt_le (s : ByteArray) (i : Int) : bt s i ≤ 255 := (bt_range s i).2
theorem bt_nat (s : ByteArray) (n : Nat) (h : n < s.size) : bt s (n : Int) = ((s[n]'h).toNat : Int) := by simp [bt, h]
theorem bt_out (s : ByteArray) (i : Int) (h : s.size ≤ i.toNat) : bt s i = 0 := by unfold bt; rw [dif_neg (by omega)]
theorem bt_extract (s : ByteArray) (m n : Nat) (i : Nat) (hi : m + i < n) (hn : n ≤ s.size) : bt (s.extract m n) (i : Int) = bt s ((m + i : Nat) : Int) := by
  have h1 : i < (s.extract m n).size := by rw [ByteArray.size_extract]; omega
  rw [bt_nat _ _ h1, bt_nat _ _ (by omega)]
  rw [ByteArray.getElem_extract]
theorem bytes_ext {a b : ByteArray} (hs : a.size = b.size) (h : ∀ i : Nat, i < a.size → bt a (i : Int) = bt b (i : Int)) : a = b := by
  apply ByteArray.ext_getElem hs
  intro i h1 h2
  have := h i h1
  rw [bt_nat _ _ h1, bt_nat _ _ h2] at this
  exact UInt8.toNat_inj.1 (by omega)
theorem toList_eq_nil (s : ByteArray) : s.toList = ([] : List UInt8) ↔ s.size = 0 := by
  rw [ByteArray.toList_eq]
  constructor
  · intro h
    have : s.data.toList.length = 0 := by rw [h]; rfl
    rwa [data_length] at this
  · intro h
    apply List.eq_nil_of_length_eq_zero
    rwa [data_length]
theorem toList_inj {a b : ByteArray} : a.toList = b.toList ↔ a = b := by
  constructor
  · intro h
    rw [ByteArray.toList_eq, ByteArray.toList_eq] at h
    exact ByteArray.ext (Array.toList_inj.1 h)
  · intro h; rw [h]
theorem wf_i64_bd {n : Int} (h : (Lit.int .i64 n).wf = true) : -9223372036854775808 ≤ n ∧ n ≤ 9223372036854775807 := by
  simp [Lit.wf, IntKind.min, IntKind.max, IntKind.signed, IntKind.bits] at h
  omega
theorem wf_u8_bd {n : Int} (h : (Lit.int .u8 n).wf = true) : 0 ≤ n ∧ n ≤ 255 := by
  simp [Lit.wf, IntKind.min, IntKind.max, IntKind.signed, IntKind.bits] at h
  omega
/-- Sums that fit (no equation with a wrap stays in a context: linear arithmetic would look into it). -/
theorem wadd1 (n : Nat) (h : n < 9223372036854775807) : wrap64 ((n : Int) + 1) = ((n + 1 : Nat) : Int) := by rw [w64 (by omega) (by omega)]; omega
theorem wadd4 (n : Nat) (h : n < 9223372036854775803) : wrap64 ((n : Int) + 4) = ((n + 4 : Nat) : Int) := by rw [w64 (by omega) (by omega)]; omega
theorem wsub1 (n : Nat) (h0 : 0 < n) (h : n < 9223372036854775807) : wrap64 ((n : Int) - 1) = ((n - 1 : Nat) : Int) := by rw [w64 (by omega) (by omega)]; omega

theorem alive_ev : Ev (fun k => oakumlaw02_alive.f k) true := Ev.of oakumlaw02_alive.mono (k := 40) (by decide +kernel)

/-! ### Texts as lists of bytes: what unquotes -/
theorem bytesOf_data (l : List UInt8) : bytesOf (⟨l.toArray⟩ : ByteArray) = l.map fun b => (b.toNat : Int) := rfl
theorem bytesOf_range (s : ByteArray) : ∀ b ∈ bytesOf s, 0 ≤ b ∧ b ≤ 255 := by
  intro b hb
  unfold bytesOf at hb
  obtain ⟨x, _, rfl⟩ := List.mem_map.1 hb
  have := x.toNat_lt
  omega
theorem bytesOf_extract (s : ByteArray) (a n : Nat) (hn : s.size ≤ n) : bytesOf (s.extract a n) = (bytesOf s).drop a := by
  unfold bytesOf
  rw [Lib.extract_data, List.take_of_length_le (by rw [List.length_drop, data_length]; omega), List.map_drop]
theorem bt_cons {s : ByteArray} {l : List Int} (h : bytesOf s = l) (i : Nat) : bt s (i : Int) = l.getD i 0 := by
  rw [← rd_bytesOf, h]
  unfold rd
  simp
theorem strOfNums_bytesOf (s : ByteArray) : strOfNums (bytesOf s) = s := by
  unfold strOfNums bytesOf
  apply ByteArray.ext
  apply Array.ext'
  rw [List.map_map]
  conv => rhs; rw [← List.map_id s.data.toList]
  apply List.map_congr_left
  intro b _
  simp
theorem bytesOf_inj {s t : ByteArray} (h : bytesOf s = bytesOf t) : s = t := by rw [← strOfNums_bytesOf s, h, strOfNums_bytesOf]
theorem bytesOf_strOfNums (l : List Int) (h : ∀ b ∈ l, 0 ≤ b ∧ b ≤ 255) : bytesOf (strOfNums l) = l := by
  unfold strOfNums
  rw [bytesOf_data, List.map_map]
  conv => rhs; rw [← List.map_id l]
  apply List.map_congr_left
  intro b hb
  have := h b hb
  simp only [Function.comp, id]
  rw [UInt8.toNat_ofNat']
  omega
/-- May a byte stand as it is? -/
def openI (c : Int) : Bool := decide (32 < c ∧ c < 127 ∧ c ≠ 92)
theorem open_eq (c : Int) : text_open.f c = some (openI c) := by
  unfold text_open.f openI
  by_cases h1 : c > 32
  · rw [if_pos h1]
    by_cases h2 : c < 127
    · rw [if_pos h2]
      by_cases h3 : c = 92
      · subst h3; rfl
      · rw [decide_eq_true (by omega), bne_iff_ne.2 h3]
    · rw [if_neg h2, decide_eq_false (by omega)]
  · rw [if_neg h1, decide_eq_false (by omega)]
theorem digit_eq (c : Int) : text_digit.f c = some (decide (48 ≤ c ∧ c ≤ 55)) := by
  unfold text_digit.f
  by_cases h1 : c ≥ 48
  · rw [if_pos h1]
    congr 1
    simp only [decide_eq_decide]
    omega
  · rw [if_neg h1, decide_eq_false (by omega)]
/-- Do these four bytes tell a byte that may not stand as it is? -/
def isEsc (b d1 d2 d3 : Int) : Prop := b = 92 ∧ 48 ≤ d1 ∧ d1 ≤ 51 ∧ 48 ≤ d2 ∧ d2 ≤ 55 ∧ 48 ≤ d3 ∧ d3 ≤ 55 ∧ openI ((d1 - 48) * 64 + (d2 - 48) * 8 + (d3 - 48)) = false
instance (b d1 d2 d3 : Int) : Decidable (isEsc b d1 d2 d3) := by unfold isEsc; infer_instance
/-- The unquoted bytes, if they are. -/
def unq : Nat → List Int → Option (List Int)
  | 0, _ => some []
  | _ + 1, [] => some []
  | n + 1, b :: r => if openI b = true then (unq n r).map (b :: ·) else
    if r.length < 3 then none else if isEsc b (r.getD 0 0) (r.getD 1 0) (r.getD 2 0) then (unq n (r.drop 3)).map (((r.getD 0 0 - 48) * 64 + (r.getD 1 0 - 48) * 8 + (r.getD 2 0 - 48)) :: ·) else none
theorem unq_len : ∀ n l r, unq n l = some r → l.length ≤ n → r.length ≤ l.length
  | 0, l, r, h, _ => by simp [unq] at h; subst h; simp
  | n + 1, [], r, h, _ => by simp [unq] at h; subst h; simp
  | n + 1, b :: l, r, h, hn => by
    unfold unq at h
    simp only [List.length_cons] at hn
    split at h
    · obtain ⟨q, hq, rfl⟩ := Option.map_eq_some_iff.1 h
      have := unq_len n l q hq (by omega)
      simp; omega
    · split at h
      · cases h
      · split at h
        · obtain ⟨q, hq, rfl⟩ := Option.map_eq_some_iff.1 h
          have := unq_len n (l.drop 3) q hq (by simp; omega)
          simp at this ⊢; omega
        · cases h
/-- What both ways tell. -/
def told {α : Type} (acc : List Int) (u : Option (List Int)) (yes no : α) : ByteArray × α := match u with
  | some l => (strOfNums (acc ++ l), yes)
  | none => (⟨#[]⟩, no)
theorem or_and (d1 d2 d3 : Int) (h1 : 48 ≤ d1 ∧ d1 ≤ 51) (h2 : 48 ≤ d2 ∧ d2 ≤ 55) (h3 : 48 ≤ d3 ∧ d3 ≤ 55) :
    Go.bits .or .u8 (Go.bits .or .u8 (((Go.bits .and .u8 d1 7) * 64) % 256) (((Go.bits .and .u8 d2 7) * 8) % 256)) (Go.bits .and .u8 d3 7) = (d1 - 48) * 64 + (d2 - 48) * 8 + (d3 - 48) := by
  have key : ∀ a : Fin 4, ∀ b : Fin 8, ∀ c : Fin 8, Go.bits .or .u8 (Go.bits .or .u8 (((Go.bits .and .u8 (48 + (a.val : Int)) 7) * 64) % 256) (((Go.bits .and .u8 (48 + (b.val : Int)) 7) * 8) % 256)) (Go.bits .and .u8 (48 + (c.val : Int)) 7) = (a.val : Int) * 64 + (b.val : Int) * 8 + (c.val : Int) := by decide +kernel
  have := key ⟨(d1 - 48).toNat, by omega⟩ ⟨(d2 - 48).toNat, by omega⟩ ⟨(d3 - 48).toNat, by omega⟩
  simp only [Int.toNat_of_nonneg (show 0 ≤ d1 - 48 by omega), Int.toNat_of_nonneg (show 0 ≤ d2 - 48 by omega), Int.toNat_of_nonneg (show 0 ≤ d3 - 48 by omega)] at this
  rw [show 48 + (d1 - 48) = d1 by omega, show 48 + (d2 - 48) = d2 by omega, show 48 + (d3 - 48) = d3 by omega] at this
  exact this
theorem unquote_l0 : ∀ (n : Nat) (s : ByteArray) (acc : List Int), s.size ≤ n → n ≤ 100000 → acc.length + n ≤ 100000 → Ev (fun k => text_Unquote.l0 k s acc) (told acc (unq n (bytesOf s)) 0 15)
  | 0, s, acc, hs, _, _ => by
    refine Ev.step (fun k => text_Unquote.l0.eq_2 ..) ?_
    simp only [if_neg (show ¬ (s.size : Int) > 0 by omega), unq, told, List.append_nil]
    exact Ev.now _
  | n + 1, s, acc, hs, hn, ha => by
    refine Ev.step (fun k => text_Unquote.l0.eq_2 ..) ?_
    have hl := bytesOf_length s
    cases hb : bytesOf s with
    | nil =>
      rw [hb] at hl
      simp only [List.length_nil] at hl
      simp only [if_neg (show ¬ (s.size : Int) > 0 by omega), unq, told, List.append_nil]
      exact Ev.now _
    | cons b r =>
      rw [hb, List.length_cons] at hl
      have f0 : bt s 0 = b := by have := bt_cons hb 0; simpa using this
      have f1 : bt s 1 = r.getD 0 0 := by have := bt_cons hb 1; simpa using this
      have f2 : bt s 2 = r.getD 1 0 := by have := bt_cons hb 2; simpa using this
      have f3 : bt s 3 = r.getD 2 0 := by have := bt_cons hb 3; simpa using this
      simp only [if_pos (show (s.size : Int) > 0 by omega), if_pos (show (0 : Int) < (s.size : Int) by omega), open_eq, Option.bind_some, f0, f1, f2, f3, digit_eq]
      unfold unq
      by_cases ho : openI b = true
      · simp only [if_pos ho, if_pos (show acc.length < 140737488355328 by omega), if_pos (show (1 : Int) ≤ (s.size : Int) by omega)]
        have ih := unquote_l0 n (s.extract 1 s.size) (acc ++ [b]) (by rw [ByteArray.size_extract]; omega) (by omega) (by simp; omega)
        rw [bytesOf_extract s 1 s.size (Nat.le_refl _), hb] at ih
        simp only [List.drop_succ_cons, List.drop_zero] at ih
        have e : told (acc ++ [b]) (unq n r) (0 : Int) 15 = told acc (Option.map (b :: ·) (unq n r)) 0 15 := by cases unq n r <;> simp [told]
        rw [← e]; exact ih
      · simp only [if_neg ho]
        have no : Ev (fun k => text_Unquote.j1 k s acc true) ((⟨#[]⟩ : ByteArray), (15 : Int)) := by
          refine Ev.step (fun k => text_Unquote.j1.eq_2 ..) ?_
          simp only [if_true]
          exact Ev.now _
        by_cases h92 : b = 92
        · simp only [if_pos h92]
          by_cases h4 : (s.size : Int) < 4
          · simp only [if_pos h4, if_pos (show r.length < 3 by omega)]
            exact no
          · simp only [if_neg h4, if_neg (show ¬ r.length < 3 by omega), if_pos (show (1 : Int) < (s.size : Int) by omega), if_pos (show (2 : Int) < (s.size : Int) by omega), if_pos (show (3 : Int) < (s.size : Int) by omega)]
            by_cases hd1 : r.getD 0 0 > 51
            · simp only [if_pos hd1, if_neg (show ¬ isEsc b (r.getD 0 0) (r.getD 1 0) (r.getD 2 0) by unfold isEsc; omega)]
              exact no
            · simp only [if_neg hd1]
              by_cases hd1' : 48 ≤ r.getD 0 0 ∧ r.getD 0 0 ≤ 55
              · simp only [decide_eq_true hd1', if_true]
                by_cases hd2 : 48 ≤ r.getD 1 0 ∧ r.getD 1 0 ≤ 55
                · simp only [decide_eq_true hd2, if_true]
                  by_cases hd3 : 48 ≤ r.getD 2 0 ∧ r.getD 2 0 ≤ 55
                  · simp only [decide_eq_true hd3, Bool.not_true]
                    refine Ev.step (fun k => text_Unquote.j1.eq_2 ..) ?_
                    simp only [Bool.false_eq_true, if_false, if_pos (show (1 : Int) < (s.size : Int) by omega), if_pos (show (2 : Int) < (s.size : Int) by omega), if_pos (show (3 : Int) < (s.size : Int) by omega), f1, f2, f3, open_eq, Option.bind_some, or_and _ _ _ (show 48 ≤ r.getD 0 0 ∧ r.getD 0 0 ≤ 51 by omega) hd2 hd3]
                    by_cases hoc : openI ((r.getD 0 0 - 48) * 64 + (r.getD 1 0 - 48) * 8 + (r.getD 2 0 - 48)) = true
                    · simp only [if_pos hoc, if_neg (show ¬ isEsc b (r.getD 0 0) (r.getD 1 0) (r.getD 2 0) by unfold isEsc; rw [hoc]; simp)]
                      exact Ev.now _
                    · have hoc' : openI ((r.getD 0 0 - 48) * 64 + (r.getD 1 0 - 48) * 8 + (r.getD 2 0 - 48)) = false := by simpa using hoc
                      simp only [if_neg hoc, if_pos (show isEsc b (r.getD 0 0) (r.getD 1 0) (r.getD 2 0) from ⟨h92, by omega, by omega, hd2.1, hd2.2, hd3.1, hd3.2, hoc'⟩), if_pos (show acc.length < 140737488355328 by omega), if_pos (show (4 : Int) ≤ (s.size : Int) by omega)]
                      have ih := unquote_l0 n (s.extract 4 s.size) (acc ++ [(r.getD 0 0 - 48) * 64 + (r.getD 1 0 - 48) * 8 + (r.getD 2 0 - 48)]) (by rw [ByteArray.size_extract]; omega) (by omega) (by simp; omega)
                      rw [bytesOf_extract s 4 s.size (Nat.le_refl _), hb] at ih
                      simp only [List.drop_succ_cons] at ih
                      generalize (r.getD 0 0 - 48) * 64 + (r.getD 1 0 - 48) * 8 + (r.getD 2 0 - 48) = c at ih
                      have e : told (acc ++ [c]) (unq n (r.drop 3)) (0 : Int) 15 = told acc (Option.map (c :: ·) (unq n (r.drop 3))) 0 15 := by cases unq n (r.drop 3) <;> simp [told]
                      rw [← e]; exact ih
                  · simp only [decide_eq_false hd3, Bool.not_false, if_neg (show ¬ isEsc b (r.getD 0 0) (r.getD 1 0) (r.getD 2 0) by unfold isEsc; omega)]
                    exact no
                · simp only [decide_eq_false hd2, Bool.false_eq_true, if_false, if_neg (show ¬ isEsc b (r.getD 0 0) (r.getD 1 0) (r.getD 2 0) by unfold isEsc; omega)]
                  exact no
              · simp only [decide_eq_false hd1', Bool.false_eq_true, if_false, if_neg (show ¬ isEsc b (r.getD 0 0) (r.getD 1 0) (r.getD 2 0) by unfold isEsc; omega)]
                exact no
        · simp only [if_neg h92, if_neg (show ¬ isEsc b (r.getD 0 0) (r.getD 1 0) (r.getD 2 0) from fun h => h92 h.1)]
          have e : told acc (if r.length < 3 then none else (none : Option (List Int))) (0 : Int) 15 = (⟨#[]⟩, 15) := by split <;> rfl
          rw [e]; exact no
theorem unquote_ev (s : ByteArray) (hs : s.size ≤ 10000) : Ev (fun k => text_Unquote.f k s) (told [] (unq s.size (bytesOf s)) 0 15) := by
  unfold text_Unquote.f
  exact unquote_l0 s.size s [] (Nat.le_refl _) (by omega) (by simp; omega)

/-! ### The document's way to quote and to unquote -/
theorem refopen_eq (c : Int) : oakumref02_open.f c = some (openI c) := by
  unfold oakumref02_open.f openI
  by_cases h1 : c ≥ 33
  · rw [if_pos h1]
    by_cases h2 : c ≤ 126
    · rw [if_pos h2]
      by_cases h3 : c = 92
      · subst h3; rfl
      · rw [decide_eq_true (by omega), bne_iff_ne.2 h3]
    · rw [if_neg h2, decide_eq_false (by omega)]
  · rw [if_neg h1, decide_eq_false (by omega)]
/-- The four bytes of a byte that may not stand as it is. -/
def codeI (c : Int) : List Int := [92, 48 + c / 64, 48 + c / 8 % 8, 48 + c % 8]
theorem code_eq (c : Int) (h0 : 0 ≤ c) (h1 : c ≤ 255) : oakumref02_code.f c = some (strOfNums (codeI c)) := by
  unfold oakumref02_code.f codeI
  rw [Int.tdiv_eq_ediv_of_nonneg h0, Int.tdiv_eq_ediv_of_nonneg h0, Int.tmod_eq_emod_of_nonneg h0, show (48 + c / 64 % 256) % 256 = 48 + c / 64 by omega, show 48 + c / 8 % 256 % 8 = 48 + c / 8 % 8 by omega, show (48 + c % 8) % 256 = 48 + c % 8 by omega]
theorem codeI_range (c : Int) (h0 : 0 ≤ c) (h1 : c ≤ 255) : ∀ b ∈ codeI c, 0 ≤ b ∧ b ≤ 255 := by
  intro b hb
  simp only [codeI, List.mem_cons, List.not_mem_nil, or_false] at hb
  omega
theorem quoteByte_code (b : UInt8) (h : openI (b.toNat : Int) = false) : strOfNums (codeI (b.toNat : Int)) = ⟨(Go.Proofs.Ythojbddpfpgnhaa.Hand.quoteByte b).toArray⟩ := by
  have hb := b.toNat_lt
  apply bytesOf_inj
  rw [bytesOf_strOfNums _ (codeI_range _ (by omega) (by omega)), bytesOf_data]
  unfold Go.Proofs.Ythojbddpfpgnhaa.Hand.quoteByte
  rw [if_neg (by show ¬ openI (b.toNat : Int) = true; rw [h]; decide)]
  have f1 : (48 + b / 64 : UInt8).toNat = (48 + b.toNat / 64) % 256 := by rw [UInt8.toNat_add, UInt8.toNat_div]; rfl
  have f2 : (48 + b / 8 % 8 : UInt8).toNat = (48 + b.toNat / 8 % 8) % 256 := by rw [UInt8.toNat_add, UInt8.toNat_mod, UInt8.toNat_div]; rfl
  have f3 : (48 + b % 8 : UInt8).toNat = (48 + b.toNat % 8) % 256 := by rw [UInt8.toNat_add, UInt8.toNat_mod]; rfl
  simp only [List.map_cons, List.map_nil, f1, f2, f3, codeI]
  congr 1
  congr 1
  · omega
  · congr 1
    · omega
    · congr 1
      omega
theorem drop_at (s : ByteArray) (i : Nat) (h : i < s.size) : s.data.toList.drop i = s[i] :: s.data.toList.drop (i + 1) := by
  rw [List.drop_eq_getElem_cons (by rw [data_length]; exact h)]
  rfl
theorem mk_append (a b : List UInt8) : (⟨a.toArray⟩ : ByteArray) ++ ⟨b.toArray⟩ = ⟨(a ++ b).toArray⟩ := by
  apply ByteArray.ext
  rw [ByteArray.data_append]
  simp
theorem refquote_l0 (s : ByteArray) (hs : s.size ≤ 1000) : ∀ (d i : Nat) (acc : List UInt8), i + d = s.size → acc.length ≤ 4 * i → Ev (fun k => oakumref02_Quote.l0 k s ⟨acc.toArray⟩ (i : Int)) ⟨(acc ++ Go.Proofs.Ythojbddpfpgnhaa.Hand.quoteList (s.data.toList.drop i)).toArray⟩
  | 0, i, acc, h, ha => by
    refine Ev.step (fun k => oakumref02_Quote.l0.eq_2 ..) ?_
    rw [List.drop_of_length_le (by rw [data_length]; omega)]
    simp only [if_neg (show ¬ (i : Int) < (s.size : Int) by omega), Go.Proofs.Ythojbddpfpgnhaa.Hand.quoteList, List.flatMap_nil, List.append_nil]
    exact Ev.now _
  | d + 1, i, acc, h, ha => by
    refine Ev.step (fun k => oakumref02_Quote.l0.eq_2 ..) ?_
    have hi : i < s.size := by omega
    have hb : bt s (i : Int) = (s[i].toNat : Int) := bt_nat s i hi
    have hw : wrap64 ((i : Int) + 1) = ((i + 1 : Nat) : Int) := by rw [w64 (by omega) (by omega)]; omega
    have hq : Go.Proofs.Ythojbddpfpgnhaa.Hand.quoteList (s.data.toList.drop i) = Go.Proofs.Ythojbddpfpgnhaa.Hand.quoteByte s[i] ++ Go.Proofs.Ythojbddpfpgnhaa.Hand.quoteList (s.data.toList.drop (i + 1)) := by
      rw [drop_at s i hi]
      simp [Go.Proofs.Ythojbddpfpgnhaa.Hand.quoteList]
    have hql := Go.Proofs.Ythojbddpfpgnhaa.Hand.quoteByte_len s[i]
    have hacc : (⟨acc.toArray⟩ : ByteArray).size = acc.length := by show acc.toArray.size = _; simp
    have hbl := s[i].toNat_lt
    simp only [if_pos (show (i : Int) < (s.size : Int) by omega), if_pos (show (0 : Int) ≤ (i : Int) by omega), refopen_eq, Option.bind_some, hb, hw]
    have ih := refquote_l0 s hs d (i + 1) (acc ++ Go.Proofs.Ythojbddpfpgnhaa.Hand.quoteByte s[i]) (by omega) (by simp; omega)
    rw [hq, ← List.append_assoc]
    by_cases ho : openI (s[i].toNat : Int) = true
    · have hx : s.extract i (i + 1) = ⟨(Go.Proofs.Ythojbddpfpgnhaa.Hand.quoteByte s[i]).toArray⟩ := by
        unfold Go.Proofs.Ythojbddpfpgnhaa.Hand.quoteByte
        rw [if_pos (show Go.Proofs.Ythojbddpfpgnhaa.Hand.openB (s[i].toNat : Int) = true from ho)]
        rw [Lib.extract_eq, show i + 1 - i = 1 by omega, drop_at s i hi]
        rfl
      have hz : (s.extract i (i + 1)).size ≤ 1 := by rw [ByteArray.size_extract]; omega
      simp only [if_pos ho, Int.toNat_natCast, if_pos (show (i : Int) ≤ ((i + 1 : Nat) : Int) by omega), if_pos (show ((i + 1 : Nat) : Int) ≤ (s.size : Int) by omega), if_pos (show (⟨acc.toArray⟩ : ByteArray).size + (s.extract i (i + 1)).size ≤ 9223372036854775807 by omega)]
      rw [hx, mk_append]
      exact ih
    · have ho' : openI (s[i].toNat : Int) = false := by simpa using ho
      have hz : (strOfNums (codeI (s[i].toNat : Int))).size = 4 := by rw [strOfNums_size]; rfl
      simp only [if_neg ho, code_eq _ (show (0 : Int) ≤ (s[i].toNat : Int) by omega) (show (s[i].toNat : Int) ≤ 255 by omega), Option.bind_some, hz, if_pos (show (⟨acc.toArray⟩ : ByteArray).size + 4 ≤ 9223372036854775807 by omega)]
      rw [quoteByte_code s[i] ho', mk_append]
      exact ih
theorem refquote_ev (s : ByteArray) (hs : s.size ≤ 1000) : Ev (fun k => oakumref02_Quote.f k s) ⟨(Go.Proofs.Ythojbddpfpgnhaa.Hand.quoteList s.data.toList).toArray⟩ := by
  unfold oakumref02_Quote.f
  exact refquote_l0 s hs s.size 0 [] (by omega) (by simp)
/-- Where four bytes stand, they are those of c just if they tell c. -/
theorem esc_iff (b d1 d2 d3 c : Int) (h0 : 0 ≤ c) (h1 : c ≤ 255) (ho : openI c = false) (hr : 0 ≤ d1 ∧ d1 ≤ 255 ∧ 0 ≤ d2 ∧ d2 ≤ 255 ∧ 0 ≤ d3 ∧ d3 ≤ 255) :
    [b, d1, d2, d3] = codeI c ↔ isEsc b d1 d2 d3 ∧ (d1 - 48) * 64 + (d2 - 48) * 8 + (d3 - 48) = c := by
  unfold codeI isEsc
  simp only [List.cons.injEq, and_true]
  constructor
  · rintro ⟨rfl, rfl, rfl, rfl⟩
    have e : (48 + c / 64 - 48) * 64 + (48 + c / 8 % 8 - 48) * 8 + (48 + c % 8 - 48) = c := by omega
    refine ⟨⟨rfl, by omega, by omega, by omega, by omega, by omega, by omega, by rw [e]; exact ho⟩, e⟩
  · rintro ⟨⟨rfl, g1, g2, g3, g4, g5, g6, _⟩, rfl⟩
    refine ⟨rfl, ?_, ?_, ?_⟩ <;> omega
/-- c isn't what stands there (a name of its own: linear arithmetic shall not look into it). -/
def Unlike (b d1 d2 d3 c : Int) : Prop := ¬ (isEsc b d1 d2 d3 ∧ (d1 - 48) * 64 + (d2 - 48) * 8 + (d3 - 48) = c)
theorem four_eq (s : ByteArray) (i : Nat) (b : Int) (r : List Int) (h : (bytesOf s).drop i = b :: r) (hl : 3 ≤ r.length) : bytesOf (s.extract i (i + 4)) = [b, r.getD 0 0, r.getD 1 0, r.getD 2 0] := by
  unfold bytesOf at h ⊢
  rw [Lib.extract_data, List.map_take, List.map_drop, h]
  match r, hl with
  | x :: y :: z :: r, _ => simp [show i + 4 - i = 4 by omega]
theorem told_cons {α : Type} (acc : List Int) (c : Int) (u : Option (List Int)) (yes no : α) : told (acc ++ [c]) u yes no = told acc (u.map (c :: ·)) yes no := by cases u <;> simp [told]
theorem refunq_l0 (s : ByteArray) (hs : s.size ≤ 1000) : ∀ (n i : Nat) (acc : List Int), i ≤ s.size → s.size - i ≤ n → acc.length ≤ i → Ev (fun k => oakumref02_Unquote.l0 k s acc (i : Int)) (told acc (unq n ((bytesOf s).drop i)) true false)
  | 0, i, acc, hi, hn, ha => by
    refine Ev.step (fun k => oakumref02_Unquote.l0.eq_2 ..) ?_
    simp only [if_neg (show ¬ (i : Int) < (s.size : Int) by omega), unq, told, List.append_nil]
    exact Ev.now _
  | n + 1, i, acc, hi, hn, ha => by
    refine Ev.step (fun k => oakumref02_Unquote.l0.eq_2 ..) ?_
    have hl : ((bytesOf s).drop i).length = s.size - i := by rw [List.length_drop, bytesOf_length]
    cases hb : (bytesOf s).drop i with
    | nil =>
      rw [hb] at hl
      simp only [List.length_nil] at hl
      simp only [if_neg (show ¬ (i : Int) < (s.size : Int) by omega), unq, told, List.append_nil]
      exact Ev.now _
    | cons b r =>
      rw [hb, List.length_cons] at hl
      have hdrop : (bytesOf s).drop (i + 1) = r := by rw [← List.drop_drop, hb]; rfl
      have hdrop4 : (bytesOf s).drop (i + 4) = r.drop 3 := by rw [← List.drop_drop, hb]; rfl
      have f0 : bt s (i : Int) = b := by
        rw [← rd_bytesOf]
        unfold rd
        have := congrArg (fun l => l.getD 0 0) hb
        simpa [List.getD_eq_getElem?_getD, List.getElem?_drop] using this
      have hrange : ∀ x ∈ r, 0 ≤ x ∧ x ≤ 255 := fun x hx => bytesOf_range s x (List.mem_of_mem_drop (by rw [hb]; exact List.mem_cons_of_mem _ hx))
      simp only [if_pos (show (i : Int) < (s.size : Int) by omega), if_pos (show (0 : Int) ≤ (i : Int) by omega), refopen_eq, Option.bind_some, f0, wadd1 i (by omega)]
      unfold unq
      by_cases ho : openI b = true
      · simp only [if_pos ho, if_pos (show acc.length < 140737488355328 by omega)]
        have ih := refunq_l0 s hs n (i + 1) (acc ++ [b]) (by omega) (by omega) (by simp; omega)
        rw [hdrop, told_cons] at ih
        exact ih
      simp only [if_neg ho]
      by_cases h3 : r.length < 3
      · simp only [if_pos h3]
        refine Ev.step (fun k => oakumref02_Unquote.l1.eq_2 ..) ?_
        simp only [if_pos (show (0 : Int) < 256 by omega), wadd4 i (by omega), if_neg (show ¬ ((i + 4 : Nat) : Int) ≤ (s.size : Int) by omega)]
        refine Ev.step (fun k => oakumref02_Unquote.j2.eq_2 ..) ?_
        simp only [Bool.false_eq_true, if_false, told]
        exact Ev.now _
      simp only [if_neg h3]
      have h4 : i + 4 ≤ s.size := by omega
      have hfour := four_eq s i b r hb (by omega)
      have hz : ∀ j, 0 ≤ r.getD j 0 ∧ r.getD j 0 ≤ 255 := by
        intro j
        rw [List.getD_eq_getElem?_getD]
        by_cases hj : j < r.length
        · rw [List.getElem?_eq_getElem hj]; exact hrange _ (List.getElem_mem hj)
        · rw [List.getElem?_eq_none (by omega)]; simp
      have step (c : Nat) (hc : c < 256) (res : ByteArray × Bool) (hno : Unlike b (r.getD 0 0) (r.getD 1 0) (r.getD 2 0) (c : Int))
          (hgo : Ev (fun k => oakumref02_Unquote.l1 k s acc (i : Int) false ((c + 1 : Nat) : Int)) res) : Ev (fun k => oakumref02_Unquote.l1 k s acc (i : Int) false (c : Int)) res := by
        refine Ev.step (fun k => oakumref02_Unquote.l1.eq_2 ..) ?_
        simp only [if_pos (show (c : Int) < 256 by omega), wadd4 i (by omega), if_pos (show ((i + 4 : Nat) : Int) ≤ (s.size : Int) by omega), Bool.not_false]
        refine Ev.step (fun k => oakumref02_Unquote.j2.eq_2 ..) ?_
        simp only [if_true, show (c : Int) % 256 = (c : Int) by omega, refopen_eq, Option.bind_some, wadd1 c (by omega)]
        by_cases hoc : openI (c : Int) = true
        · simp only [if_pos hoc]; exact hgo
        · have hoc' : openI (c : Int) = false := by simpa using hoc
          simp only [if_neg hoc, if_pos (show (0 : Int) ≤ (i : Int) by omega), wadd4 i (by omega), if_pos (show (i : Int) ≤ ((i + 4 : Nat) : Int) by omega), if_pos (show ((i + 4 : Nat) : Int) ≤ (s.size : Int) by omega), code_eq (c : Int) (by omega) (by omega), Option.bind_some, Int.toNat_natCast]
          have hne : ¬ (s.extract i (i + 4)).toList = (strOfNums (codeI (c : Int))).toList := by
            intro e
            have e := toList_inj.1 e
            have e2 := congrArg bytesOf e
            rw [hfour, bytesOf_strOfNums _ (codeI_range _ (by omega) (by omega)), esc_iff _ _ _ _ _ (by omega) (by omega) hoc' ⟨(hz 0).1, (hz 0).2, (hz 1).1, (hz 1).2, (hz 2).1, (hz 2).2⟩] at e2
            exact hno e2
          simp only [if_neg hne]
          exact hgo
      by_cases he : isEsc b (r.getD 0 0) (r.getD 1 0) (r.getD 2 0)
      · simp only [if_pos he]
        have hd := he
        unfold isEsc at hd
        have HE := Lib.hid he
        clear he
        obtain ⟨v, hv⟩ : ∃ v : Nat, (r.getD 0 0 - 48) * 64 + (r.getD 1 0 - 48) * 8 + (r.getD 2 0 - 48) = (v : Int) := ⟨((r.getD 0 0 - 48) * 64 + (r.getD 1 0 - 48) * 8 + (r.getD 2 0 - 48)).toNat, by omega⟩
        have hv1 : v < 256 := by omega
        have hov : openI (v : Int) = false := by rw [← hv]; exact hd.2.2.2.2.2.2.2
        rw [hv]
        have ih := refunq_l0 s hs n (i + 4) (acc ++ [(v : Int)]) (by omega) (by omega) (by simp; omega)
        rw [hdrop4, told_cons] at ih
        have hit : Ev (fun k => oakumref02_Unquote.l1 k s acc (i : Int) false (v : Int)) (told acc ((unq n (r.drop 3)).map ((v : Int) :: ·)) true false) := by
          refine Ev.step (fun k => oakumref02_Unquote.l1.eq_2 ..) ?_
          simp only [if_pos (show (v : Int) < 256 by omega), wadd4 i (by omega), if_pos (show ((i + 4 : Nat) : Int) ≤ (s.size : Int) by omega), Bool.not_false]
          refine Ev.step (fun k => oakumref02_Unquote.j2.eq_2 ..) ?_
          have heq : (s.extract i (i + 4)).toList = (strOfNums (codeI (v : Int))).toList := by
            apply toList_inj.2
            apply bytesOf_inj
            rw [hfour, bytesOf_strOfNums _ (codeI_range _ (by omega) (by omega)), esc_iff _ _ _ _ _ (by omega) (by omega) hov ⟨(hz 0).1, (hz 0).2, (hz 1).1, (hz 1).2, (hz 2).1, (hz 2).2⟩]
            exact ⟨HE.out, hv⟩
          simp only [if_true, show (v : Int) % 256 = (v : Int) by omega, refopen_eq, Option.bind_some, wadd1 v (by omega), hov, Bool.false_eq_true, if_false, if_pos (show (0 : Int) ≤ (i : Int) by omega), wadd4 i (by omega), if_pos (show (i : Int) ≤ ((i + 4 : Nat) : Int) by omega), if_pos (show ((i + 4 : Nat) : Int) ≤ (s.size : Int) by omega), code_eq (v : Int) (by omega) (by omega), Int.toNat_natCast, if_pos heq, if_pos (show acc.length < 140737488355328 by omega)]
          have last : Ev (fun k => oakumref02_Unquote.j2 k s (acc ++ [(v : Int)]) (i : Int) true ((v + 1 : Nat) : Int) false) (told acc ((unq n (r.drop 3)).map ((v : Int) :: ·)) true false) := by
            refine Ev.step (fun k => oakumref02_Unquote.j2.eq_2 ..) ?_
            simp only [Bool.false_eq_true, if_false, if_true, wadd4 i (by omega)]
            exact ih
          refine Ev.step (fun k => oakumref02_Unquote.l1.eq_2 ..) ?_
          by_cases hlast : ((v + 1 : Nat) : Int) < 256
          · simp only [if_pos hlast, wadd4 i (by omega), if_pos (show ((i + 4 : Nat) : Int) ≤ (s.size : Int) by omega), Bool.not_true]
            exact last
          · simp only [if_neg hlast]
            exact last
        have upto : ∀ d : Nat, d ≤ v → Ev (fun k => oakumref02_Unquote.l1 k s acc (i : Int) false ((v - d : Nat) : Int)) (told acc ((unq n (r.drop 3)).map ((v : Int) :: ·)) true false) := by
          intro d
          induction d with
          | zero => intro _; exact hit
          | succ d ihd =>
            intro hd2
            refine step (v - (d + 1)) (by omega) _ (fun h => by have := h.2; omega) ?_
            rw [show v - (d + 1) + 1 = v - d by omega]
            exact ihd (by omega)
        have := upto v (Nat.le_refl _)
        rw [Nat.sub_self] at this
        exact this
      · simp only [if_neg he]
        have upto : ∀ d : Nat, d ≤ 256 → Ev (fun k => oakumref02_Unquote.l1 k s acc (i : Int) false ((256 - d : Nat) : Int)) ((⟨#[]⟩ : ByteArray), false) := by
          intro d
          induction d with
          | zero =>
            intro _
            refine Ev.step (fun k => oakumref02_Unquote.l1.eq_2 ..) ?_
            simp only [if_neg (show ¬ ((256 - 0 : Nat) : Int) < 256 by omega)]
            refine Ev.step (fun k => oakumref02_Unquote.j2.eq_2 ..) ?_
            simp only [Bool.false_eq_true, if_false]
            exact Ev.now _
          | succ d ihd =>
            intro hd2
            refine step (256 - (d + 1)) (by omega) _ (fun h => he h.1) ?_
            rw [show 256 - (d + 1) + 1 = 256 - d by omega]
            exact ihd (by omega)
        exact upto 256 (Nat.le_refl _)
theorem refunq_ev (s : ByteArray) (hs : s.size ≤ 1000) : Ev (fun k => oakumref02_Unquote.f k s) (told [] (unq s.size (bytesOf s)) true false) := by
  unfold oakumref02_Unquote.f
  exact refunq_l0 s hs s.size 0 [] (by omega) (by omega) (by simp)
theorem TextQuotes : oakumlaw02_TextQuotes.Pure := by
  intro s t hs ht
  refine Ev.rounds (g := fun k => oakumlaw02_TextQuotes.f k s t) ?_
  unfold oakumlaw02_TextQuotes.f
  refine Ev.bind alive_ev ?_
  simp only [if_true]
  have yes : Ev (fun k => oakumlaw02_TextQuotes.j0 k s t true) true := by
    refine Ev.step (fun k => oakumlaw02_TextQuotes.j0.eq_2 ..) ?_
    simp only [if_true]
    exact Ev.now _
  by_cases h1 : (s.size : Int) > 1000
  · simp only [if_pos h1]; exact yes
  simp only [if_neg h1]
  by_cases h2 : (t.size : Int) > 1000
  · simp only [decide_eq_true h2]; exact yes
  simp only [decide_eq_false h2]
  refine Ev.step (fun k => oakumlaw02_TextQuotes.j0.eq_2 ..) ?_
  simp only [Bool.false_eq_true, if_false]
  refine Ev.bind (unquote_ev t (by omega)) ?_
  refine Ev.bind (refunq_ev t (by omega)) ?_
  have hq : text_Quote.f s = some ⟨(Go.Proofs.Ythojbddpfpgnhaa.Hand.quoteList s.data.toList).toArray⟩ := by
    unfold text_Quote.f
    rw [if_pos (by omega)]
  simp only [hq, Option.bind_some]
  refine Ev.bind (refquote_ev s (by omega)) ?_
  have w15 : wrap64 15 = 15 := w64 (by omega) (by omega)
  have w0 : wrap64 0 = 0 := w64 (by omega) (by omega)
  cases unq t.size (bytesOf t) with
  | none =>
    simp only [told, if_true, Bool.false_eq_true, if_false, w15, beq_self_eq_true]
    exact Ev.now _
  | some l =>
    simp only [told, if_true, w0]
    exact Ev.now _

end Go.Proofs.Ythojbddpfpgnhaa.Pure
