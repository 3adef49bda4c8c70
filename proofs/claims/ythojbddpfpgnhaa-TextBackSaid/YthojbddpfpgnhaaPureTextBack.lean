/- The law TextBack over lists and numbers: for every text the printed function of the law comes to true; no condition beyond the text reach. -/
import Derived.Test.YthojbddpfpgnhaaPTextBackx2
set_option linter.unusedVariables false
set_option linter.unusedSimpArgs false
namespace Go.Proofs.Ythojbddpfpgnhaa.Pure
open Go.RowKit Go.Proofs.Ythojbddpfpgnhaa.PTextBack Go.Proofs.YthojbddpfpgnhaaW.PrintWords Go.Proofs.YthojbddpfpgnhaaW.PrintLast Go.Proofs.YthojbddpfpgnhaaW.PrintMore

/-! ### Small words: numbers that fit, rounds, bytes of a cut -/
theorem w64 {n : Int} (h0 : -9223372036854775808 ≤ n) (h1 : n ≤ 9223372036854775807) : wrap64 n = n := by unfold wrap64; omega
theorem bt_nonneg (s : ByteArray) (i : Int) : 0 ≤ bt s i := (bt_range s i).1
theorem bt_le (s : ByteArray) (i : Int) : bt s i ≤ 255 := (bt_range s i).2
theorem bt_nat (s : ByteArray) (n : Nat) (h : n < s.size) : bt s (n : Int) = ((s[n]'h).toNat : Int) := by simp [bt, h]
theorem bt_out (s : ByteArray) (i : Int) (h : s.size ≤ i.toNat) : bt s i = 0 := by unfold bt; rw [dif_neg (by omega)]
theorem bt_extract (s : ByteArray) (m n : Nat) (i : Nat) (hi : m + i < n) (hn : n ≤ s.size) : bt (s.extract m n) (i : Int) = bt s ((m + i : Nat) : Int) := by
  have h1 : i < (s.extract m n).size := by rw [ByteArray.size_extract]; omega
  rw [bt_nat _ _ h1, bt_nat _ _ (by omega)]
  rw [ByteArray.getElem_extract]
theorem bytes_ext {a b : ByteArray} (hs : a.size = b.size) (h : ∀ i : Nat, i < a.size → bt a (i : Int) = bt b (i : Int)) : a = b := by
  apply ByteArray.ext_getElem hs
  intro i h1 h2
  have := h i h1
  rw [bt_nat _ _ h1, bt_nat _ _ h2] at this
  exact UInt8.toNat_inj.1 (by omega)
theorem toList_eq_nil (s : ByteArray) : s.toList = ([] : List UInt8) ↔ s.size = 0 := by
  rw [ByteArray.toList_eq]
  constructor
  · intro h
    have : s.data.toList.length = 0 := by rw [h]; rfl
    rwa [data_length] at this
  · intro h
    apply List.eq_nil_of_length_eq_zero
    rwa [data_length]
theorem toList_inj {a b : ByteArray} : a.toList = b.toList ↔ a = b := by
  constructor
  · intro h
    rw [ByteArray.toList_eq, ByteArray.toList_eq] at h
    exact ByteArray.ext (Array.toList_inj.1 h)
  · intro h; rw [h]
theorem wf_i64_bd {n : Int} (h : (Lit.int .i64 n).wf = true) : -9223372036854775808 ≤ n ∧ n ≤ 9223372036854775807 := by
  simp [Lit.wf, IntKind.min, IntKind.max, IntKind.signed, IntKind.bits] at h
  omega
theorem wf_u8_bd {n : Int} (h : (Lit.int .u8 n).wf = true) : 0 ≤ n ∧ n ≤ 255 := by
  simp [Lit.wf, IntKind.min, IntKind.max, IntKind.signed, IntKind.bits] at h
  omega

theorem alive_ev : Ev (fun k => oakumlaw02_alive.f k) true := Ev.of oakumlaw02_alive.mono (k := 40) (by decide +kernel)

/-! ### Texts as lists of bytes: what unquotes -/
theorem bytesOf_data (l : List UInt8) : bytesOf (⟨l.toArray⟩ : ByteArray) = l.map fun b => (b.toNat : Int) := rfl
theorem bytesOf_range (s : ByteArray) : ∀ b ∈ bytesOf s, 0 ≤ b ∧ b ≤ 255 := by
  intro b hb
  unfold bytesOf at hb
  obtain ⟨x, _, rfl⟩ := List.mem_map.1 hb
  have := x.toNat_lt
  omega
theorem bytesOf_extract (s : ByteArray) (a n : Nat) (hn : s.size ≤ n) : bytesOf (s.extract a n) = (bytesOf s).drop a := by
  unfold bytesOf
  rw [Lib.extract_data, List.take_of_length_le (by rw [List.length_drop, data_length]; omega), List.map_drop]
theorem bt_cons {s : ByteArray} {l : List Int} (h : bytesOf s = l) (i : Nat) : bt s (i : Int) = l.getD i 0 := by
  rw [← rd_bytesOf, h]
  unfold rd
  simp
theorem strOfNums_bytesOf (s : ByteArray) : strOfNums (bytesOf s) = s := by
  unfold strOfNums bytesOf
  apply ByteArray.ext
  apply Array.ext'
  rw [List.map_map]
  conv => rhs; rw [← List.map_id s.data.toList]
  apply List.map_congr_left
  intro b _
  simp
theorem bytesOf_inj {s t : ByteArray} (h : bytesOf s = bytesOf t) : s = t := by rw [← strOfNums_bytesOf s, h, strOfNums_bytesOf]
theorem bytesOf_strOfNums (l : List Int) (h : ∀ b ∈ l, 0 ≤ b ∧ b ≤ 255) : bytesOf (strOfNums l) = l := by
  unfold strOfNums
  rw [bytesOf_data, List.map_map]
  conv => rhs; rw [← List.map_id l]
  apply List.map_congr_left
  intro b hb
  have := h b hb
  simp only [Function.comp, id]
  rw [UInt8.toNat_ofNat']
  omega
/-- May a byte stand as it is? -/
def openI (c : Int) : Bool := decide (32 < c ∧ c < 127 ∧ c ≠ 92)
theorem open_eq (c : Int) : text_open.f c = some (openI c) := by
  unfold text_open.f openI
  by_cases h1 : c > 32
  · rw [if_pos h1]
    by_cases h2 : c < 127
    · rw [if_pos h2]
      by_cases h3 : c = 92
      · subst h3; rfl
      · rw [decide_eq_true (by omega), bne_iff_ne.2 h3]
    · rw [if_neg h2, decide_eq_false (by omega)]
  · rw [if_neg h1, decide_eq_false (by omega)]
theorem digit_eq (c : Int) : text_digit.f c = some (decide (48 ≤ c ∧ c ≤ 55)) := by
  unfold text_digit.f
  by_cases h1 : c ≥ 48
  · rw [if_pos h1]
    congr 1
    simp only [decide_eq_decide]
    omega
  · rw [if_neg h1, decide_eq_false (by omega)]
/-- Do these four bytes tell a byte that may not stand as it is? -/
def isEsc (b d1 d2 d3 : Int) : Prop := b = 92 ∧ 48 ≤ d1 ∧ d1 ≤ 51 ∧ 48 ≤ d2 ∧ d2 ≤ 55 ∧ 48 ≤ d3 ∧ d3 ≤ 55 ∧ openI ((d1 - 48) * 64 + (d2 - 48) * 8 + (d3 - 48)) = false
instance (b d1 d2 d3 : Int) : Decidable (isEsc b d1 d2 d3) := by unfold isEsc; infer_instance
/-- The unquoted bytes, if they are. -/
def unq : Nat → List Int → Option (List Int)
  | 0, _ => some []
  | _ + 1, [] => some []
  | n + 1, b :: r => if openI b = true then (unq n r).map (b :: ·) else
    if r.length < 3 then none else if isEsc b (r.getD 0 0) (r.getD 1 0) (r.getD 2 0) then (unq n (r.drop 3)).map (((r.getD 0 0 - 48) * 64 + (r.getD 1 0 - 48) * 8 + (r.getD 2 0 - 48)) :: ·) else none
theorem unq_len : ∀ n l r, unq n l = some r → l.length ≤ n → r.length ≤ l.length
  | 0, l, r, h, _ => by simp [unq] at h; subst h; simp
  | n + 1, [], r, h, _ => by simp [unq] at h; subst h; simp
  | n + 1, b :: l, r, h, hn => by
    unfold unq at h
    simp only [List.length_cons] at hn
    split at h
    · obtain ⟨q, hq, rfl⟩ := Option.map_eq_some_iff.1 h
      have := unq_len n l q hq (by omega)
      simp; omega
    · split at h
      · cases h
      · split at h
        · obtain ⟨q, hq, rfl⟩ := Option.map_eq_some_iff.1 h
          have := unq_len n (l.drop 3) q hq (by simp; omega)
          simp at this ⊢; omega
        · cases h
/-- What both ways tell. -/
def told {α : Type} (acc : List Int) (u : Option (List Int)) (yes no : α) : ByteArray × α := match u with
  | some l => (strOfNums (acc ++ l), yes)
  | none => (⟨#[]⟩, no)
theorem or_and (d1 d2 d3 : Int) (h1 : 48 ≤ d1 ∧ d1 ≤ 51) (h2 : 48 ≤ d2 ∧ d2 ≤ 55) (h3 : 48 ≤ d3 ∧ d3 ≤ 55) :
    Go.bits .or .u8 (Go.bits .or .u8 (((Go.bits .and .u8 d1 7) * 64) % 256) (((Go.bits .and .u8 d2 7) * 8) % 256)) (Go.bits .and .u8 d3 7) = (d1 - 48) * 64 + (d2 - 48) * 8 + (d3 - 48) := by
  have key : ∀ a : Fin 4, ∀ b : Fin 8, ∀ c : Fin 8, Go.bits .or .u8 (Go.bits .or .u8 (((Go.bits .and .u8 (48 + (a.val : Int)) 7) * 64) % 256) (((Go.bits .and .u8 (48 + (b.val : Int)) 7) * 8) % 256)) (Go.bits .and .u8 (48 + (c.val : Int)) 7) = (a.val : Int) * 64 + (b.val : Int) * 8 + (c.val : Int) := by decide +kernel
  have := key ⟨(d1 - 48).toNat, by omega⟩ ⟨(d2 - 48).toNat, by omega⟩ ⟨(d3 - 48).toNat, by omega⟩
  simp only [Int.toNat_of_nonneg (show 0 ≤ d1 - 48 by omega), Int.toNat_of_nonneg (show 0 ≤ d2 - 48 by omega), Int.toNat_of_nonneg (show 0 ≤ d3 - 48 by omega)] at this
  rw [show 48 + (d1 - 48) = d1 by omega, show 48 + (d2 - 48) = d2 by omega, show 48 + (d3 - 48) = d3 by omega] at this
  exact this
theorem unquote_l0 : ∀ (n : Nat) (s : ByteArray) (acc : List Int), s.size ≤ n → n ≤ 100000 → acc.length + n ≤ 100000 → Ev (fun k => text_Unquote.l0 k s acc) (told acc (unq n (bytesOf s)) 0 15)
  | 0, s, acc, hs, _, _ => by
    refine Ev.step (fun k => text_Unquote.l0.eq_2 ..) ?_
    simp only [if_neg (show ¬ (s.size : Int) > 0 by omega), unq, told, List.append_nil]
    exact Ev.now _
  | n + 1, s, acc, hs, hn, ha => by
    refine Ev.step (fun k => text_Unquote.l0.eq_2 ..) ?_
    have hl := bytesOf_length s
    cases hb : bytesOf s with
    | nil =>
      rw [hb] at hl
      simp only [List.length_nil] at hl
      simp only [if_neg (show ¬ (s.size : Int) > 0 by omega), unq, told, List.append_nil]
      exact Ev.now _
    | cons b r =>
      rw [hb, List.length_cons] at hl
      have f0 : bt s 0 = b := by have := bt_cons hb 0; simpa using this
      have f1 : bt s 1 = r.getD 0 0 := by have := bt_cons hb 1; simpa using this
      have f2 : bt s 2 = r.getD 1 0 := by have := bt_cons hb 2; simpa using this
      have f3 : bt s 3 = r.getD 2 0 := by have := bt_cons hb 3; simpa using this
      simp only [if_pos (show (s.size : Int) > 0 by omega), if_pos (show (0 : Int) < (s.size : Int) by omega), open_eq, Option.bind_some, f0, f1, f2, f3, digit_eq]
      unfold unq
      by_cases ho : openI b = true
      · simp only [if_pos ho, if_pos (show acc.length < 140737488355328 by omega), if_pos (show (1 : Int) ≤ (s.size : Int) by omega)]
        have ih := unquote_l0 n (s.extract 1 s.size) (acc ++ [b]) (by rw [ByteArray.size_extract]; omega) (by omega) (by simp; omega)
        rw [bytesOf_extract s 1 s.size (Nat.le_refl _), hb] at ih
        simp only [List.drop_succ_cons, List.drop_zero] at ih
        have e : told (acc ++ [b]) (unq n r) (0 : Int) 15 = told acc (Option.map (b :: ·) (unq n r)) 0 15 := by cases unq n r <;> simp [told]
        rw [← e]; exact ih
      · simp only [if_neg ho]
        have no : Ev (fun k => text_Unquote.j1 k s acc true) ((⟨#[]⟩ : ByteArray), (15 : Int)) := by
          refine Ev.step (fun k => text_Unquote.j1.eq_2 ..) ?_
          simp only [if_true]
          exact Ev.now _
        by_cases h92 : b = 92
        · simp only [if_pos h92]
          by_cases h4 : (s.size : Int) < 4
          · simp only [if_pos h4, if_pos (show r.length < 3 by omega)]
            exact no
          · simp only [if_neg h4, if_neg (show ¬ r.length < 3 by omega), if_pos (show (1 : Int) < (s.size : Int) by omega), if_pos (show (2 : Int) < (s.size : Int) by omega), if_pos (show (3 : Int) < (s.size : Int) by omega)]
            by_cases hd1 : r.getD 0 0 > 51
            · simp only [if_pos hd1, if_neg (show ¬ isEsc b (r.getD 0 0) (r.getD 1 0) (r.getD 2 0) by unfold isEsc; omega)]
              exact no
            · simp only [if_neg hd1]
              by_cases hd1' : 48 ≤ r.getD 0 0 ∧ r.getD 0 0 ≤ 55
              · simp only [decide_eq_true hd1', if_true]
                by_cases hd2 : 48 ≤ r.getD 1 0 ∧ r.getD 1 0 ≤ 55
                · simp only [decide_eq_true hd2, if_true]
                  by_cases hd3 : 48 ≤ r.getD 2 0 ∧ r.getD 2 0 ≤ 55
                  · simp only [decide_eq_true hd3, Bool.not_true]
                    refine Ev.step (fun k => text_Unquote.j1.eq_2 ..) ?_
                    simp only [Bool.false_eq_true, if_false, if_pos (show (1 : Int) < (s.size : Int) by omega), if_pos (show (2 : Int) < (s.size : Int) by omega), if_pos (show (3 : Int) < (s.size : Int) by omega), f1, f2, f3, open_eq, Option.bind_some, or_and _ _ _ (show 48 ≤ r.getD 0 0 ∧ r.getD 0 0 ≤ 51 by omega) hd2 hd3]
                    by_cases hoc : openI ((r.getD 0 0 - 48) * 64 + (r.getD 1 0 - 48) * 8 + (r.getD 2 0 - 48)) = true
                    · simp only [if_pos hoc, if_neg (show ¬ isEsc b (r.getD 0 0) (r.getD 1 0) (r.getD 2 0) by unfold isEsc; rw [hoc]; simp)]
                      exact Ev.now _
                    · have hoc' : openI ((r.getD 0 0 - 48) * 64 + (r.getD 1 0 - 48) * 8 + (r.getD 2 0 - 48)) = false := by simpa using hoc
                      simp only [if_neg hoc, if_pos (show isEsc b (r.getD 0 0) (r.getD 1 0) (r.getD 2 0) from ⟨h92, by omega, by omega, hd2.1, hd2.2, hd3.1, hd3.2, hoc'⟩), if_pos (show acc.length < 140737488355328 by omega), if_pos (show (4 : Int) ≤ (s.size : Int) by omega)]
                      have ih := unquote_l0 n (s.extract 4 s.size) (acc ++ [(r.getD 0 0 - 48) * 64 + (r.getD 1 0 - 48) * 8 + (r.getD 2 0 - 48)]) (by rw [ByteArray.size_extract]; omega) (by omega) (by simp; omega)
                      rw [bytesOf_extract s 4 s.size (Nat.le_refl _), hb] at ih
                      simp only [List.drop_succ_cons] at ih
                      generalize (r.getD 0 0 - 48) * 64 + (r.getD 1 0 - 48) * 8 + (r.getD 2 0 - 48) = c at ih
                      have e : told (acc ++ [c]) (unq n (r.drop 3)) (0 : Int) 15 = told acc (Option.map (c :: ·) (unq n (r.drop 3))) 0 15 := by cases unq n (r.drop 3) <;> simp [told]
                      rw [← e]; exact ih
                  · simp only [decide_eq_false hd3, Bool.not_false, if_neg (show ¬ isEsc b (r.getD 0 0) (r.getD 1 0) (r.getD 2 0) by unfold isEsc; omega)]
                    exact no
                · simp only [decide_eq_false hd2, Bool.false_eq_true, if_false, if_neg (show ¬ isEsc b (r.getD 0 0) (r.getD 1 0) (r.getD 2 0) by unfold isEsc; omega)]
                  exact no
              · simp only [decide_eq_false hd1', Bool.false_eq_true, if_false, if_neg (show ¬ isEsc b (r.getD 0 0) (r.getD 1 0) (r.getD 2 0) by unfold isEsc; omega)]
                exact no
        · simp only [if_neg h92, if_neg (show ¬ isEsc b (r.getD 0 0) (r.getD 1 0) (r.getD 2 0) from fun h => h92 h.1)]
          have e : told acc (if r.length < 3 then none else (none : Option (List Int))) (0 : Int) 15 = (⟨#[]⟩, 15) := by split <;> rfl
          rw [e]; exact no
theorem unquote_ev (s : ByteArray) (hs : s.size ≤ 10000) : Ev (fun k => text_Unquote.f k s) (told [] (unq s.size (bytesOf s)) 0 15) := by
  unfold text_Unquote.f
  exact unquote_l0 s.size s [] (Nat.le_refl _) (by omega) (by simp; omega)

/-! ### What is quoted is unquoted -/
theorem openI_B (b : UInt8) : Go.Proofs.Ythojbddpfpgnhaa.Hand.openB (b.toNat : Int) = openI (b.toNat : Int) := rfl
def quoteI (l : List UInt8) : List Int := (Go.Proofs.Ythojbddpfpgnhaa.Hand.quoteList l).map fun b => (b.toNat : Int)
theorem quoteI_cons (b : UInt8) (l : List UInt8) : quoteI (b :: l) = (Go.Proofs.Ythojbddpfpgnhaa.Hand.quoteByte b).map (fun b => (b.toNat : Int)) ++ quoteI l := by
  simp [quoteI, Go.Proofs.Ythojbddpfpgnhaa.Hand.quoteList]
theorem esc_bytes (b : UInt8) (h : openI (b.toNat : Int) = false) : ∃ d1 d2 d3 : Int, (Go.Proofs.Ythojbddpfpgnhaa.Hand.quoteByte b).map (fun b => (b.toNat : Int)) = [92, d1, d2, d3] ∧ 48 ≤ d1 ∧ d1 ≤ 51 ∧ 48 ≤ d2 ∧ d2 ≤ 55 ∧ 48 ≤ d3 ∧ d3 ≤ 55 ∧ (d1 - 48) * 64 + (d2 - 48) * 8 + (d3 - 48) = (b.toNat : Int) := by
  have hb := b.toNat_lt
  unfold Go.Proofs.Ythojbddpfpgnhaa.Hand.quoteByte
  rw [if_neg (by rw [openI_B, h]; decide)]
  refine ⟨((48 + b / 64 : UInt8).toNat : Int), ((48 + b / 8 % 8 : UInt8).toNat : Int), ((48 + b % 8 : UInt8).toNat : Int), rfl, ?_⟩
  have f1 : (48 + b / 64 : UInt8).toNat = (48 + b.toNat / 64) % 256 := by rw [UInt8.toNat_add, UInt8.toNat_div]; rfl
  have f2 : (48 + b / 8 % 8 : UInt8).toNat = (48 + b.toNat / 8 % 8) % 256 := by rw [UInt8.toNat_add, UInt8.toNat_mod, UInt8.toNat_div]; rfl
  have f3 : (48 + b % 8 : UInt8).toNat = (48 + b.toNat % 8) % 256 := by rw [UInt8.toNat_add, UInt8.toNat_mod]; rfl
  rw [f1, f2, f3]
  omega
theorem unq_quote : ∀ (l : List UInt8) (n : Nat), (quoteI l).length ≤ n → unq n (quoteI l) = some (l.map fun b => (b.toNat : Int))
  | [], n, _ => by cases n <;> rfl
  | b :: l, n, hn => by
    rw [quoteI_cons] at hn ⊢
    by_cases ho : openI (b.toNat : Int) = true
    · have e : (Go.Proofs.Ythojbddpfpgnhaa.Hand.quoteByte b).map (fun b => (b.toNat : Int)) = [(b.toNat : Int)] := by
        unfold Go.Proofs.Ythojbddpfpgnhaa.Hand.quoteByte
        rw [if_pos (by rw [openI_B, ho])]; rfl
      rw [e] at hn ⊢
      simp only [List.cons_append, List.nil_append, List.length_cons] at hn ⊢
      obtain ⟨m, rfl⟩ : ∃ m, n = m + 1 := ⟨n - 1, by omega⟩
      unfold unq
      rw [if_pos ho, unq_quote l m (by omega)]
      rfl
    · have ho' : openI (b.toNat : Int) = false := by simpa using ho
      obtain ⟨d1, d2, d3, e, h1, h2, h3, h4, h5, h6, hc⟩ := esc_bytes b ho'
      rw [e] at hn ⊢
      simp only [List.cons_append, List.nil_append, List.length_cons] at hn ⊢
      obtain ⟨m, rfl⟩ : ∃ m, n = m + 1 := ⟨n - 1, by omega⟩
      unfold unq
      have h92 : openI 92 = false := by decide
      simp only [h92, Bool.false_eq_true, if_false, List.length_cons, List.getD_cons_zero, List.getD_cons_succ, List.drop_succ_cons, List.drop_zero, hc]
      rw [if_neg (by omega), if_pos ⟨rfl, h1, h2, h3, h4, h5, h6, by rw [hc]; exact ho'⟩, unq_quote l m (by omega)]
      rfl
theorem quote_some (s : ByteArray) (hs : s.size ≤ 1000) : text_Quote.f s = some ⟨(Go.Proofs.Ythojbddpfpgnhaa.Hand.quoteList s.data.toList).toArray⟩ := by
  unfold text_Quote.f
  rw [if_pos (by omega)]
theorem quote_size (s : ByteArray) (hs : s.size ≤ 1000) : (⟨(Go.Proofs.Ythojbddpfpgnhaa.Hand.quoteList s.data.toList).toArray⟩ : ByteArray).size ≤ 4000 := by
  have := Go.Proofs.Ythojbddpfpgnhaa.Hand.quoteList_len s.data.toList
  rw [data_length] at this
  show (Go.Proofs.Ythojbddpfpgnhaa.Hand.quoteList s.data.toList).toArray.size ≤ 4000
  simp; omega
theorem unquote_quote (s : ByteArray) (hs : s.size ≤ 1000) : Ev (fun k => text_Unquote.f k ⟨(Go.Proofs.Ythojbddpfpgnhaa.Hand.quoteList s.data.toList).toArray⟩) (s, (0 : Int)) := by
  have h := unquote_ev ⟨(Go.Proofs.Ythojbddpfpgnhaa.Hand.quoteList s.data.toList).toArray⟩ (by have := quote_size s hs; omega)
  have e : unq (⟨(Go.Proofs.Ythojbddpfpgnhaa.Hand.quoteList s.data.toList).toArray⟩ : ByteArray).size (bytesOf ⟨(Go.Proofs.Ythojbddpfpgnhaa.Hand.quoteList s.data.toList).toArray⟩) = some (bytesOf s) := by
    refine unq_quote s.data.toList _ ?_
    rw [← bytesOf_length]
    exact Nat.le_refl _
  rw [e] at h
  have e2 : told [] (some (bytesOf s)) (0 : Int) 15 = (s, 0) := by simp [told, strOfNums_bytesOf]
  rw [e2] at h
  exact h
theorem quote_inj (s t : ByteArray) (hs : s.size ≤ 1000) (ht : t.size ≤ 1000) (h : (⟨(Go.Proofs.Ythojbddpfpgnhaa.Hand.quoteList s.data.toList).toArray⟩ : ByteArray) = ⟨(Go.Proofs.Ythojbddpfpgnhaa.Hand.quoteList t.data.toList).toArray⟩) : s = t := by
  obtain ⟨K, hK⟩ := unquote_quote s hs
  obtain ⟨L, hL⟩ := unquote_quote t ht
  have h1 := hK (max K L) (Nat.le_max_left _ _)
  have h2 := hL (max K L) (Nat.le_max_right _ _)
  rw [h, h2] at h1
  simp at h1
  exact h1.symm
/-! ### What is put is got -/
theorem index_neg (c : UInt8) : ∀ l : List UInt8, Lib.indexByte l c < 0 ↔ c ∉ l
  | [] => by simp [Lib.indexByte]
  | b :: l => by
    unfold Lib.indexByte
    have ih := index_neg c l
    have := Go.Proofs.Ythojbddpfpgnhaa.Hand.index_lt c l
    by_cases h : b = c
    · simp [h]
    · simp only [beq_iff_eq, h, if_false, List.mem_cons, not_or, Ne.symm h, not_false_eq_true, true_and, ← ih]
      have hge : Lib.indexByte l c < 0 → Lib.indexByte l c = -1 := Go.Proofs.Ythojbddpfpgnhaa.Hand.index_m1 c l
      by_cases h2 : Lib.indexByte l c = -1
      · rw [if_pos h2, h2]
      · rw [if_neg h2]
        constructor
        · intro h3; omega
        · intro h3; exact absurd (hge h3) h2
theorem index_split (c : UInt8) : ∀ (l r : List UInt8), c ∉ l → Lib.indexByte (l ++ c :: r) c = l.length
  | [], r, _ => by simp [Lib.indexByte]
  | b :: l, r, h => by
    have hb : ¬ b = c := fun e => h (by simp [e])
    have ih := index_split c l r (fun hl => h (List.mem_cons_of_mem _ hl))
    simp only [List.cons_append, Lib.indexByte, beq_iff_eq, hb, if_false, ih, List.length_cons]
    rw [if_neg (by omega)]
    omega
theorem get_field (s : ByteArray) (n : Nat) (hc : Go.Proofs.Ythojbddpfpgnhaa.Hand.cleanB s = true) (hn : s.size ≤ n) : Go.Proofs.Ythojbddpfpgnhaa.Hand.getOf (Go.Proofs.YthojbddpfpgnhaaW.HKit.fieldOf s n) = s := by
  have h0 : (0 : UInt8) ∉ s.data.toList := by
    rw [← index_neg]
    unfold Go.Proofs.Ythojbddpfpgnhaa.Hand.cleanB at hc
    simpa using hc
  have hf : Go.Proofs.YthojbddpfpgnhaaW.HKit.fieldOf s n = bytesOf s ++ List.replicate (n - s.size) 0 := by
    unfold Go.Proofs.YthojbddpfpgnhaaW.HKit.fieldOf
    rw [List.take_of_length_le (by rw [bytesOf_length]; exact hn)]
  have hbs : Lib.bytesOf (bytesOf s) = s.data.toList := by
    unfold Lib.bytesOf bytesOf
    rw [List.map_map]
    conv => rhs; rw [← List.map_id s.data.toList]
    apply List.map_congr_left
    intro b _
    simp [Function.comp]
  have hl : Lib.bytesOf (Go.Proofs.YthojbddpfpgnhaaW.HKit.fieldOf s n) = s.data.toList ++ List.replicate (n - s.size) 0 := by
    rw [hf]
    show (bytesOf s ++ List.replicate (n - s.size) 0).map _ = _
    rw [List.map_append]
    congr 1
    rw [List.map_replicate]; rfl
  unfold Go.Proofs.Ythojbddpfpgnhaa.Hand.getOf
  rw [hl]
  rcases Nat.eq_zero_or_pos (n - s.size) with hz | hp
  · rw [hz, List.replicate_zero, List.append_nil, if_neg (by have := (index_neg 0 s.data.toList).2 h0; omega), hf, hz]
    simp only [List.replicate_zero, List.append_nil]
    exact strOfNums_bytesOf s
  · obtain ⟨m, hm⟩ : ∃ m, n - s.size = m + 1 := ⟨n - s.size - 1, by omega⟩
    rw [hm, List.replicate_succ, index_split 0 _ _ h0, if_pos (by omega), Int.toNat_natCast, hf, data_length, List.take_append_of_le_length (by rw [bytesOf_length]; exact Nat.le_refl _), List.take_of_length_le (by rw [bytesOf_length]; exact Nat.le_refl _)]
    exact strOfNums_bytesOf s
theorem law_j1 (s t : ByteArray) (hs : s.size ≤ 1000) (ht : t.size ≤ 1000) : Ev (fun k => oakumlaw02_TextBack.j1 k s t false) true := by
  refine Ev.step (fun k => oakumlaw02_TextBack.j1.eq_2 ..) ?_
  simp only [Bool.false_eq_true, if_false, quote_some s hs, quote_some t ht, Option.bind_some]
  refine Ev.bind (unquote_quote s hs) ?_
  have h0 : wrap64 0 = 0 := w64 (by omega) (by omega)
  simp only [h0, if_true]
  by_cases h : s = t
  · subst h
    simp only [beq_self_eq_true]
    exact Ev.now _
  · have h1 : ¬ s.toList = t.toList := fun e => h (toList_inj.1 e)
    have h2 : ¬ (⟨(Go.Proofs.Ythojbddpfpgnhaa.Hand.quoteList s.data.toList).toArray⟩ : ByteArray).toList = (⟨(Go.Proofs.Ythojbddpfpgnhaa.Hand.quoteList t.data.toList).toArray⟩ : ByteArray).toList := fun e => h (quote_inj s t hs ht (toList_inj.1 e))
    have e1 : (s.toList == t.toList) = false := by simpa using h1
    have e2 : ((⟨(Go.Proofs.Ythojbddpfpgnhaa.Hand.quoteList s.data.toList).toArray⟩ : ByteArray).toList == (⟨(Go.Proofs.Ythojbddpfpgnhaa.Hand.quoteList t.data.toList).toArray⟩ : ByteArray).toList) = false := beq_eq_false_iff_ne.2 h2
    simp only [e1, e2, beq_self_eq_true]
    exact Ev.now _
theorem law_j0 (s t : ByteArray) (n : Int) (hs : s.size ≤ 1000) (ht : t.size ≤ 1000) : Ev (fun k => oakumlaw02_TextBack.j0 k s t n false) true := by
  refine Ev.step (fun k => oakumlaw02_TextBack.j0.eq_2 ..) ?_
  have hp : text_Put.f s n = some (Go.Proofs.Ythojbddpfpgnhaa.Hand.putOf s n) := by unfold text_Put.f; rw [if_pos (by omega)]
  simp only [Bool.false_eq_true, if_false, hp, Option.bind_some, text_Get.f]
  have w2 : wrap64 2 = 2 := w64 (by omega) (by omega)
  have w15 : wrap64 15 = 15 := w64 (by omega) (by omega)
  have w13 : wrap64 13 = 13 := w64 (by omega) (by omega)
  have w0 : wrap64 0 = 0 := w64 (by omega) (by omega)
  unfold Go.Proofs.Ythojbddpfpgnhaa.Hand.putOf
  by_cases h1 : n < 0 ∨ 65536 < n
  · simp only [if_pos h1, w2, if_neg (show ¬ (2 : Int) = 0 by omega)]
    exact law_j1 s t hs ht
  simp only [if_neg h1]
  by_cases h2 : Go.Proofs.Ythojbddpfpgnhaa.Hand.cleanB s = false
  · simp only [if_pos h2, w15, if_neg (show ¬ (15 : Int) = 0 by omega)]
    exact law_j1 s t hs ht
  simp only [if_neg h2]
  by_cases h3 : n < (s.size : Int)
  · simp only [if_pos h3, w13, if_neg (show ¬ (13 : Int) = 0 by omega)]
    exact law_j1 s t hs ht
  · have h2' : Go.Proofs.Ythojbddpfpgnhaa.Hand.cleanB s = true := by simpa using h2
    have hl : (((Go.Proofs.YthojbddpfpgnhaaW.HKit.fieldOf s n.toNat).length : Int) != n) = false := by
      rw [Go.Proofs.YthojbddpfpgnhaaW.HKit.fieldOf_length]
      simp only [bne_eq_false_iff_eq]; omega
    simp only [if_neg h3, w0, if_true, get_field s n.toNat h2' (by omega), hl]
    exact law_j1 s t hs ht
theorem TextBack : oakumlaw02_TextBack.Pure := by
  intro s t n hs ht hn
  refine Ev.rounds (g := fun k => oakumlaw02_TextBack.f k s t n) ?_
  unfold oakumlaw02_TextBack.f
  refine Ev.bind alive_ev ?_
  simp only [if_true]
  have yes : Ev (fun k => oakumlaw02_TextBack.j0 k s t n true) true := by
    refine Ev.step (fun k => oakumlaw02_TextBack.j0.eq_2 ..) ?_
    simp only [if_true]
    exact Ev.now _
  by_cases h1 : (s.size : Int) > 1000
  · simp only [if_pos h1]; exact yes
  · simp only [if_neg h1]
    by_cases h2 : (t.size : Int) > 1000
    · simp only [decide_eq_true h2]; exact yes
    · simp only [decide_eq_false h2]
      exact law_j0 s t n (by omega) (by omega)

end Go.Proofs.Ythojbddpfpgnhaa.Pure
