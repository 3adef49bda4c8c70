/- The sums of a header, what it is sealed, whether its field tells one: over numbers and lists alone. -/
import Derived.Test.YtoabboeongbloaaDoorPHeadGetsx1
import Derived.Test.YtoabboeongbloaaDoorPHeadGetsx2
import Derived.Test.YtoabboeongbloaaDoorPHeadGetsx3
import Derived.Test.YtoabboeongbloaaDoorPHeadGetsx4
import Derived.Test.YtoabboeongbloaaDoorPHeadGetsx5
import Derived.Test.YtoabboeongbloaaDoorOct
import Derived.Test.YtoabboeongbloaaDoorFmt
set_option linter.unusedVariables false
set_option linter.unusedSimpArgs false
namespace Go.Proofs.YtoabboeongbloaaDoor.SumP
open Go.RowKit Go.Proofs.YtoabboeongbloaaDoor.PHeadGets Go.Proofs.YtoabboeongbloaaDoorW.PrintWords Go.Proofs.YtoabboeongbloaaDoorW.PrintLast Go.Proofs.YtoabboeongbloaaDoorW.PrintMore Go.Proofs.YtoabboeongbloaaDoor.Fmt
theorem rd_drop (l : List Int) (i : Nat) (h : i < l.length) : l.drop i = rd l (i : Int) :: l.drop (i + 1) := by
  rw [List.drop_eq_getElem_cons h]
  congr 1
  unfold rd
  rw [Int.toNat_natCast, List.getD_eq_getElem?_getD, List.getElem?_eq_getElem h]
  rfl
theorem rd_get (l : List Int) (i : Nat) (h : i < l.length) : rd l (i : Int) = l[i] := by
  unfold rd
  rw [Int.toNat_natCast, List.getD_eq_getElem?_getD, List.getElem?_eq_getElem h]
  rfl
/-! ### Sums -/
/-- The byte that counts at a place. -/
def val (l : List Int) (i : Nat) : Int := if 148 ≤ i ∧ i < 156 then 32 else rd l (i : Int)
def sgn (c : Int) : Int := if 128 ≤ c then c - 256 else c
def P (l : List Int) : Nat → Nat → Int
  | _, 0 => 0
  | i, d + 1 => val l i + P l (i + 1) d
def S (l : List Int) : Nat → Nat → Int
  | _, 0 => 0
  | i, d + 1 => sgn (val l i) + S l (i + 1) d
def plain (l : List Int) : Int := P l 0 512
def signed (l : List Int) : Int := S l 0 512
def Bytes (l : List Int) : Prop := ∀ x ∈ l, 0 ≤ x ∧ x ≤ 255
theorem rd_bd {l : List Int} (hb : Bytes l) (i : Nat) (h : i < l.length) : 0 ≤ rd l (i : Int) ∧ rd l (i : Int) ≤ 255 := by
  rw [rd_get l i h]
  exact hb _ (List.getElem_mem h)
theorem val_bd {l : List Int} (hb : Bytes l) (i : Nat) (h : i < l.length) : 0 ≤ val l i ∧ val l i ≤ 255 := by
  unfold val
  split
  · omega
  · exact rd_bd hb i h
theorem P_bd {l : List Int} (hb : Bytes l) : ∀ d i, i + d ≤ l.length → 0 ≤ P l i d ∧ P l i d ≤ 255 * (d : Int)
  | 0, i, _ => by simp [P]
  | d + 1, i, h => by
    have h1 := val_bd hb i (by omega)
    have h2 := P_bd hb d (i + 1) (by omega)
    simp only [P]
    omega
theorem S_bd {l : List Int} (hb : Bytes l) : ∀ d i, i + d ≤ l.length → -128 * (d : Int) ≤ S l i d ∧ S l i d ≤ 127 * (d : Int)
  | 0, i, _ => by simp [S]
  | d + 1, i, h => by
    have h1 := val_bd hb i (by omega)
    have h2 := S_bd hb d (i + 1) (by omega)
    have h3 : -128 ≤ sgn (val l i) ∧ sgn (val l i) ≤ 127 := by unfold sgn; split <;> omega
    simp only [S]
    omega
theorem i8_sgn {c : Int} (h0 : 0 ≤ c) (h1 : c ≤ 255) : IntKind.i8.wrap c = sgn c := by
  unfold IntKind.wrap sgn
  simp [IntKind.signed, IntKind.bits]
  split <;> omega
theorem w64 {n : Int} (h0 : -9223372036854775808 ≤ n) (h1 : n ≤ 9223372036854775807) : wrap64 n = n := by unfold wrap64; omega
theorem wadd1 (n : Nat) (h : n < 9223372036854775807) : wrap64 ((n : Int) + 1) = ((n + 1 : Nat) : Int) := by rw [w64 (by omega) (by omega)]; omega
theorem sum_l0 {l : List Int} (hb : Bytes l) (hl : l.length = 512) : ∀ (d i k : Nat) (p s : Int), i + d = 512 → d < k → 0 ≤ p → p ≤ 255 * (i : Int) → -128 * (i : Int) ≤ s → s ≤ 127 * (i : Int) →
    sum_Sum.l0 k p s l 512 (i : Int) = some (p + P l i d, s + S l i d, 0)
  | 0, i, k, p, s, hi, hk, hp0, hp1, hs0, hs1 => by
    obtain ⟨k, rfl⟩ : ∃ m, k = m + 1 := ⟨k - 1, by omega⟩
    simp only [sum_Sum.l0]
    rw [if_neg (by omega)]
    simp [P, S]
  | d + 1, i, k, p, s, hi, hk, hp0, hp1, hs0, hs1 => by
    obtain ⟨k, rfl⟩ : ∃ m, k = m + 1 := ⟨k - 1, by omega⟩
    have hv := val_bd hb i (by omega)
    have hr := rd_bd hb i (by omega)
    have hsg : -128 ≤ sgn (val l i) ∧ sgn (val l i) ≤ 127 := by unfold sgn; split <;> omega
    have ih := sum_l0 hb hl d (i + 1) k (p + val l i) (s + sgn (val l i)) (by omega) (by omega) (by omega) (by omega) (by omega) (by omega)
    simp only [sum_Sum.l0]
    rw [if_pos (by omega), if_pos (by omega), if_pos (by omega), wadd1 i (by omega)]
    have e1 : p + P l i (d + 1) = p + val l i + P l (i + 1) d := by simp only [P]; omega
    have e2 : s + S l i (d + 1) = s + sgn (val l i) + S l (i + 1) d := by simp only [S]; omega
    rw [e1, e2, ← ih]
    by_cases h1 : 148 ≤ i
    · rw [if_pos (by omega)]
      by_cases h2 : i < 156
      · rw [if_pos (by omega)]
        have e : val l i = 32 := by unfold val; rw [if_pos ⟨h1, h2⟩]
        have e3 : sgn 32 = 32 := by decide
        rw [e, e3, w64 (n := p + 32) (by omega) (by omega), w64 (n := s + 32) (by omega) (by omega)]
      · rw [if_neg (by omega)]
        have e : val l i = rd l (i : Int) := by unfold val; rw [if_neg (by omega)]
        rw [e] at hsg ⊢
        rw [i8_sgn hr.1 hr.2, w64 (n := rd l (i : Int)) (by omega) (by omega), w64 (n := sgn (rd l (i : Int))) (by omega) (by omega), w64 (n := p + rd l (i : Int)) (by omega) (by omega), w64 (n := s + sgn (rd l (i : Int))) (by omega) (by omega)]
    · rw [if_neg (by omega)]
      have e : val l i = rd l (i : Int) := by unfold val; rw [if_neg (by omega)]
      rw [e] at hsg ⊢
      rw [i8_sgn hr.1 hr.2, w64 (n := rd l (i : Int)) (by omega) (by omega), w64 (n := sgn (rd l (i : Int))) (by omega) (by omega), w64 (n := p + rd l (i : Int)) (by omega) (by omega), w64 (n := s + sgn (rd l (i : Int))) (by omega) (by omega)]
theorem sum_f {l : List Int} (hb : Bytes l) (hl : l.length = 512) : sum_Sum.f 600 l = some (plain l, signed l, 0) := by
  have := sum_l0 hb hl 512 0 600 0 0 (by omega) (by omega) (by omega) (by omega) (by omega) (by omega)
  unfold sum_Sum.f
  rw [if_pos (by omega), hl]
  simpa [plain, signed] using this
theorem sum_no {l : List Int} (hl : ¬ l.length = 512) : sum_Sum.f 600 l = some (0, 0, 2) := by
  unfold sum_Sum.f
  rw [if_neg (by omega)]
/-- How many bytes from 128 on count, of so many places. -/
def Hi (l : List Int) : Nat → Nat → Int
  | _, 0 => 0
  | i, d + 1 => (if ¬ (148 ≤ i ∧ i < 156) ∧ 128 ≤ rd l (i : Int) then 1 else 0) + Hi l (i + 1) d
def Fi : Nat → Nat → Int
  | _, 0 => 0
  | i, d + 1 => (if 148 ≤ i ∧ i < 156 then 1 else 0) + Fi (i + 1) d
theorem S_P (l : List Int) : ∀ d i, S l i d = P l i d - 256 * Hi l i d
  | 0, i => by simp [S, P, Hi]
  | d + 1, i => by
    have ih := S_P l d (i + 1)
    simp only [S, P, Hi]
    rw [ih]
    unfold val sgn
    by_cases h : 148 ≤ i ∧ i < 156
    · rw [if_pos h, if_neg (by omega), if_neg (by simp [h])]; omega
    · rw [if_neg h]
      by_cases h2 : 128 ≤ rd l (i : Int)
      · rw [if_pos h2, if_pos ⟨h, h2⟩]; omega
      · rw [if_neg h2, if_neg (by simp [h2])]; omega
theorem Hi_bd (l : List Int) : ∀ d i, 0 ≤ Hi l i d ∧ Hi l i d ≤ d
  | 0, i => by simp [Hi]
  | d + 1, i => by
    have := Hi_bd l d (i + 1)
    simp only [Hi]
    split <;> omega
theorem Fi_bd : ∀ d i, 0 ≤ Fi i d ∧ Fi i d ≤ d
  | 0, i => by simp [Fi]
  | d + 1, i => by
    have := Fi_bd d (i + 1)
    simp only [Fi]
    split <;> omega
theorem sums_l0 {l : List Int} (hb : Bytes l) (hl : l.length = 512) : ∀ (d i k : Nat) (n h : Int), i + d = 512 → 2 * d < k → 0 ≤ n → n ≤ 1000 + 255 * (i : Int) → 0 ≤ h → h ≤ (i : Int) →
    oakumref03_Sums.l0 k l n h (i : Int) = some (n + P l i d - 32 * Fi i d, n + P l i d - 32 * Fi i d - 256 * (h + Hi l i d))
  | 0, i, k, n, h, hi, hk, hn0, hn1, hh0, hh1 => by
    obtain ⟨k, rfl⟩ : ∃ m, k = m + 1 := ⟨k - 1, by omega⟩
    simp only [oakumref03_Sums.l0]
    rw [if_neg (by omega), w64 (n := 256 * h) (by omega) (by omega), w64 (by omega) (by omega)]
    simp [P, Fi, Hi]
  | d + 1, i, k, n, h, hi, hk, hn0, hn1, hh0, hh1 => by
    obtain ⟨k, rfl⟩ : ∃ m, k = m + 2 := ⟨k - 2, by omega⟩
    have hr := rd_bd hb i (by omega)
    simp only [oakumref03_Sums.l0]
    rw [if_pos (by omega)]
    have key : ∀ f : Bool, f = decide (148 ≤ i ∧ i < 156) → oakumref03_Sums.j1 (k + 1) l n h (i : Int) f = some (n + P l i (d + 1) - 32 * Fi i (d + 1), n + P l i (d + 1) - 32 * Fi i (d + 1) - 256 * (h + Hi l i (d + 1))) := by
      intro f hf
      simp only [oakumref03_Sums.j1]
      by_cases hc : 148 ≤ i ∧ i < 156
      · rw [hf, decide_eq_true hc, if_pos rfl, wadd1 i (by omega), sums_l0 hb hl d (i + 1) k n h (by omega) (by omega) (by omega) (by omega) (by omega) (by omega)]
        simp only [P, Fi, Hi, val]
        rw [if_pos hc, if_pos hc, if_neg (by simp [hc])]
        congr 2 <;> omega
      · rw [hf, decide_eq_false hc, if_neg (by simp), if_pos (by omega), if_pos (by omega), wadd1 i (by omega), w64 (n := rd l (i : Int)) (by omega) (by omega), w64 (n := n + rd l (i : Int)) (by omega) (by omega)]
        by_cases h2 : 128 ≤ rd l (i : Int)
        · rw [if_pos (by omega), w64 (n := h + 1) (by omega) (by omega), sums_l0 hb hl d (i + 1) k (n + rd l (i : Int)) (h + 1) (by omega) (by omega) (by omega) (by omega) (by omega) (by omega)]
          simp only [P, Fi, Hi, val]
          rw [if_neg hc, if_neg hc, if_pos ⟨hc, h2⟩]
          congr 2 <;> omega
        · rw [if_neg (by omega), sums_l0 hb hl d (i + 1) k (n + rd l (i : Int)) h (by omega) (by omega) (by omega) (by omega) (by omega) (by omega)]
          simp only [P, Fi, Hi, val]
          rw [if_neg hc, if_neg hc, if_neg (by simp [h2])]
          congr 2 <;> omega
    by_cases h1 : 148 ≤ i
    · rw [if_pos (by omega)]
      refine key _ ?_
      by_cases h2 : i < 156
      · rw [decide_eq_true (by omega), decide_eq_true ⟨h1, h2⟩]
      · rw [decide_eq_false (by omega), decide_eq_false (by omega)]
    · rw [if_neg (by omega)]
      exact key _ (by rw [decide_eq_false (by omega)])
theorem Fi_all : Fi 0 512 = 8 := by decide +kernel
theorem sums_f {l : List Int} (hb : Bytes l) (hl : l.length = 512) (k : Nat) (hk : 1100 ≤ k) : oakumref03_Sums.f k l = some (plain l, signed l) := by
  unfold oakumref03_Sums.f
  rw [show (0 : Int) = ((0 : Nat) : Int) from rfl] 
  have := sums_l0 hb hl 512 0 k 256 0 (by omega) (by omega) (by omega) (by omega) (by omega) (by omega)
  rw [Fi_all] at this
  refine this.trans ?_
  unfold plain signed
  rw [S_P l 512 0]
  congr 2 <;> omega
theorem w48 {a : Int} (h0 : 0 ≤ a - 48) (h1 : a - 48 ≤ 9223372036854775807) : wrap64 (wrap64 a - 48) = a - 48 := by unfold wrap64; omega
/-- A code told as yes or no. -/
def res (p : Int × Int) : Int × Bool := (p.1, decide (p.2 = 0))
theorem oct_l2 (l : List Int) (n : Int) (hl : l.length ≤ 2000) : ∀ (d i : Nat), i + d = l.length → Ev (fun k => oakumref01_Octal.l2 k l (i : Int) n) (if Hand.padAll (l.drop i) = true then (n, true) else (0, false))
  | 0, i, hd => by
    refine Ev.step (fun k => oakumref01_Octal.l2.eq_2 l (i : Int) n k) ?_
    have : l.drop i = [] := List.drop_eq_nil_of_le (by omega)
    simp only [if_neg (show ¬ (i : Int) < (l.length : Int) by omega), this]
    exact Ev.now _
  | d + 1, i, hd => by
    refine Ev.step (fun k => oakumref01_Octal.l2.eq_2 l (i : Int) n k) ?_
    have ih := oct_l2 l n hl d (i + 1) (by omega)
    rw [rd_drop l i (by omega)]
    simp only [if_pos (show (i : Int) < (l.length : Int) by omega), if_pos (show 0 ≤ (i : Int) by omega), wadd1 i (by omega)]
    generalize rd l (i : Int) = x
    by_cases h0 : x = 0
    · simp only [if_pos h0]
      have : Hand.padAll (x :: l.drop (i + 1)) = Hand.padAll (l.drop (i + 1)) := by unfold Hand.padAll; rw [List.all_cons]; simp [Hand.pad, h0]
      rw [this]
      exact ih
    · by_cases h1 : x = 32
      · simp only [if_neg h0, if_pos h1]
        have : Hand.padAll (x :: l.drop (i + 1)) = Hand.padAll (l.drop (i + 1)) := by unfold Hand.padAll; rw [List.all_cons]; simp [Hand.pad, h1]
        rw [this]
        exact ih
      · simp only [if_neg h0, if_neg h1]
        have : Hand.padAll (x :: l.drop (i + 1)) = false := by unfold Hand.padAll; rw [List.all_cons]; simp [Hand.pad, h0, h1]
        rw [this]
        exact Ev.now _
theorem oct_l1 (l : List Int) (hl : l.length ≤ 2000) (hb : ∀ x ∈ l, 0 ≤ x ∧ x ≤ 255) : ∀ (d i : Nat) (n : Int), i + d = l.length → 0 ≤ n → n ≤ 9223372036854775807 → Ev (fun k => oakumref01_Octal.l1 k l (i : Int) n) (res (Hand.octAt n (l.drop i)))
  | 0, i, n, hd, h0, h1 => by
    have hnil : l.drop i = [] := List.drop_eq_nil_of_le (by omega)
    have h2 := oct_l2 l n hl 0 i hd
    refine Ev.step (fun k => oakumref01_Octal.l1.eq_2 l (i : Int) n k) ?_
    simp only [if_neg (show ¬ (i : Int) < (l.length : Int) by omega)]
    refine Ev.step (fun k => oakumref01_Octal.j3.eq_2 l (i : Int) n false k) ?_
    simp only [if_neg Bool.false_ne_true]
    rw [hnil] at h2 ⊢
    exact h2
  | d + 1, i, n, hd, h0, h1 => by
    have h2 := oct_l2 l n hl (d + 1) i hd
    have ih := oct_l1 l hl hb d (i + 1)
    have hmem : rd l (i : Int) ∈ l := List.mem_of_mem_drop (i := i) (by rw [rd_drop l i (by omega)]; exact List.mem_cons_self)
    have hx := hb _ hmem
    refine Ev.step (fun k => oakumref01_Octal.l1.eq_2 l (i : Int) n k) ?_
    rw [rd_drop l i (by omega)] at h2 ⊢
    simp only [if_pos (show (i : Int) < (l.length : Int) by omega), if_pos (show 0 ≤ (i : Int) by omega)]
    clear hmem
    by_cases hd1 : 48 ≤ rd l (i : Int) ∧ rd l (i : Int) ≤ 55
    · simp only [if_pos (show rd l (i : Int) ≥ 48 from hd1.1), decide_eq_true hd1.2]
      refine Ev.step (fun k => oakumref01_Octal.j3.eq_2 l (i : Int) n true k) ?_
      simp only [if_true]
      unfold Hand.octAt
      rw [if_pos hd1]
      by_cases hn : 1152921504606846975 < n
      · simp only [if_pos (show n > 1152921504606846975 from hn), if_pos hn]
        exact Ev.now _
      · simp only [if_neg (show ¬ n > 1152921504606846975 from hn), if_neg hn, if_pos (show (i : Int) < (l.length : Int) by omega), if_pos (show 0 ≤ (i : Int) by omega), wadd1 i (by omega)]
        generalize rd l (i : Int) = x at hx hd1
        rw [w64 (n := 8 * n) (by omega) (by omega), w64 (n := x) (by omega) (by omega), w48 (a := 8 * n + x) (by omega) (by omega), show 8 * n + x - 48 = n * 8 + (x - 48) by omega]
        exact ih _ (by omega) (by omega) (by omega)
    · have hf : Ev (fun k => oakumref01_Octal.j3 k l (i : Int) n false) (res (Hand.octAt n (rd l (i : Int) :: l.drop (i + 1)))) := by
        refine Ev.step (fun k => oakumref01_Octal.j3.eq_2 l (i : Int) n false k) ?_
        simp only [if_neg Bool.false_ne_true]
        have : res (Hand.octAt n (rd l (i : Int) :: l.drop (i + 1))) = (if Hand.padAll (rd l (i : Int) :: l.drop (i + 1)) = true then (n, true) else (0, false)) := by
          unfold Hand.octAt
          rw [if_neg hd1]
          split <;> rfl
        rw [this]
        exact h2
      by_cases hge : rd l (i : Int) ≥ 48
      · have : decide (rd l (i : Int) ≤ 55) = false := decide_eq_false (by omega)
        simp only [if_pos hge, this]
        exact hf
      · simp only [if_neg hge]
        exact hf
theorem oct_l0 (l : List Int) (hl : l.length ≤ 2000) (hb : ∀ x ∈ l, 0 ≤ x ∧ x ≤ 255) : ∀ (d i : Nat), i + d = l.length → Ev (fun k => oakumref01_Octal.l0 k l (i : Int)) (res (Hand.octAt 0 ((l.drop i).dropWhile (fun x => decide (x = 32)))))
  | 0, i, hd => by
    have hnil : l.drop i = [] := List.drop_eq_nil_of_le (by omega)
    have h1 := oct_l1 l hl hb 0 i 0 hd (by omega) (by omega)
    refine Ev.step (fun k => oakumref01_Octal.l0.eq_2 l (i : Int) k) ?_
    simp only [if_neg (show ¬ (i : Int) < (l.length : Int) by omega)]
    refine Ev.step (fun k => oakumref01_Octal.j1.eq_2 l (i : Int) k) ?_
    rw [hnil] at h1 ⊢
    exact h1
  | d + 1, i, hd => by
    have h1 := oct_l1 l hl hb (d + 1) i 0 hd (by omega) (by omega)
    have ih := oct_l0 l hl hb d (i + 1) (by omega)
    refine Ev.step (fun k => oakumref01_Octal.l0.eq_2 l (i : Int) k) ?_
    rw [rd_drop l i (by omega)] at h1 ⊢
    simp only [if_pos (show (i : Int) < (l.length : Int) by omega), if_pos (show 0 ≤ (i : Int) by omega)]
    by_cases hx : rd l (i : Int) = 32
    · simp only [if_pos hx, wadd1 i (by omega)]
      rw [List.dropWhile_cons, if_pos (decide_eq_true hx)]
      exact ih
    · simp only [if_neg hx]
      refine Ev.step (fun k => oakumref01_Octal.j1.eq_2 l (i : Int) k) ?_
      rw [List.dropWhile_cons, if_neg (by simpa using hx)]
      exact h1
/-! ### The field -/
theorem octAt_bd : ∀ (l : List Int) (n : Int), 0 ≤ n → n ≤ 9223372036854775807 → 0 ≤ (Hand.octAt n l).1 ∧ (Hand.octAt n l).1 ≤ 9223372036854775807 ∧ ((Hand.octAt n l).2 = 0 ∨ (Hand.octAt n l).2 = 5)
  | [], n, h0, h1 => ⟨h0, h1, .inl rfl⟩
  | x :: r, n, h0, h1 => by
    unfold Hand.octAt
    split
    · split
      · exact ⟨by decide, by decide, .inr rfl⟩
      · exact octAt_bd r _ (by omega) (by omega)
    · split
      · exact ⟨h0, h1, .inl rfl⟩
      · exact ⟨by decide, by decide, .inr rfl⟩
/-- What the field tells. -/
def fieldOf (l : List Int) : Int × Int := Hand.octAt 0 (((l.take 156).drop 148).dropWhile (fun x => decide (x = 32)))
def checkOf (l : List Int) : Int := if l.length = 512 then (if (fieldOf l).2 = 0 then (if (fieldOf l).1 = plain l ∨ (fieldOf l).1 = signed l then 0 else 4) else 5) else 2
theorem field_bytes {l : List Int} (hb : Bytes l) : ∀ x ∈ (l.take 156).drop 148, 0 ≤ x ∧ x ≤ 255 := fun x hx => hb x (List.mem_of_mem_take (List.mem_of_mem_drop hx))
theorem ref_check {l : List Int} (hb : Bytes l) : ∃ k, oakumref03_Check.f k l = some (checkOf l) := by
  by_cases hl : l.length = 512
  · have ho := oct_l0 ((l.take 156).drop 148) (by simp; omega) (field_bytes hb) ((l.take 156).drop 148).length 0 (by omega)
    rw [List.drop_zero] at ho
    obtain ⟨K, hK⟩ := ho
    refine ⟨K + 1100, ?_⟩
    unfold oakumref03_Check.f oakumref01_Octal.f checkOf
    rw [if_pos (by omega), if_pos (by decide), if_pos (by omega), if_pos hl]
    have h1 : oakumref01_Octal.l0 (K + 1100) ((l.take 156).drop 148) 0 = some (res (fieldOf l)) := hK (K + 1100) (by omega)
    rw [h1, Option.bind_some, sums_f hb hl (K + 1100) (by omega), Option.bind_some]
    unfold res
    dsimp only
    by_cases h2 : (fieldOf l).2 = 0
    · rw [if_pos (by simpa using h2), if_pos h2]
      by_cases h3 : (fieldOf l).1 = plain l
      · rw [if_pos h3, if_pos (.inl h3)]
      · rw [if_neg h3]
        by_cases h4 : (fieldOf l).1 = signed l
        · rw [if_pos h4, if_pos (.inr h4)]
        · rw [if_neg h4, if_neg (by simp [h3, h4])]
    · rw [if_neg (by simpa using h2), if_neg h2]
  · refine ⟨0, ?_⟩
    unfold oakumref03_Check.f checkOf
    rw [if_neg (by omega), if_neg hl]
/-! ### What is sealed -/
/-- So many octal digits. -/
def od : Nat → Nat → List Int
  | _, 0 => []
  | n, w + 1 => od (n / 8) w ++ [48 + ((n % 8 : Nat) : Int)]
theorem od_len : ∀ w n, (od n w).length = w
  | 0, _ => rfl
  | w + 1, n => by simp [od, od_len w]
theorem od_zero : ∀ w, od 0 w = List.replicate w 48
  | 0 => rfl
  | w + 1 => by rw [List.replicate_succ']; simp [od, od_zero w]
theorem octL_pad : ∀ w n, n < 8 ^ (w + 1) → (octL n).length ≤ w + 1 ∧ List.replicate (w + 1 - (octL n).length) 48 ++ octL n = od n (w + 1)
  | w, n, h => by
    by_cases h8 : n < 8
    · rw [octL_small h8]
      refine ⟨by simp, ?_⟩
      have e : n / 8 = 0 := by omega
      have e2 : n % 8 = n := by omega
      simp only [List.length_cons, List.length_nil, od, e, e2, od_zero]
      rfl
    · cases w with
      | zero => simp at h; omega
      | succ w =>
        obtain ⟨h1, h2⟩ := octL_pad w (n / 8) (by rw [Nat.pow_succ] at h; omega)
        rw [octL_big h8]
        refine ⟨by rw [List.length_append]; simp; omega, ?_⟩
        rw [List.length_append]
        have e : w + 1 + 1 - ((octL (n / 8)).length + [48 + ((n % 8 : Nat) : Int)].length) = w + 1 - (octL (n / 8)).length := by simp
        rw [e, ← List.append_assoc, h2]
        rfl
theorem od_bytes : ∀ w n, ∀ x ∈ od n w, 48 ≤ x ∧ x ≤ 55
  | 0, n, x, hx => by simp [od] at hx
  | w + 1, n, x, hx => by
    simp only [od, List.mem_append, List.mem_singleton] at hx
    rcases hx with hx | rfl
    · exact od_bytes w _ x hx
    · omega
def sealOf (l : List Int) : List Int := l.take 148 ++ ((od (plain l).toNat 6 ++ [0, 32]) ++ l.drop 156)
theorem plain_bd {l : List Int} (hb : Bytes l) (hl : l.length = 512) : 0 ≤ plain l ∧ plain l ≤ 130560 := by
  have := P_bd hb 512 0 (by omega)
  unfold plain
  omega
theorem seal_len {l : List Int} (hl : l.length = 512) : (sealOf l).length = 512 := by
  unfold sealOf
  simp only [List.length_append, List.length_take, List.length_drop, od_len, List.length_cons, List.length_nil]
  omega
theorem set_at (a b : List Int) (x v : Int) (i : Nat) (h : a.length = i) : (a ++ x :: b).set i v = a ++ v :: b := by
  subst h
  simp [List.set_append_right]
theorem ref_seal_l0 (l : List Int) (hl : l.length = 512) : ∀ (j m k : Nat) (T : List Int), j ≤ 6 → j < k → m ≤ 1000000 → T.length = 364 - j →
    oakumref03_Seal.l0 k (l.take (148 + j) ++ T) (m : Int) ((j : Int) - 1) = some (((l.take 148 ++ (od m j ++ T)).set 154 0).set 155 32)
  | 0, m, k, T, hj, hk, hm, hT => by
    obtain ⟨k, rfl⟩ : ∃ x, k = x + 1 := ⟨k - 1, by omega⟩
    have hlen : (l.take (148 + 0) ++ T).length = 512 := by rw [List.length_append, List.length_take]; omega
    simp only [oakumref03_Seal.l0]
    rw [if_neg (by omega), hlen, if_pos (by omega), if_pos (by omega)]
    rfl
  | j + 1, m, k, T, hj, hk, hm, hT => by
    obtain ⟨k, rfl⟩ : ∃ x, k = x + 1 := ⟨k - 1, by omega⟩
    have hlen : (l.take (148 + (j + 1)) ++ T).length = 512 := by rw [List.length_append, List.length_take]; omega
    simp only [oakumref03_Seal.l0]
    have ej : ((j + 1 : Nat) : Int) - 1 = (j : Int) := by omega
    rw [ej, if_pos (by omega), hlen, w64 (n := 148 + (j : Int)) (by omega) (by omega), if_pos (by omega), if_pos (by omega)]
    have e1 : Int.tmod (m : Int) 8 = ((m % 8 : Nat) : Int) := by rw [Int.tmod_eq_emod_of_nonneg (by omega)]; omega
    have e2 : Int.tdiv (m : Int) 8 = ((m / 8 : Nat) : Int) := by rw [Int.tdiv_eq_ediv_of_nonneg (by omega)]; omega
    have hsplit : l.take (148 + (j + 1)) = l.take (148 + j) ++ [l[148 + j]'(by omega)] := by
      rw [show 148 + (j + 1) = (148 + j) + 1 from rfl, List.take_succ_eq_append_getElem (by omega)]
    rw [e1, e2, w64 (n := ((m / 8 : Nat) : Int)) (by omega) (by omega), w64 (n := 48 + ((m % 8 : Nat) : Int)) (by omega) (by omega), w64 (n := (j : Int) - 1) (by omega) (by omega)]
    have e3 : (48 + ((m % 8 : Nat) : Int)) % 256 = 48 + ((m % 8 : Nat) : Int) := by omega
    have e4 : (148 + (j : Int)).toNat = 148 + j := by omega
    rw [e3, e4, hsplit, List.append_assoc, List.singleton_append, set_at (l.take (148 + j)) T _ _ (148 + j) (by rw [List.length_take]; omega)]
    rw [ref_seal_l0 l hl j (m / 8) k _ (by omega) (by omega) (by omega) (by simp; omega)]
    congr 4
    simp only [od, List.append_assoc, List.singleton_append]
theorem ref_seal {l : List Int} (hb : Bytes l) (hl : l.length = 512) : oakumref03_Seal.f 1200 l = some (sealOf l) := by
  unfold oakumref03_Seal.f
  rw [Option.bind_some, if_pos (by simp; omega), sums_f hb hl 1200 (by omega), Option.bind_some, List.nil_append]
  have hp := plain_bd hb hl
  have h := ref_seal_l0 l hl 6 (plain l).toNat 1200 (l.drop 154) (by omega) (by omega) (by omega) (by rw [List.length_drop]; omega)
  rw [List.take_append_drop, Int.toNat_of_nonneg hp.1] at h
  refine h.trans ?_
  unfold sealOf
  have hd : l.drop 154 = l[154]'(by omega) :: l[155]'(by omega) :: l.drop 156 := by
    rw [List.drop_eq_getElem_cons (by omega), List.drop_eq_getElem_cons (by omega)]
  rw [hd]
  congr 1
  have a1 : l.take 148 ++ (od (plain l).toNat 6 ++ l[154]'(by omega) :: l[155]'(by omega) :: l.drop 156) = (l.take 148 ++ od (plain l).toNat 6) ++ l[154]'(by omega) :: (l[155]'(by omega) :: l.drop 156) := by simp
  rw [a1, set_at _ _ _ _ 154 (by rw [List.length_append, List.length_take, od_len]; omega)]
  have a2 : (l.take 148 ++ od (plain l).toNat 6) ++ (0 : Int) :: (l[155]'(by omega) :: l.drop 156) = (l.take 148 ++ od (plain l).toNat 6 ++ [(0 : Int)]) ++ l[155]'(by omega) :: l.drop 156 := by simp
  rw [a2, set_at _ _ _ _ 155 (by simp only [List.length_append, List.length_take, od_len, List.length_cons, List.length_nil]; omega)]
  simp
/-! ### What a sealed header tells -/
theorem octAt_digit {x m : Int} {r : List Int} (h : 48 ≤ x ∧ x ≤ 55) (hm : m ≤ 1152921504606846975) : Hand.octAt m (x :: r) = Hand.octAt (m * 8 + (x - 48)) r := by
  conv => lhs; unfold Hand.octAt
  rw [if_pos h, if_neg (by omega)]
theorem octAt_od : ∀ (w n : Nat) (m : Nat) (t : List Int), w ≤ 6 → n < 8 ^ w → m ≤ 1000000 → m * 8 ^ w + n ≤ 1000000 → Hand.octAt (m : Int) (od n w ++ t) = Hand.octAt ((m * 8 ^ w + n : Nat) : Int) t
  | 0, n, m, t, hw, hn, hm, hs => by
    have : n = 0 := by simpa using hn
    subst this
    simp [od]
  | w + 1, n, m, t, hw, hn, hm, hs => by
    simp only [od, List.append_assoc, List.singleton_append]
    have hp : 8 ^ (w + 1) = 8 ^ w * 8 := Nat.pow_succ ..
    rw [hp] at hn hs
    have hdm : 8 * (n / 8) + n % 8 = n := Nat.div_add_mod n 8
    have hs2 : m * (8 ^ w * 8) = m * 8 ^ w * 8 := (Nat.mul_assoc ..).symm
    rw [hs2] at hs
    rw [octAt_od w (n / 8) m _ (by omega) (by omega) hm (by omega)]
    rw [octAt_digit (by omega) (by omega)]
    congr 1
    rw [hp, hs2]
    omega
theorem field_seal {l : List Int} (hb : Bytes l) (hl : l.length = 512) : fieldOf (sealOf l) = (plain l, 0) := by
  have hp := plain_bd hb hl
  have e1 : ((sealOf l).take 156).drop 148 = od (plain l).toNat 6 ++ [0, 32] := by
    unfold sealOf
    have h1 : (l.take 148).length = 148 := by rw [List.length_take]; omega
    rw [List.take_append, h1, List.take_of_length_le (by omega), List.drop_append, h1, List.drop_of_length_le (by omega)]
    rw [List.take_append_of_le_length (by simp [od_len]), List.take_of_length_le (by simp [od_len])]
    rfl
  unfold fieldOf
  rw [e1]
  have e2 : (od (plain l).toNat 6 ++ [0, 32]).dropWhile (fun x => decide (x = 32)) = od (plain l).toNat 6 ++ [0, 32] := by
    have hne : od (plain l).toNat 6 ≠ [] := fun h => by have := od_len 6 (plain l).toNat; rw [h] at this; simp at this
    obtain ⟨x, r, hx⟩ := List.exists_cons_of_ne_nil hne
    have := od_bytes 6 (plain l).toNat x (by rw [hx]; simp)
    rw [hx, List.cons_append, List.dropWhile_cons_of_neg (by simp; omega)]
  rw [e2]
  have := octAt_od 6 (plain l).toNat 0 [0, 32] (by omega) (by omega) (by omega) (by omega)
  rw [show ((0 : Nat) : Int) = 0 from rfl] at this
  rw [this]
  have e3 : ((0 * 8 ^ 6 + (plain l).toNat : Nat) : Int) = plain l := by omega
  rw [e3]
  conv => lhs; unfold Hand.octAt
  rw [if_neg (by omega), if_pos (by decide)]
theorem take_seal {l : List Int} (hl : l.length = 512) : (sealOf l).take 148 = l.take 148 := by
  unfold sealOf
  rw [List.take_append_of_le_length (by rw [List.length_take]; omega), List.take_take]
  congr 1
theorem drop_seal {l : List Int} (hl : l.length = 512) : (sealOf l).drop 156 = l.drop 156 := by
  unfold sealOf
  rw [← List.append_assoc, List.drop_append_of_le_length (by simp [od_len]; omega)]
  rw [List.drop_of_length_le (by simp [od_len]; omega)]
  rfl
theorem seal_bytes {l : List Int} (hb : Bytes l) : Bytes (sealOf l) := by
  intro x hx
  unfold sealOf at hx
  simp only [List.mem_append, List.mem_cons, List.not_mem_nil, or_false] at hx
  rcases hx with hx | (hx | rfl | rfl) | hx
  · exact hb x (List.mem_of_mem_take hx)
  · have := od_bytes _ _ x hx; omega
  · omega
  · omega
  · exact hb x (List.mem_of_mem_drop hx)
theorem val_seal {l : List Int} (hl : l.length = 512) (i : Nat) (hi : i < 512) : val (sealOf l) i = val l i := by
  unfold val
  split
  · rfl
  · rename_i h
    have hs := seal_len hl
    rw [rd_get _ i (by omega), rd_get _ i (by omega)]
    rcases (by omega : i < 148 ∨ 156 ≤ i) with h1 | h1
    · have e1 : ((sealOf l).take 148)[i]? = (l.take 148)[i]? := by rw [take_seal hl]
      rw [List.getElem?_take, List.getElem?_take, if_pos h1, if_pos h1, List.getElem?_eq_getElem (by omega), List.getElem?_eq_getElem (by omega)] at e1
      exact Option.some.inj e1
    · have e1 : ((sealOf l).drop 156)[i - 156]? = (l.drop 156)[i - 156]? := by rw [drop_seal hl]
      rw [List.getElem?_drop, List.getElem?_drop, show 156 + (i - 156) = i by omega, List.getElem?_eq_getElem (by omega), List.getElem?_eq_getElem (by omega)] at e1
      exact Option.some.inj e1
theorem P_eq {l m : List Int} (h : ∀ i, i < 512 → val m i = val l i) : ∀ d i, i + d ≤ 512 → P m i d = P l i d
  | 0, _, _ => rfl
  | d + 1, i, hd => by simp only [P]; rw [h i (by omega), P_eq h d (i + 1) (by omega)]
theorem S_eq {l m : List Int} (h : ∀ i, i < 512 → val m i = val l i) : ∀ d i, i + d ≤ 512 → S m i d = S l i d
  | 0, _, _ => rfl
  | d + 1, i, hd => by simp only [S]; rw [h i (by omega), S_eq h d (i + 1) (by omega)]
theorem plain_seal {l : List Int} (hl : l.length = 512) : plain (sealOf l) = plain l := P_eq (val_seal hl) 512 0 (by omega)
theorem check_seal {l : List Int} (hb : Bytes l) (hl : l.length = 512) : checkOf (sealOf l) = 0 := by
  unfold checkOf
  rw [if_pos (seal_len hl), field_seal hb hl, if_pos rfl, if_pos (.inl (plain_seal hl).symm)]
theorem val_set {l : List Int} (at_ : Nat) (c : Int) (h : at_ < l.length) (ho : ¬ (148 ≤ at_ ∧ at_ < 156)) (i : Nat) : val (l.set at_ c) i = if i = at_ then c else val l i := by
  unfold val
  by_cases hf : 148 ≤ i ∧ i < 156
  · rw [if_pos hf, if_pos hf, if_neg (by rintro rfl; exact ho hf)]
  · rw [if_neg hf, if_neg hf]
    unfold rd
    rw [Int.toNat_natCast, List.getD_eq_getElem?_getD, List.getElem?_set, List.getD_eq_getElem?_getD]
    by_cases e : at_ = i
    · subst e
      simp [h]
    · rw [if_neg e, if_neg (fun x => e x.symm)]
theorem P_set {l : List Int} (at_ : Nat) (c : Int) (h : at_ < l.length) (ho : ¬ (148 ≤ at_ ∧ at_ < 156)) : ∀ d i, P (l.set at_ c) i d = P l i d + (if i ≤ at_ ∧ at_ < i + d then c - rd l (at_ : Int) else 0)
  | 0, i => by simp only [P]; rw [if_neg (by omega)]; rfl
  | d + 1, i => by
    simp only [P]
    rw [val_set at_ c h ho i, P_set at_ c h ho d (i + 1)]
    by_cases e : i = at_
    · subst e
      have hv : val l i = rd l (i : Int) := by unfold val; rw [if_neg ho]
      rw [if_pos rfl, if_neg (by omega), if_pos (by omega), hv]
      omega
    · rw [if_neg e]
      by_cases h1 : i + 1 ≤ at_ ∧ at_ < i + 1 + d
      · rw [if_pos h1, if_pos (by omega)]; omega
      · rw [if_neg h1, if_neg (by omega)]; omega
theorem field_set {l : List Int} (at_ : Nat) (c : Int) (ho : ¬ (148 ≤ at_ ∧ at_ < 156)) : fieldOf (l.set at_ c) = fieldOf l := by
  unfold fieldOf
  have : ((l.set at_ c).take 156).drop 148 = (l.take 156).drop 148 := by
    apply List.ext_getElem?
    intro i
    simp only [List.getElem?_drop, List.getElem?_take, List.getElem?_set]
    by_cases h : 148 + i < 156
    · rw [if_pos h, if_pos h, if_neg (by omega)]
    · rw [if_neg h, if_neg h]
  rw [this]
/-- Another byte outside of the field. -/
theorem check_other {l : List Int} (hb : Bytes l) (hl : l.length = 512) (at_ : Nat) (c : Int) (ha : at_ < 512) (ho : ¬ (148 ≤ at_ ∧ at_ < 156)) (hc : c ≠ rd (sealOf l) (at_ : Int)) (hs : signed ((sealOf l).set at_ c) ≠ plain (sealOf l)) : checkOf ((sealOf l).set at_ c) = 4 := by
  have hsl := seal_len hl
  unfold checkOf
  rw [if_pos (by rw [List.length_set]; exact hsl), field_set at_ c ho, field_seal hb hl, if_pos rfl]
  rw [if_neg]
  have hp := P_set (l := sealOf l) at_ c (by omega) ho 512 0
  rw [if_pos (by omega)] at hp
  change plain ((sealOf l).set at_ c) = plain (sealOf l) + _ at hp
  have e := plain_seal hl
  rintro (h | h)
  · change plain l = plain ((sealOf l).set at_ c) at h
    omega
  · exact hs (by rw [e]; exact h.symm)
end Go.Proofs.YtoabboeongbloaaDoor.SumP
