/- The law SplitNames over lists and numbers: for every text the printed function of the law comes to true; no condition beyond the text reach. -/
import Derived.Test.YtkmlhfmffnbccaaPSplitNamesx2
set_option linter.unusedVariables false
set_option linter.unusedSimpArgs false
namespace Go.Proofs.Ytkmlhfmffnbccaa.Pure
open Go.RowKit Go.Proofs.Ytkmlhfmffnbccaa.PSplitNames Go.Proofs.YtkmlhfmffnbccaaW.PrintWords Go.Proofs.YtkmlhfmffnbccaaW.PrintLast Go.Proofs.YtkmlhfmffnbccaaW.PrintMore

/-! ### Small words: numbers that fit, rounds, bytes of a cut -/
theorem w64 {n : Int} (h0 : -9223372036854775808 ≤ n) (h1 : n ≤ 9223372036854775807) : wrap64 n = n := by unfold wrap64; omega
theorem bt_nonneg (s : ByteArray) (i : Int) : 0 ≤ bt s i := (bt_range s i).1
theorem bt_le (s : ByteArray) (i : Int) : bt s i ≤ 255 := (bt_range s i).2
theorem bt_nat (s : ByteArray) (n : Nat) (h : n < s.size) : bt s (n : Int) = ((s[n]'h).toNat : Int) := by simp [bt, h]
theorem bt_out (s : ByteArray) (i : Int) (h : s.size ≤ i.toNat) : bt s i = 0 := by unfold bt; rw [dif_neg (by omega)]
theorem bt_extract (s : ByteArray) (m n : Nat) (i : Nat) (hi : m + i < n) (hn : n ≤ s.size) : bt (s.extract m n) (i : Int) = bt s ((m + i : Nat) : Int) := by
  have h1 : i < (s.extract m n).size := by rw [ByteArray.size_extract]; omega
  rw [bt_nat _ _ h1, bt_nat _ _ (by omega)]
  rw [ByteArray.getElem_extract]
theorem bytes_ext {a b : ByteArray} (hs : a.size = b.size) (h : ∀ i : Nat, i < a.size → bt a (i : Int) = bt b (i : Int)) : a = b := by
  apply ByteArray.ext_getElem hs
  intro i h1 h2
  have := h i h1
  rw [bt_nat _ _ h1, bt_nat _ _ h2] at this
  exact UInt8.toNat_inj.1 (by omega)
theorem toList_eq_nil (s : ByteArray) : s.toList = ([] : List UInt8) ↔ s.size = 0 := by
  rw [ByteArray.toList_eq]
  constructor
  · intro h
    have : s.data.toList.length = 0 := by rw [h]; rfl
    rwa [data_length] at this
  · intro h
    apply List.eq_nil_of_length_eq_zero
    rwa [data_length]
theorem toList_inj {a b : ByteArray} : a.toList = b.toList ↔ a = b := by
  constructor
  · intro h
    rw [ByteArray.toList_eq, ByteArray.toList_eq] at h
    exact ByteArray.ext (Array.toList_inj.1 h)
  · intro h; rw [h]

/-! ### split: the last / of a name's first bytes; its cuts -/
/-- The last place below n with a byte; -1: none. -/
def lastAt (s : ByteArray) (c : Int) : Nat → Int
  | 0 => -1
  | n + 1 => if bt s (n : Int) = c then (n : Int) else lastAt s c n
theorem lastAt_ge (s : ByteArray) (c : Int) : ∀ n, -1 ≤ lastAt s c n
  | 0 => by simp [lastAt]
  | n + 1 => by
    unfold lastAt
    split
    · omega
    · exact lastAt_ge s c n
theorem lastAt_lt (s : ByteArray) (c : Int) : ∀ n : Nat, lastAt s c n < n
  | 0 => by simp [lastAt]
  | n + 1 => by
    unfold lastAt
    split
    · omega
    · have := lastAt_lt s c n; omega
theorem lastAt_is (s : ByteArray) (c : Int) : ∀ n, 0 ≤ lastAt s c n → bt s (lastAt s c n) = c
  | 0, h => by simp [lastAt] at h
  | n + 1, h => by
    unfold lastAt at h ⊢
    split
    · assumption
    · rename_i hc
      rw [if_neg hc] at h
      exact lastAt_is s c n h
theorem lastAt_none (s : ByteArray) (c : Int) : ∀ (n : Nat) (i : Nat), i < n → lastAt s c n < i → bt s (i : Int) ≠ c
  | 0, i, h, _ => by omega
  | n + 1, i, h, hl => by
    unfold lastAt at hl
    split at hl
    · omega
    · rename_i hc
      rcases Nat.lt_or_ge i n with h1 | h1
      · exact lastAt_none s c n i h1 hl
      · have : i = n := by omega
        subst this; exact hc
theorem lastAt_congr (s t : ByteArray) (c : Int) : ∀ n : Nat, (∀ i : Nat, i < n → bt s (i : Int) = bt t (i : Int)) → lastAt s c n = lastAt t c n
  | 0, _ => rfl
  | n + 1, h => by
    unfold lastAt
    rw [h n (by omega), lastAt_congr s t c n (fun i hi => h i (by omega))]
theorem libs_l0 (s : ByteArray) (c : Int) (hs : s.size ≤ 140737488351232) : ∀ n : Nat, n ≤ s.size → Ev (fun k => bytealg_LastIndexByteString.l0 k s c ((n : Int) - 1)) (lastAt s c n)
  | 0, _ => by
    refine Ev.step (fun k => bytealg_LastIndexByteString.l0.eq_2 ..) ?_
    simp only [ge_iff_le, if_neg (show ¬ (0 : Int) ≤ ((0 : Nat) : Int) - 1 by omega)]
    exact Ev.now _
  | n + 1, hn => by
    refine Ev.step (fun k => bytealg_LastIndexByteString.l0.eq_2 ..) ?_
    have e : ((n + 1 : Nat) : Int) - 1 = (n : Int) := by omega
    rw [e]
    simp only [ge_iff_le, if_pos (show (0 : Int) ≤ (n : Int) by omega), if_pos (show (n : Int) < (s.size : Int) by omega)]
    unfold lastAt
    by_cases hc : bt s (n : Int) = c
    · simp only [if_pos hc]
      exact Ev.now _
    · simp only [if_neg hc]
      rw [w64 (by omega) (by omega)]
      exact libs_l0 s c hs n (by omega)
theorem lib_ev (s : ByteArray) (c : Int) (hs : s.size ≤ 140737488351232) : Ev (fun k => strings_LastIndexByte.f k s c) (lastAt s c s.size) := by
  unfold strings_LastIndexByte.f bytealg_LastIndexByteString.f
  rw [w64 (by omega) (by omega)]
  exact Ev.bind (libs_l0 s c hs s.size (Nat.le_refl _)) (Ev.now _)
/-- Of the first m bytes. -/
theorem lib_cut (s : ByteArray) (m : Nat) (c : Int) (hm : m ≤ s.size) (hs : s.size ≤ 140737488351232) : Ev (fun k => strings_LastIndexByte.f k (s.extract 0 m) c) (lastAt s c m) := by
  have hz : (s.extract 0 m).size = m := by rw [ByteArray.size_extract]; omega
  have h := lib_ev (s.extract 0 m) c (by omega)
  rw [hz, lastAt_congr _ s c m (fun i hi => by rw [bt_extract s 0 m i (by omega) hm, Nat.zero_add])] at h
  exact h

/-- May a name be cut there? -/
def isCut (s : ByteArray) (i : Nat) : Bool := decide (bt s (i : Int) = 47 ∧ 1 ≤ i ∧ i ≤ 155 ∧ i + 2 ≤ s.size ∧ s.size ≤ i + 101)
theorem isCut_iff (s : ByteArray) (i : Nat) : isCut s i = true ↔ (bt s (i : Int) = 47 ∧ 1 ≤ i ∧ i ≤ 155 ∧ i + 2 ≤ s.size ∧ s.size ≤ i + 101) := by unfold isCut; simp
theorem cut_eq (s : ByteArray) (i : Nat) (hi : i ≤ s.size) (hs : s.size ≤ 140737488351232) : split_cut.f s (i : Int) = some (decide (1 ≤ i ∧ i ≤ 155 ∧ i + 2 ≤ s.size ∧ s.size ≤ i + 101)) := by
  unfold split_cut.f
  rw [w64 (n := (s.size : Int) - i) (by omega) (by omega), w64 (by omega) (by omega)]
  by_cases h1 : 1 ≤ i
  · rw [if_pos (by omega)]
    by_cases h2 : i ≤ 155
    · rw [if_pos (by omega)]
      by_cases h3 : i + 2 ≤ s.size
      · rw [if_pos (by omega)]
        congr 1
        simp only [decide_eq_decide]
        omega
      · rw [if_neg (by omega), decide_eq_false (by omega)]
    · rw [if_neg (by omega), decide_eq_false (by omega)]
  · rw [if_neg (by omega), decide_eq_false (by omega)]
/-- Cuts from a place on, d places more. -/
def cutsF (s : ByteArray) : Nat → Nat → List Int
  | 0, _ => []
  | d + 1, i => if isCut s i = true then (i : Int) :: cutsF s d (i + 1) else cutsF s d (i + 1)
theorem cutsF_len (s : ByteArray) : ∀ d i, (cutsF s d i).length ≤ d
  | 0, _ => by simp [cutsF]
  | d + 1, i => by
    unfold cutsF
    have := cutsF_len s d (i + 1)
    split
    · simp; omega
    · omega
theorem cutsF_none (s : ByteArray) : ∀ d i, (∀ j, i ≤ j → j < i + d → isCut s j = false) → cutsF s d i = []
  | 0, _, _ => rfl
  | d + 1, i, h => by
    unfold cutsF
    rw [h i (by omega) (by omega), if_neg (by simp)]
    exact cutsF_none s d (i + 1) (fun j h1 h2 => h j (by omega) (by omega))
theorem cutsF_skip (s : ByteArray) : ∀ e d i, (∀ j, i ≤ j → j < i + e → isCut s j = false) → cutsF s (e + d) i = cutsF s d (i + e)
  | 0, d, i, _ => by simp
  | e + 1, d, i, h => by
    rw [show e + 1 + d = (e + d) + 1 from by omega]
    conv => lhs; unfold cutsF
    rw [h i (by omega) (by omega), if_neg (by simp), cutsF_skip s e d (i + 1) (fun j h1 h2 => h j (by omega) (by omega))]
    congr 1; omega
def allCuts (s : ByteArray) : List Int := cutsF s s.size 0
theorem isCut_false {s : ByteArray} {j : Nat} (h : ¬ (1 ≤ j ∧ j ≤ 155 ∧ j + 2 ≤ s.size ∧ s.size ≤ j + 101)) : isCut s j = false := by
  unfold isCut
  simp only [decide_eq_false_iff_not]
  omega
/-- The last place at which the name may be cut; -1: none. -/
def lastCut (s : ByteArray) : Nat → Int
  | 0 => -1
  | n + 1 => if isCut s n = true then (n : Int) else lastCut s n
theorem lastCut_uniq (s : ByteArray) : ∀ n (i : Nat), i < n → isCut s i = true → (∀ j, i < j → j < n → isCut s j = false) → lastCut s n = i
  | 0, i, h, _, _ => by omega
  | n + 1, i, h, hc, ha => by
    unfold lastCut
    rcases Nat.lt_or_ge i n with h1 | h1
    · rw [ha n h1 (by omega), if_neg (by simp)]
      exact lastCut_uniq s n i h1 hc (fun j h2 h3 => ha j h2 (by omega))
    · have : i = n := by omega
      subst this; rw [if_pos hc]
theorem lastCut_none (s : ByteArray) : ∀ n, (∀ j, j < n → isCut s j = false) → lastCut s n = -1
  | 0, _ => rfl
  | n + 1, ha => by
    unfold lastCut
    rw [ha n (by omega), if_neg (by simp)]
    exact lastCut_none s n (fun j h => ha j (by omega))
theorem lastCut_is (s : ByteArray) : ∀ n, lastCut s n = -1 ∧ (∀ j, j < n → isCut s j = false) ∨ ∃ i : Nat, i < n ∧ lastCut s n = (i : Int) ∧ isCut s i = true ∧ (∀ j, i < j → j < n → isCut s j = false)
  | 0 => .inl ⟨rfl, fun j h => by omega⟩
  | n + 1 => by
    unfold lastCut
    by_cases h : isCut s n = true
    · rw [if_pos h]
      exact .inr ⟨n, by omega, rfl, h, fun j h1 h2 => by omega⟩
    · rw [if_neg h]
      rcases lastCut_is s n with ⟨h1, h2⟩ | ⟨i, h1, h2, h3, h4⟩
      · exact .inl ⟨h1, fun j hj => by
          rcases Nat.lt_or_ge j n with h5 | h5
          · exact h2 j h5
          · have : j = n := by omega
            subst this; simpa using h⟩
      · exact .inr ⟨i, by omega, h2, h3, fun j hj hn => by
          rcases Nat.lt_or_ge j n with h5 | h5
          · exact h4 j hj h5
          · have : j = n := by omega
            subst this; simpa using h⟩
/-- How a name splits. -/
def splitOf (s : ByteArray) : ByteArray × ByteArray × Bool :=
  if s.size = 0 then (⟨#[]⟩, ⟨#[]⟩, false) else if s.size ≤ 100 then (⟨#[]⟩, s, true)
  else if lastCut s s.size < 0 then (⟨#[]⟩, ⟨#[]⟩, false) else (s.extract 0 (lastCut s s.size).toNat, s.extract ((lastCut s s.size).toNat + 1) s.size, true)
theorem mn_eq (a b : Int) : mn a b = if a ≤ b then a else b := by unfold mn; split <;> split <;> omega
theorem splitOf_at (s : ByteArray) (h : 100 < s.size) (i : Nat) (hi : i < s.size) (hb : bt s (i : Int) = 47) (ha : ∀ j, i < j → j < s.size → j ≤ 155 → j + 2 ≤ s.size → bt s (j : Int) ≠ 47) (h1 : i ≤ 155) (h2 : i + 2 ≤ s.size) :
    splitOf s = if 1 ≤ i ∧ i ≤ 155 ∧ i + 2 ≤ s.size ∧ s.size ≤ i + 101 then (s.extract 0 i, s.extract (i + 1) s.size, true) else (⟨#[]⟩, ⟨#[]⟩, false) := by
  have hrest : ∀ j, i < j → j < s.size → isCut s j = false := by
    intro j hj hjs
    cases hcj : isCut s j with
    | false => rfl
    | true => have := (isCut_iff s j).1 hcj; exact absurd this.1 (ha j hj hjs (by omega) (by omega))
  unfold splitOf
  rw [if_neg (by omega), if_neg (by omega)]
  by_cases hc : 1 ≤ i ∧ i ≤ 155 ∧ i + 2 ≤ s.size ∧ s.size ≤ i + 101
  · have hcut : isCut s i = true := (isCut_iff s i).2 ⟨hb, hc⟩
    rw [lastCut_uniq s s.size i hi hcut hrest, if_neg (by omega), if_pos hc]
    simp
  · rw [if_neg hc, lastCut_none s s.size, if_pos (by omega)]
    intro j hj
    rcases Nat.lt_or_ge i j with h3 | h3
    · exact hrest j h3 hj
    · exact isCut_false (by omega)
theorem splitOf_no (s : ByteArray) (h : 100 < s.size) (ha : ∀ j, j < s.size → j ≤ 155 → j + 2 ≤ s.size → bt s (j : Int) ≠ 47) : splitOf s = (⟨#[]⟩, ⟨#[]⟩, false) := by
  unfold splitOf
  rw [if_neg (by omega), if_neg (by omega), lastCut_none s s.size, if_pos (by omega)]
  intro j hj
  cases hcj : isCut s j with
  | false => rfl
  | true => have := (isCut_iff s j).1 hcj; exact absurd this.1 (ha j hj (by omega) (by omega))
theorem split_ev (s : ByteArray) (hs : s.size ≤ 140737488351232) : Ev (fun k => split_Split.f k s) (splitOf s) := by
  unfold split_Split.f
  by_cases h0 : s.size = 0
  · simp only [if_pos ((toList_eq_nil s).2 h0)]
    refine Ev.step (fun k => split_Split.j0.eq_2 ..) ?_
    simp only [if_true]
    unfold splitOf
    rw [if_pos h0]
    exact Ev.now _
  simp only [if_neg (show ¬ s.toList = [] from fun h => h0 ((toList_eq_nil s).1 h))]
  simp only [split_Most.f, Option.bind_some]
  refine Ev.step (fun k => split_Split.j0.eq_2 ..) ?_
  by_cases h256 : s.size ≤ 256
  case neg =>
    simp only [decide_eq_true (show (s.size : Int) > 256 by omega), if_true]
    unfold splitOf
    rw [if_neg h0, if_neg (by omega), lastCut_none s s.size (fun j _ => isCut_false (by omega)), if_pos (by omega)]
    exact Ev.now _
  simp only [decide_eq_false (show ¬ (s.size : Int) > 256 by omega), Bool.false_eq_true, if_false]
  by_cases h100 : s.size ≤ 100
  · simp only [if_pos (show (s.size : Int) ≤ 100 by omega)]
    unfold splitOf
    rw [if_neg h0, if_pos h100]
    exact Ev.now _
  simp only [if_neg (show ¬ (s.size : Int) ≤ 100 by omega)]
  have hmn : mn (s.size : Int) 156 = ((min s.size 156 : Nat) : Int) := by rw [mn_eq]; split <;> omega
  rw [hmn]
  have hm : min s.size 156 ≤ s.size := Nat.min_le_left _ _
  simp only [if_pos (show (0 : Int) ≤ ((min s.size 156 : Nat) : Int) by omega), if_pos (show ((min s.size 156 : Nat) : Int) ≤ (s.size : Int) by omega), Int.toNat_natCast]
  refine Ev.bind (lib_cut s (min s.size 156) 47 hm hs) ?_
  rw [w64 (n := (s.size : Int) - 1) (by omega) (by omega)]
  have g1 := lastAt_ge s 47 (min s.size 156)
  have g2 := lastAt_lt s 47 (min s.size 156)
  have g3 := lastAt_is s 47 (min s.size 156)
  have g4 := lastAt_none s 47 (min s.size 156)
  generalize lastAt s 47 (min s.size 156) = a at g1 g2 g3 g4
  by_cases he : a = (s.size : Int) - 1
  · obtain ⟨n, hn⟩ : ∃ n : Nat, a = (n : Int) := ⟨a.toNat, by omega⟩
    simp only [if_pos he, if_pos (show 0 ≤ a by omega), if_pos (show a ≤ (s.size : Int) by omega)]
    subst hn
    simp only [Int.toNat_natCast]
    refine Ev.bind (lib_cut s n 47 (by omega) hs) ?_
    have k1 := lastAt_ge s 47 n
    have k2 := lastAt_lt s 47 n
    have k3 := lastAt_is s 47 n
    have k4 := lastAt_none s 47 n
    generalize lastAt s 47 n = b at k1 k2 k3 k4
    by_cases hb : b < 0
    · simp only [if_pos hb]
      rw [splitOf_no s (by omega) (fun j h1 h2 h3 => k4 j (by omega) (by omega))]
      exact Ev.now _
    · obtain ⟨m, hm'⟩ : ∃ m : Nat, b = (m : Int) := ⟨b.toNat, by omega⟩
      subst hm'
      simp only [if_neg hb, cut_eq s m (by omega) hs, Option.bind_some]
      rw [splitOf_at s (by omega) m (by omega) (k3 (by omega)) (fun j h1 h2 h3 h4 => k4 j (by omega) (by omega)) (by omega) (by omega)]
      rw [w64 (n := (m : Int) + 1) (by omega) (by omega)]
      by_cases hc : 1 ≤ m ∧ m ≤ 155 ∧ m + 2 ≤ s.size ∧ s.size ≤ m + 101
      · simp only [decide_eq_true hc, if_true, if_pos (show (0 : Int) ≤ (m : Int) by omega), if_pos (show (m : Int) ≤ (s.size : Int) by omega), if_pos (show (0 : Int) ≤ (m : Int) + 1 by omega), if_pos (show (m : Int) + 1 ≤ (s.size : Int) by omega), Int.toNat_natCast, if_pos hc]
        exact Ev.now _
      · simp only [decide_eq_false hc, Bool.false_eq_true, if_false, if_neg hc]
        exact Ev.now _
  · simp only [if_neg he]
    by_cases hb : a < 0
    · simp only [if_pos hb]
      rw [splitOf_no s (by omega) (fun j h1 h2 h3 => g4 j (by omega) (by omega))]
      exact Ev.now _
    · obtain ⟨m, hm'⟩ : ∃ m : Nat, a = (m : Int) := ⟨a.toNat, by omega⟩
      subst hm'
      simp only [if_neg hb, cut_eq s m (by omega) hs, Option.bind_some]
      rw [splitOf_at s (by omega) m (by omega) (g3 (by omega)) (fun j h1 h2 h3 h4 => g4 j (by omega) (by omega)) (by omega) (by omega)]
      rw [w64 (n := (m : Int) + 1) (by omega) (by omega)]
      by_cases hc : 1 ≤ m ∧ m ≤ 155 ∧ m + 2 ≤ s.size ∧ s.size ≤ m + 101
      · simp only [decide_eq_true hc, if_true, if_pos (show (0 : Int) ≤ (m : Int) by omega), if_pos (show (m : Int) ≤ (s.size : Int) by omega), if_pos (show (0 : Int) ≤ (m : Int) + 1 by omega), if_pos (show (m : Int) + 1 ≤ (s.size : Int) by omega), Int.toNat_natCast, if_pos hc]
        exact Ev.now _
      · simp only [decide_eq_false hc, Bool.false_eq_true, if_false, if_neg hc]
        exact Ev.now _

theorem cuts_l0 (s : ByteArray) (hs : s.size ≤ 140737488351232) : ∀ (d i : Nat) (acc : List Int), i + d = s.size → 1 ≤ i → acc.length + d ≤ s.size → acc.length + d ≤ 10000 → Ev (fun k => split_Cuts.l0 k s acc (i : Int)) (acc ++ cutsF s d i)
  | 0, i, acc, h, _, _, _ => by
    refine Ev.step (fun k => split_Cuts.l0.eq_2 ..) ?_
    simp only [if_neg (show ¬ (i : Int) < (s.size : Int) by omega)]
    refine Ev.step (fun k => split_Cuts.j1.eq_2 ..) ?_
    simp only [Bool.false_eq_true, if_false, cutsF, List.append_nil]
    exact Ev.now _
  | d + 1, i, acc, h, h1, hl, hl2 => by
    refine Ev.step (fun k => split_Cuts.l0.eq_2 ..) ?_
    simp only [if_pos (show (i : Int) < (s.size : Int) by omega)]
    refine Ev.step (fun k => split_Cuts.j1.eq_2 ..) ?_
    by_cases h155 : i ≤ 155
    · simp only [decide_eq_true (show (i : Int) ≤ 155 by omega), if_true, if_pos (show (0 : Int) ≤ (i : Int) by omega), if_pos (show (i : Int) < (s.size : Int) by omega)]
      rw [show wrap64 ((i : Int) + 1) = ((i + 1 : Nat) : Int) from by rw [w64 (by omega) (by omega)]; omega]
      conv => rhs; unfold cutsF
      by_cases hb : bt s (i : Int) = 47
      · simp only [if_pos hb, cut_eq s i (by omega) hs, Option.bind_some]
        by_cases hc : isCut s i = true
        · have hc' := (isCut_iff s i).1 hc
          simp only [decide_eq_true hc'.2, if_true, hc, if_pos (show acc.length < 17592186044416 by omega)]
          have := cuts_l0 s hs d (i + 1) (acc ++ [(i : Int)]) (by omega) (by omega) (by simp; omega) (by simp; omega)
          simpa using this
        · have hc' : ¬ (1 ≤ i ∧ i ≤ 155 ∧ i + 2 ≤ s.size ∧ s.size ≤ i + 101) := fun h' => hc ((isCut_iff s i).2 ⟨hb, h'⟩)
          simp only [decide_eq_false hc', hc, Bool.false_eq_true, if_false]
          exact cuts_l0 s hs d (i + 1) acc (by omega) (by omega) (by omega) (by omega)
      · have hc : isCut s i = false := by unfold isCut; simp [hb]
        simp only [if_neg hb, hc, Bool.false_eq_true, if_false]
        exact cuts_l0 s hs d (i + 1) acc (by omega) (by omega) (by omega) (by omega)
    · simp only [decide_eq_false (show ¬ (i : Int) ≤ 155 by omega), Bool.false_eq_true, if_false]
      rw [cutsF_none s (d + 1) i (fun j h2 h3 => isCut_false (by omega)), List.append_nil]
      exact Ev.now _
theorem mx_eq (a b : Int) : mx a b = if a ≤ b then b else a := by unfold mx; split <;> split <;> omega
theorem cuts_ev (s : ByteArray) (hs : s.size ≤ 5000) : Ev (fun k => split_Cuts.f k s) (allCuts s) := by
  unfold split_Cuts.f allCuts
  rw [w64 (n := (s.size : Int) - 1) (by omega) (by omega), w64 (by omega) (by omega)]
  rcases Nat.lt_or_ge s.size 102 with h | h
  · rw [mx_eq, if_neg (by omega)]
    rcases Nat.eq_zero_or_pos s.size with h0 | h0
    · rw [h0]
      refine Ev.step (fun k => split_Cuts.l0.eq_2 ..) ?_
      simp only [h0, if_neg (show ¬ (1 : Int) < ((0 : Nat) : Int) by omega)]
      refine Ev.step (fun k => split_Cuts.j1.eq_2 ..) ?_
      simp only [Bool.false_eq_true, if_false, cutsF]
      exact Ev.now _
    · rw [show s.size = 1 + (s.size - 1) from by omega, cutsF_skip s 1 _ 0 (fun j h1 h2 => isCut_false (by omega))]
      exact cuts_l0 s (by omega) (s.size - 1) 1 [] (by omega) (by omega) (by simp only [List.length_nil]; omega) (by simp only [List.length_nil]; omega)
  · rw [mx_eq, if_pos (by omega), show (s.size : Int) - 1 - 100 = ((s.size - 101 : Nat) : Int) from by omega]
    rw [show s.size = (s.size - 101) + 101 from by omega, cutsF_skip s (s.size - 101) 101 0 (fun j h1 h2 => isCut_false (by omega))]
    have := cuts_l0 s (by omega) 101 (s.size - 101) [] (by omega) (by omega) (by simp only [List.length_nil]; omega) (by simp only [List.length_nil]; omega)
    simpa using this

theorem alive_ev : Ev (fun k => oakumlaw10_alive.f k) true := Ev.of oakumlaw10_alive.mono (k := 10) (by decide +kernel)

/-! ### The document's cuts, and its way to split -/
theorem refcuts_l0 (s : ByteArray) (hs : s.size ≤ 5000) : ∀ (d i : Nat) (acc : List Int), i + d = s.size → acc.length + d ≤ 10000 → Ev (fun k => oakumref10_Cuts.l0 k s acc (i : Int)) (acc ++ cutsF s d i)
  | 0, i, acc, h, _ => by
    refine Ev.step (fun k => oakumref10_Cuts.l0.eq_2 ..) ?_
    simp only [if_neg (show ¬ (i : Int) < (s.size : Int) by omega), cutsF, List.append_nil]
    exact Ev.now _
  | d + 1, i, acc, h, hl => by
    refine Ev.step (fun k => oakumref10_Cuts.l0.eq_2 ..) ?_
    simp only [if_pos (show (i : Int) < (s.size : Int) by omega), if_pos (show (0 : Int) ≤ (i : Int) by omega)]
    rw [w64 (n := (s.size : Int) - i) (by omega) (by omega), show wrap64 ((i : Int) + 1) = ((i + 1 : Nat) : Int) from by rw [w64 (by omega) (by omega)]; omega]
    conv => rhs; unfold cutsF
    have no (hc : ¬ isCut s i = true) : Ev (fun k => oakumref10_Cuts.l0 k s acc ((i + 1 : Nat) : Int)) (acc ++ if isCut s i = true then (i : Int) :: cutsF s d (i + 1) else cutsF s d (i + 1)) := by
      rw [if_neg hc]
      exact refcuts_l0 s hs d (i + 1) acc (by omega) (by omega)
    by_cases hb : bt s (i : Int) = 47
    · simp only [if_pos hb]
      by_cases h1 : 1 ≤ i
      · simp only [if_pos (show (i : Int) ≥ 1 by omega)]
        by_cases h2 : i ≤ 155
        · simp only [if_pos (show (i : Int) ≤ 155 by omega)]
          by_cases h3 : i + 2 ≤ s.size
          · simp only [if_pos (show (s.size : Int) - i ≥ 2 by omega)]
            by_cases h4 : s.size ≤ i + 101
            · have hc : isCut s i = true := (isCut_iff s i).2 ⟨hb, h1, h2, h3, h4⟩
              simp only [if_pos (show (s.size : Int) - i ≤ 101 by omega), if_pos (show acc.length < 17592186044416 by omega), if_pos hc]
              have := refcuts_l0 s hs d (i + 1) (acc ++ [(i : Int)]) (by omega) (by simp; omega)
              simpa using this
            · simp only [if_neg (show ¬ (s.size : Int) - i ≤ 101 by omega)]
              exact no (fun hc => by have := (isCut_iff s i).1 hc; omega)
          · simp only [if_neg (show ¬ (s.size : Int) - i ≥ 2 by omega)]
            exact no (fun hc => by have := (isCut_iff s i).1 hc; omega)
        · simp only [if_neg (show ¬ (i : Int) ≤ 155 by omega)]
          exact no (fun hc => by have := (isCut_iff s i).1 hc; omega)
      · simp only [if_neg (show ¬ (i : Int) ≥ 1 by omega)]
        exact no (fun hc => by have := (isCut_iff s i).1 hc; omega)
    · simp only [if_neg hb]
      exact no (fun hc => by have := (isCut_iff s i).1 hc; exact hb this.1)
theorem refcuts_ev (s : ByteArray) (hs : s.size ≤ 5000) : Ev (fun k => oakumref10_Cuts.f k s) (allCuts s) := by
  unfold oakumref10_Cuts.f allCuts
  have := refcuts_l0 s hs s.size 0 [] (by omega) (by simp; omega)
  simpa using this
theorem rd_nat (l : List Int) (n : Nat) : rd l (n : Int) = l.getD n 0 := by unfold rd; simp
theorem cutsF_last (s : ByteArray) : ∀ (d i : Nat), (cutsF s d i = [] ∧ ∀ j, i ≤ j → j < i + d → isCut s j = false) ∨ ∃ m : Nat, cutsF s d i ≠ [] ∧ (cutsF s d i).getD ((cutsF s d i).length - 1) 0 = (m : Int) ∧ isCut s m = true ∧ m < i + d ∧ ∀ j, m < j → j < i + d → isCut s j = false
  | 0, i => .inl ⟨rfl, fun j h1 h2 => by omega⟩
  | d + 1, i => by
    unfold cutsF
    have ih := cutsF_last s d (i + 1)
    by_cases h : isCut s i = true
    · rw [if_pos h]
      right
      rcases ih with ⟨h1, h2⟩ | ⟨m, h1, h2, h3, h4, h5⟩
      · rw [h1]
        exact ⟨i, by simp, by simp, h, by omega, fun j hj hk => h2 j (by omega) (by omega)⟩
      · refine ⟨m, by simp, ?_, h3, by omega, fun j hj hk => h5 j hj (by omega)⟩
        cases hl : cutsF s d (i + 1) with
        | nil => exact absurd hl h1
        | cons x r => rw [hl] at h2; simpa using h2
    · rw [if_neg h]
      rcases ih with ⟨h1, h2⟩ | ⟨m, h1, h2, h3, h4, h5⟩
      · refine .inl ⟨h1, fun j hj hk => ?_⟩
        rcases Nat.lt_or_ge i j with g | g
        · exact h2 j (by omega) (by omega)
        · have : j = i := by omega
          subst this; simpa using h
      · exact .inr ⟨m, h1, h2, h3, by omega, fun j hj hk => h5 j hj (by omega)⟩
theorem refsplit_ev (s : ByteArray) (hs : s.size ≤ 5000) : Ev (fun k => oakumref10_Split.f k s) (splitOf s) := by
  unfold oakumref10_Split.f
  have hl := cutsF_len s s.size 0
  have more (h : s.size = 0 ∨ 100 < s.size) : Ev (fun k => oakumref10_Split.j0 k s false) (splitOf s) := by
    refine Ev.step (fun k => oakumref10_Split.j0.eq_2 ..) ?_
    simp only [Bool.false_eq_true, if_false]
    refine Ev.bind (refcuts_ev s hs) ?_
    have key := cutsF_last s s.size 0
    unfold splitOf allCuts
    rcases key with ⟨h1, h2⟩ | ⟨m, h1, h2, h3, h4, h5⟩
    · simp only [h1, List.length_nil, if_pos (show ((0 : Nat) : Int) = 0 by omega)]
      rcases h with h | h
      · rw [if_pos h]; exact Ev.now _
      · rw [if_neg (by omega), if_neg (by omega), lastCut_none s s.size (fun j hj => h2 j (by omega) (by omega)), if_pos (by omega)]
        exact Ev.now _
    · have hp : 0 < (cutsF s s.size 0).length := List.length_pos_iff.2 h1
      have hw : wrap64 (((cutsF s s.size 0).length : Int) - 1) = (((cutsF s s.size 0).length - 1 : Nat) : Int) := by rw [w64 (by omega) (by omega)]; omega
      have hm : wrap64 ((m : Int) + 1) = ((m + 1 : Nat) : Int) := by rw [w64 (by omega) (by omega)]; omega
      simp only [hw, if_neg (show ¬ ((cutsF s s.size 0).length : Int) = 0 by omega), if_pos (show (0 : Int) ≤ (((cutsF s s.size 0).length - 1 : Nat) : Int) by omega), if_pos (show (((cutsF s s.size 0).length - 1 : Nat) : Int) < ((cutsF s s.size 0).length : Int) by omega), rd_nat, h2, hm,
        if_pos (show (0 : Int) ≤ (m : Int) by omega), if_pos (show (m : Int) ≤ (s.size : Int) by omega), if_pos (show (0 : Int) ≤ ((m + 1 : Nat) : Int) by omega), if_pos (show ((m + 1 : Nat) : Int) ≤ (s.size : Int) by omega), Int.toNat_natCast]
      rw [if_neg (by omega), if_neg (by omega), lastCut_uniq s s.size m (by omega) h3 (fun j hj hk => h5 j hj (by omega)), if_neg (by omega), Int.toNat_natCast]
      exact Ev.now _
  by_cases h0 : s.size = 0
  · simp only [if_pos ((toList_eq_nil s).2 h0)]
    exact more (.inl h0)
  · simp only [if_neg (show ¬ s.toList = [] from fun h => h0 ((toList_eq_nil s).1 h))]
    by_cases h1 : s.size ≤ 100
    · simp only [decide_eq_true (show (s.size : Int) ≤ 100 by omega)]
      refine Ev.step (fun k => oakumref10_Split.j0.eq_2 ..) ?_
      simp only [if_true]
      unfold splitOf
      rw [if_neg h0, if_pos h1]
      exact Ev.now _
    · simp only [decide_eq_false (show ¬ (s.size : Int) ≤ 100 by omega)]
      exact more (.inr (by omega))
theorem same_l0 (l : List Int) (hl : l.length ≤ 10000) : ∀ (d i : Nat), i + d = l.length → Ev (fun k => oakumref10_SameInts.l0 k l l (i : Int)) true
  | 0, i, h => by
    refine Ev.step (fun k => oakumref10_SameInts.l0.eq_2 ..) ?_
    simp only [if_neg (show ¬ (i : Int) < (l.length : Int) by omega)]
    exact Ev.now _
  | d + 1, i, h => by
    refine Ev.step (fun k => oakumref10_SameInts.l0.eq_2 ..) ?_
    simp only [if_pos (show (i : Int) < (l.length : Int) by omega), if_pos (show (0 : Int) ≤ (i : Int) by omega), if_true]
    rw [show wrap64 ((i : Int) + 1) = ((i + 1 : Nat) : Int) from by rw [w64 (by omega) (by omega)]; omega]
    exact same_l0 l hl d (i + 1) (by omega)
theorem SplitNames : oakumlaw10_SplitNames.Pure := by
  intro s hs
  refine Ev.rounds (g := fun k => oakumlaw10_SplitNames.f k s) ?_
  unfold oakumlaw10_SplitNames.f
  refine Ev.bind alive_ev ?_
  simp only [if_true]
  by_cases h5 : (s.size : Int) > 5000
  · simp only [if_pos h5]; exact Ev.now _
  simp only [if_neg h5]
  refine Ev.bind (split_ev s hs) ?_
  refine Ev.bind (refsplit_ev s (by omega)) ?_
  simp only [if_true, beq_self_eq_true]
  refine Ev.bind (cuts_ev s (by omega)) ?_
  refine Ev.bind (refcuts_ev s (by omega)) ?_
  have hl := cutsF_len s s.size 0
  have h : Ev (fun k => oakumref10_SameInts.f k (allCuts s) (allCuts s)) true := by
    unfold oakumref10_SameInts.f
    simp only [if_true]
    exact same_l0 (allCuts s) (by unfold allCuts; omega) (allCuts s).length 0 (by omega)
  exact Ev.bind h (Ev.now _)

end Go.Proofs.Ytkmlhfmffnbccaa.Pure
