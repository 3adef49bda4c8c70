/- The law SplitLast: its plain facts over lists, and its own walk over the printed contracts of what it calls: for every text the call returns true; no condition beyond the text reach. -/
import Derived.Test.YtkmlhfmffnbccaaPSplitLastx0
import Derived.Test.YtkmlhfmffnbccaaPSplitLastx1
import Derived.BigQuiet
set_option linter.unusedVariables false
set_option linter.unusedSimpArgs false
namespace Go.Proofs.Ytkmlhfmffnbccaa.Last
open Go.RowKit Go.Proofs.Ytkmlhfmffnbccaa.PSplitLast Go.Proofs.YtkmlhfmffnbccaaW.PrintWords Go.Proofs.YtkmlhfmffnbccaaW.PrintLast Go.Proofs.YtkmlhfmffnbccaaW.PrintMore

/-! ### Small words: numbers that fit, rounds, bytes of a cut -/
theorem w64 {n : Int} (h0 : -9223372036854775808 ≤ n) (h1 : n ≤ 9223372036854775807) : wrap64 n = n := by unfold wrap64; omega
theorem bt_nonneg (s : ByteArray) (i : Int) : 0 ≤ bt s i := (bt_range s i).1
theorem bt_le (s : ByteArray) (i : Int) : bt s i ≤ 255 := (bt_range s i).2
theorem bt_nat (s : ByteArray) (n : Nat) (h : n < s.size) : bt s (n : Int) = ((s[n]'h).toNat : Int) := by simp [bt, h]
theorem bt_out (s : ByteArray) (i : Int) (h : s.size ≤ i.toNat) : bt s i = 0 := by unfold bt; rw [dif_neg (by omega)]
theorem bt_extract (s : ByteArray) (m n : Nat) (i : Nat) (hi : m + i < n) (hn : n ≤ s.size) : bt (s.extract m n) (i : Int) = bt s ((m + i : Nat) : Int) := by
  have h1 : i < (s.extract m n).size := by rw [ByteArray.size_extract]; omega
  rw [bt_nat _ _ h1, bt_nat _ _ (by omega)]
  rw [ByteArray.getElem_extract]
theorem bytes_ext {a b : ByteArray} (hs : a.size = b.size) (h : ∀ i : Nat, i < a.size → bt a (i : Int) = bt b (i : Int)) : a = b := by
  apply ByteArray.ext_getElem hs
  intro i h1 h2
  have := h i h1
  rw [bt_nat _ _ h1, bt_nat _ _ h2] at this
  exact UInt8.toNat_inj.1 (by omega)
theorem toList_eq_nil (s : ByteArray) : s.toList = ([] : List UInt8) ↔ s.size = 0 := by
  rw [ByteArray.toList_eq]
  constructor
  · intro h
    have : s.data.toList.length = 0 := by rw [h]; rfl
    rwa [data_length] at this
  · intro h
    apply List.eq_nil_of_length_eq_zero
    rwa [data_length]
theorem toList_inj {a b : ByteArray} : a.toList = b.toList ↔ a = b := by
  constructor
  · intro h
    rw [ByteArray.toList_eq, ByteArray.toList_eq] at h
    exact ByteArray.ext (Array.toList_inj.1 h)
  · intro h; rw [h]
theorem wf_i64_bd {n : Int} (h : (Lit.int .i64 n).wf = true) : -9223372036854775808 ≤ n ∧ n ≤ 9223372036854775807 := by
  simp [Lit.wf, IntKind.min, IntKind.max, IntKind.signed, IntKind.bits] at h
  omega
theorem wf_u8_bd {n : Int} (h : (Lit.int .u8 n).wf = true) : 0 ≤ n ∧ n ≤ 255 := by
  simp [Lit.wf, IntKind.min, IntKind.max, IntKind.signed, IntKind.bits] at h
  omega
/-- Sums that fit (no equation with a wrap stays in a context: linear arithmetic would look into it). -/
theorem wadd1 (n : Nat) (h : n < 9223372036854775807) : wrap64 ((n : Int) + 1) = ((n + 1 : Nat) : Int) := by rw [w64 (by omega) (by omega)]; omega
theorem wadd4 (n : Nat) (h : n < 9223372036854775803) : wrap64 ((n : Int) + 4) = ((n + 4 : Nat) : Int) := by rw [w64 (by omega) (by omega)]; omega
theorem wsub1 (n : Nat) (h0 : 0 < n) (h : n < 9223372036854775807) : wrap64 ((n : Int) - 1) = ((n - 1 : Nat) : Int) := by rw [w64 (by omega) (by omega)]; omega

/-! ### split: the last / of a name's first bytes; its cuts -/
/-- The last place below n with a byte; -1: none. -/
def lastAt (s : ByteArray) (c : Int) : Nat → Int
  | 0 => -1
  | n + 1 => if bt s (n : Int) = c then (n : Int) else lastAt s c n
theorem lastAt_ge (s : ByteArray) (c : Int) : ∀ n, -1 ≤ lastAt s c n
  | 0 => by simp [lastAt]
  | n + 1 => by
    unfold lastAt
    split
    · omega
    · exact lastAt_ge s c n
theorem lastAt_lt (s : ByteArray) (c : Int) : ∀ n : Nat, lastAt s c n < n
  | 0 => by simp [lastAt]
  | n + 1 => by
    unfold lastAt
    split
    · omega
    · have := lastAt_lt s c n; omega
theorem lastAt_is (s : ByteArray) (c : Int) : ∀ n, 0 ≤ lastAt s c n → bt s (lastAt s c n) = c
  | 0, h => by simp [lastAt] at h
  | n + 1, h => by
    unfold lastAt at h ⊢
    split
    · assumption
    · rename_i hc
      rw [if_neg hc] at h
      exact lastAt_is s c n h
theorem lastAt_none (s : ByteArray) (c : Int) : ∀ (n : Nat) (i : Nat), i < n → lastAt s c n < i → bt s (i : Int) ≠ c
  | 0, i, h, _ => by omega
  | n + 1, i, h, hl => by
    unfold lastAt at hl
    split at hl
    · omega
    · rename_i hc
      rcases Nat.lt_or_ge i n with h1 | h1
      · exact lastAt_none s c n i h1 hl
      · have : i = n := by omega
        subst this; exact hc
theorem lastAt_congr (s t : ByteArray) (c : Int) : ∀ n : Nat, (∀ i : Nat, i < n → bt s (i : Int) = bt t (i : Int)) → lastAt s c n = lastAt t c n
  | 0, _ => rfl
  | n + 1, h => by
    unfold lastAt
    rw [h n (by omega), lastAt_congr s t c n (fun i hi => h i (by omega))]
theorem libs_l0 (s : ByteArray) (c : Int) (hs : s.size ≤ 140737488351232) : ∀ n : Nat, n ≤ s.size → Ev (fun k => bytealg_LastIndexByteString.l0 k s c ((n : Int) - 1)) (lastAt s c n)
  | 0, _ => by
    refine Ev.step (fun k => bytealg_LastIndexByteString.l0.eq_2 ..) ?_
    simp only [ge_iff_le, if_neg (show ¬ (0 : Int) ≤ ((0 : Nat) : Int) - 1 by omega)]
    exact Ev.now _
  | n + 1, hn => by
    refine Ev.step (fun k => bytealg_LastIndexByteString.l0.eq_2 ..) ?_
    have e : ((n + 1 : Nat) : Int) - 1 = (n : Int) := by omega
    rw [e]
    simp only [ge_iff_le, if_pos (show (0 : Int) ≤ (n : Int) by omega), if_pos (show (n : Int) < (s.size : Int) by omega)]
    unfold lastAt
    by_cases hc : bt s (n : Int) = c
    · simp only [if_pos hc]
      exact Ev.now _
    · simp only [if_neg hc]
      rw [w64 (by omega) (by omega)]
      exact libs_l0 s c hs n (by omega)
theorem lib_ev (s : ByteArray) (c : Int) (hs : s.size ≤ 140737488351232) : Ev (fun k => strings_LastIndexByte.f k s c) (lastAt s c s.size) := by
  unfold strings_LastIndexByte.f bytealg_LastIndexByteString.f
  rw [w64 (by omega) (by omega)]
  exact Ev.bind (libs_l0 s c hs s.size (Nat.le_refl _)) (Ev.now _)
/-- Of the first m bytes. -/
theorem lib_cut (s : ByteArray) (m : Nat) (c : Int) (hm : m ≤ s.size) (hs : s.size ≤ 140737488351232) : Ev (fun k => strings_LastIndexByte.f k (s.extract 0 m) c) (lastAt s c m) := by
  have hz : (s.extract 0 m).size = m := by rw [ByteArray.size_extract]; omega
  have h := lib_ev (s.extract 0 m) c (by omega)
  rw [hz, lastAt_congr _ s c m (fun i hi => by rw [bt_extract s 0 m i (by omega) hm, Nat.zero_add])] at h
  exact h

/-- May a name be cut there? -/
def isCut (s : ByteArray) (i : Nat) : Bool := decide (bt s (i : Int) = 47 ∧ 1 ≤ i ∧ i ≤ 155 ∧ i + 2 ≤ s.size ∧ s.size ≤ i + 101)
theorem isCut_iff (s : ByteArray) (i : Nat) : isCut s i = true ↔ (bt s (i : Int) = 47 ∧ 1 ≤ i ∧ i ≤ 155 ∧ i + 2 ≤ s.size ∧ s.size ≤ i + 101) := by unfold isCut; simp
theorem cut_eq (s : ByteArray) (i : Nat) (hi : i ≤ s.size) (hs : s.size ≤ 140737488351232) : split_cut.f s (i : Int) = some (decide (1 ≤ i ∧ i ≤ 155 ∧ i + 2 ≤ s.size ∧ s.size ≤ i + 101)) := by
  unfold split_cut.f
  rw [w64 (n := (s.size : Int) - i) (by omega) (by omega), w64 (by omega) (by omega)]
  by_cases h1 : 1 ≤ i
  · rw [if_pos (by omega)]
    by_cases h2 : i ≤ 155
    · rw [if_pos (by omega)]
      by_cases h3 : i + 2 ≤ s.size
      · rw [if_pos (by omega)]
        congr 1
        simp only [decide_eq_decide]
        omega
      · rw [if_neg (by omega), decide_eq_false (by omega)]
    · rw [if_neg (by omega), decide_eq_false (by omega)]
  · rw [if_neg (by omega), decide_eq_false (by omega)]
/-- Cuts from a place on, d places more. -/
def cutsF (s : ByteArray) : Nat → Nat → List Int
  | 0, _ => []
  | d + 1, i => if isCut s i = true then (i : Int) :: cutsF s d (i + 1) else cutsF s d (i + 1)
theorem cutsF_len (s : ByteArray) : ∀ d i, (cutsF s d i).length ≤ d
  | 0, _ => by simp [cutsF]
  | d + 1, i => by
    unfold cutsF
    have := cutsF_len s d (i + 1)
    split
    · simp; omega
    · omega
theorem cutsF_none (s : ByteArray) : ∀ d i, (∀ j, i ≤ j → j < i + d → isCut s j = false) → cutsF s d i = []
  | 0, _, _ => rfl
  | d + 1, i, h => by
    unfold cutsF
    rw [h i (by omega) (by omega), if_neg (by simp)]
    exact cutsF_none s d (i + 1) (fun j h1 h2 => h j (by omega) (by omega))
theorem cutsF_skip (s : ByteArray) : ∀ e d i, (∀ j, i ≤ j → j < i + e → isCut s j = false) → cutsF s (e + d) i = cutsF s d (i + e)
  | 0, d, i, _ => by simp
  | e + 1, d, i, h => by
    rw [show e + 1 + d = (e + d) + 1 from by omega]
    conv => lhs; unfold cutsF
    rw [h i (by omega) (by omega), if_neg (by simp), cutsF_skip s e d (i + 1) (fun j h1 h2 => h j (by omega) (by omega))]
    congr 1; omega
def allCuts (s : ByteArray) : List Int := cutsF s s.size 0
theorem isCut_false {s : ByteArray} {j : Nat} (h : ¬ (1 ≤ j ∧ j ≤ 155 ∧ j + 2 ≤ s.size ∧ s.size ≤ j + 101)) : isCut s j = false := by
  unfold isCut
  simp only [decide_eq_false_iff_not]
  omega
/-- The last place at which the name may be cut; -1: none. -/
def lastCut (s : ByteArray) : Nat → Int
  | 0 => -1
  | n + 1 => if isCut s n = true then (n : Int) else lastCut s n
theorem lastCut_uniq (s : ByteArray) : ∀ n (i : Nat), i < n → isCut s i = true → (∀ j, i < j → j < n → isCut s j = false) → lastCut s n = i
  | 0, i, h, _, _ => by omega
  | n + 1, i, h, hc, ha => by
    unfold lastCut
    rcases Nat.lt_or_ge i n with h1 | h1
    · rw [ha n h1 (by omega), if_neg (by simp)]
      exact lastCut_uniq s n i h1 hc (fun j h2 h3 => ha j h2 (by omega))
    · have : i = n := by omega
      subst this; rw [if_pos hc]
theorem lastCut_none (s : ByteArray) : ∀ n, (∀ j, j < n → isCut s j = false) → lastCut s n = -1
  | 0, _ => rfl
  | n + 1, ha => by
    unfold lastCut
    rw [ha n (by omega), if_neg (by simp)]
    exact lastCut_none s n (fun j h => ha j (by omega))
theorem lastCut_is (s : ByteArray) : ∀ n, lastCut s n = -1 ∧ (∀ j, j < n → isCut s j = false) ∨ ∃ i : Nat, i < n ∧ lastCut s n = (i : Int) ∧ isCut s i = true ∧ (∀ j, i < j → j < n → isCut s j = false)
  | 0 => .inl ⟨rfl, fun j h => by omega⟩
  | n + 1 => by
    unfold lastCut
    by_cases h : isCut s n = true
    · rw [if_pos h]
      exact .inr ⟨n, by omega, rfl, h, fun j h1 h2 => by omega⟩
    · rw [if_neg h]
      rcases lastCut_is s n with ⟨h1, h2⟩ | ⟨i, h1, h2, h3, h4⟩
      · exact .inl ⟨h1, fun j hj => by
          rcases Nat.lt_or_ge j n with h5 | h5
          · exact h2 j h5
          · have : j = n := by omega
            subst this; simpa using h⟩
      · exact .inr ⟨i, by omega, h2, h3, fun j hj hn => by
          rcases Nat.lt_or_ge j n with h5 | h5
          · exact h4 j hj h5
          · have : j = n := by omega
            subst this; simpa using h⟩
/-- How a name splits. -/
def splitOf (s : ByteArray) : ByteArray × ByteArray × Bool :=
  if s.size = 0 then (⟨#[]⟩, ⟨#[]⟩, false) else if s.size ≤ 100 then (⟨#[]⟩, s, true)
  else if lastCut s s.size < 0 then (⟨#[]⟩, ⟨#[]⟩, false) else (s.extract 0 (lastCut s s.size).toNat, s.extract ((lastCut s s.size).toNat + 1) s.size, true)
theorem mn_eq (a b : Int) : mn a b = if a ≤ b then a else b := by unfold mn; split <;> split <;> omega
theorem splitOf_at (s : ByteArray) (h : 100 < s.size) (i : Nat) (hi : i < s.size) (hb : bt s (i : Int) = 47) (ha : ∀ j, i < j → j < s.size → j ≤ 155 → j + 2 ≤ s.size → bt s (j : Int) ≠ 47) (h1 : i ≤ 155) (h2 : i + 2 ≤ s.size) :
    splitOf s = if 1 ≤ i ∧ i ≤ 155 ∧ i + 2 ≤ s.size ∧ s.size ≤ i + 101 then (s.extract 0 i, s.extract (i + 1) s.size, true) else (⟨#[]⟩, ⟨#[]⟩, false) := by
  have hrest : ∀ j, i < j → j < s.size → isCut s j = false := by
    intro j hj hjs
    cases hcj : isCut s j with
    | false => rfl
    | true => have := (isCut_iff s j).1 hcj; exact absurd this.1 (ha j hj hjs (by omega) (by omega))
  unfold splitOf
  rw [if_neg (by omega), if_neg (by omega)]
  by_cases hc : 1 ≤ i ∧ i ≤ 155 ∧ i + 2 ≤ s.size ∧ s.size ≤ i + 101
  · have hcut : isCut s i = true := (isCut_iff s i).2 ⟨hb, hc⟩
    rw [lastCut_uniq s s.size i hi hcut hrest, if_neg (by omega), if_pos hc]
    simp
  · rw [if_neg hc, lastCut_none s s.size, if_pos (by omega)]
    intro j hj
    rcases Nat.lt_or_ge i j with h3 | h3
    · exact hrest j h3 hj
    · exact isCut_false (by omega)
theorem splitOf_no (s : ByteArray) (h : 100 < s.size) (ha : ∀ j, j < s.size → j ≤ 155 → j + 2 ≤ s.size → bt s (j : Int) ≠ 47) : splitOf s = (⟨#[]⟩, ⟨#[]⟩, false) := by
  unfold splitOf
  rw [if_neg (by omega), if_neg (by omega), lastCut_none s s.size, if_pos (by omega)]
  intro j hj
  cases hcj : isCut s j with
  | false => rfl
  | true => have := (isCut_iff s j).1 hcj; exact absurd this.1 (ha j hj (by omega) (by omega))
theorem split_ev (s : ByteArray) (hs : s.size ≤ 140737488351232) : Ev (fun k => split_Split.f k s) (splitOf s) := by
  unfold split_Split.f
  by_cases h0 : s.size = 0
  · simp only [if_pos ((toList_eq_nil s).2 h0)]
    refine Ev.step (fun k => split_Split.j0.eq_2 ..) ?_
    simp only [if_true]
    unfold splitOf
    rw [if_pos h0]
    exact Ev.now _
  simp only [if_neg (show ¬ s.toList = [] from fun h => h0 ((toList_eq_nil s).1 h))]
  simp only [split_Most.f, Option.bind_some]
  refine Ev.step (fun k => split_Split.j0.eq_2 ..) ?_
  by_cases h256 : s.size ≤ 256
  case neg =>
    simp only [decide_eq_true (show (s.size : Int) > 256 by omega), if_true]
    unfold splitOf
    rw [if_neg h0, if_neg (by omega), lastCut_none s s.size (fun j _ => isCut_false (by omega)), if_pos (by omega)]
    exact Ev.now _
  simp only [decide_eq_false (show ¬ (s.size : Int) > 256 by omega), Bool.false_eq_true, if_false]
  by_cases h100 : s.size ≤ 100
  · simp only [if_pos (show (s.size : Int) ≤ 100 by omega)]
    unfold splitOf
    rw [if_neg h0, if_pos h100]
    exact Ev.now _
  simp only [if_neg (show ¬ (s.size : Int) ≤ 100 by omega)]
  have hmn : mn (s.size : Int) 156 = ((min s.size 156 : Nat) : Int) := by rw [mn_eq]; split <;> omega
  rw [hmn]
  have hm : min s.size 156 ≤ s.size := Nat.min_le_left _ _
  simp only [if_pos (show (0 : Int) ≤ ((min s.size 156 : Nat) : Int) by omega), if_pos (show ((min s.size 156 : Nat) : Int) ≤ (s.size : Int) by omega), Int.toNat_natCast]
  refine Ev.bind (lib_cut s (min s.size 156) 47 hm hs) ?_
  rw [w64 (n := (s.size : Int) - 1) (by omega) (by omega)]
  have g1 := lastAt_ge s 47 (min s.size 156)
  have g2 := lastAt_lt s 47 (min s.size 156)
  have g3 := lastAt_is s 47 (min s.size 156)
  have g4 := lastAt_none s 47 (min s.size 156)
  generalize lastAt s 47 (min s.size 156) = a at g1 g2 g3 g4
  by_cases he : a = (s.size : Int) - 1
  · obtain ⟨n, hn⟩ : ∃ n : Nat, a = (n : Int) := ⟨a.toNat, by omega⟩
    simp only [if_pos he, if_pos (show 0 ≤ a by omega), if_pos (show a ≤ (s.size : Int) by omega)]
    subst hn
    simp only [Int.toNat_natCast]
    refine Ev.bind (lib_cut s n 47 (by omega) hs) ?_
    have k1 := lastAt_ge s 47 n
    have k2 := lastAt_lt s 47 n
    have k3 := lastAt_is s 47 n
    have k4 := lastAt_none s 47 n
    generalize lastAt s 47 n = b at k1 k2 k3 k4
    by_cases hb : b < 0
    · simp only [if_pos hb]
      rw [splitOf_no s (by omega) (fun j h1 h2 h3 => k4 j (by omega) (by omega))]
      exact Ev.now _
    · obtain ⟨m, hm'⟩ : ∃ m : Nat, b = (m : Int) := ⟨b.toNat, by omega⟩
      subst hm'
      simp only [if_neg hb, cut_eq s m (by omega) hs, Option.bind_some]
      rw [splitOf_at s (by omega) m (by omega) (k3 (by omega)) (fun j h1 h2 h3 h4 => k4 j (by omega) (by omega)) (by omega) (by omega)]
      rw [w64 (n := (m : Int) + 1) (by omega) (by omega)]
      by_cases hc : 1 ≤ m ∧ m ≤ 155 ∧ m + 2 ≤ s.size ∧ s.size ≤ m + 101
      · simp only [decide_eq_true hc, if_true, if_pos (show (0 : Int) ≤ (m : Int) by omega), if_pos (show (m : Int) ≤ (s.size : Int) by omega), if_pos (show (0 : Int) ≤ (m : Int) + 1 by omega), if_pos (show (m : Int) + 1 ≤ (s.size : Int) by omega), Int.toNat_natCast, if_pos hc]
        exact Ev.now _
      · simp only [decide_eq_false hc, Bool.false_eq_true, if_false, if_neg hc]
        exact Ev.now _
  · simp only [if_neg he]
    by_cases hb : a < 0
    · simp only [if_pos hb]
      rw [splitOf_no s (by omega) (fun j h1 h2 h3 => g4 j (by omega) (by omega))]
      exact Ev.now _
    · obtain ⟨m, hm'⟩ : ∃ m : Nat, a = (m : Int) := ⟨a.toNat, by omega⟩
      subst hm'
      simp only [if_neg hb, cut_eq s m (by omega) hs, Option.bind_some]
      rw [splitOf_at s (by omega) m (by omega) (g3 (by omega)) (fun j h1 h2 h3 h4 => g4 j (by omega) (by omega)) (by omega) (by omega)]
      rw [w64 (n := (m : Int) + 1) (by omega) (by omega)]
      by_cases hc : 1 ≤ m ∧ m ≤ 155 ∧ m + 2 ≤ s.size ∧ s.size ≤ m + 101
      · simp only [decide_eq_true hc, if_true, if_pos (show (0 : Int) ≤ (m : Int) by omega), if_pos (show (m : Int) ≤ (s.size : Int) by omega), if_pos (show (0 : Int) ≤ (m : Int) + 1 by omega), if_pos (show (m : Int) + 1 ≤ (s.size : Int) by omega), Int.toNat_natCast, if_pos hc]
        exact Ev.now _
      · simp only [decide_eq_false hc, Bool.false_eq_true, if_false, if_neg hc]
        exact Ev.now _

theorem cuts_l0 (s : ByteArray) (hs : s.size ≤ 140737488351232) : ∀ (d i : Nat) (acc : List Int), i + d = s.size → 1 ≤ i → acc.length + d ≤ s.size → acc.length + d ≤ 10000 → Ev (fun k => split_Cuts.l0 k s acc (i : Int)) (acc ++ cutsF s d i)
  | 0, i, acc, h, _, _, _ => by
    refine Ev.step (fun k => split_Cuts.l0.eq_2 ..) ?_
    simp only [if_neg (show ¬ (i : Int) < (s.size : Int) by omega)]
    refine Ev.step (fun k => split_Cuts.j1.eq_2 ..) ?_
    simp only [Bool.false_eq_true, if_false, cutsF, List.append_nil]
    exact Ev.now _
  | d + 1, i, acc, h, h1, hl, hl2 => by
    refine Ev.step (fun k => split_Cuts.l0.eq_2 ..) ?_
    simp only [if_pos (show (i : Int) < (s.size : Int) by omega)]
    refine Ev.step (fun k => split_Cuts.j1.eq_2 ..) ?_
    by_cases h155 : i ≤ 155
    · simp only [decide_eq_true (show (i : Int) ≤ 155 by omega), if_true, if_pos (show (0 : Int) ≤ (i : Int) by omega), if_pos (show (i : Int) < (s.size : Int) by omega)]
      rw [show wrap64 ((i : Int) + 1) = ((i + 1 : Nat) : Int) from by rw [w64 (by omega) (by omega)]; omega]
      conv => rhs; unfold cutsF
      by_cases hb : bt s (i : Int) = 47
      · simp only [if_pos hb, cut_eq s i (by omega) hs, Option.bind_some]
        by_cases hc : isCut s i = true
        · have hc' := (isCut_iff s i).1 hc
          simp only [decide_eq_true hc'.2, if_true, hc, if_pos (show acc.length < 17592186044416 by omega)]
          have := cuts_l0 s hs d (i + 1) (acc ++ [(i : Int)]) (by omega) (by omega) (by simp; omega) (by simp; omega)
          simpa using this
        · have hc' : ¬ (1 ≤ i ∧ i ≤ 155 ∧ i + 2 ≤ s.size ∧ s.size ≤ i + 101) := fun h' => hc ((isCut_iff s i).2 ⟨hb, h'⟩)
          simp only [decide_eq_false hc', hc, Bool.false_eq_true, if_false]
          exact cuts_l0 s hs d (i + 1) acc (by omega) (by omega) (by omega) (by omega)
      · have hc : isCut s i = false := by unfold isCut; simp [hb]
        simp only [if_neg hb, hc, Bool.false_eq_true, if_false]
        exact cuts_l0 s hs d (i + 1) acc (by omega) (by omega) (by omega) (by omega)
    · simp only [decide_eq_false (show ¬ (i : Int) ≤ 155 by omega), Bool.false_eq_true, if_false]
      rw [cutsF_none s (d + 1) i (fun j h2 h3 => isCut_false (by omega)), List.append_nil]
      exact Ev.now _
theorem mx_eq (a b : Int) : mx a b = if a ≤ b then b else a := by unfold mx; split <;> split <;> omega
theorem cuts_ev (s : ByteArray) (hs : s.size ≤ 5000) : Ev (fun k => split_Cuts.f k s) (allCuts s) := by
  unfold split_Cuts.f allCuts
  rw [w64 (n := (s.size : Int) - 1) (by omega) (by omega), w64 (by omega) (by omega)]
  rcases Nat.lt_or_ge s.size 102 with h | h
  · rw [mx_eq, if_neg (by omega)]
    rcases Nat.eq_zero_or_pos s.size with h0 | h0
    · rw [h0]
      refine Ev.step (fun k => split_Cuts.l0.eq_2 ..) ?_
      simp only [h0, if_neg (show ¬ (1 : Int) < ((0 : Nat) : Int) by omega)]
      refine Ev.step (fun k => split_Cuts.j1.eq_2 ..) ?_
      simp only [Bool.false_eq_true, if_false, cutsF]
      exact Ev.now _
    · rw [show s.size = 1 + (s.size - 1) from by omega, cutsF_skip s 1 _ 0 (fun j h1 h2 => isCut_false (by omega))]
      exact cuts_l0 s (by omega) (s.size - 1) 1 [] (by omega) (by omega) (by simp only [List.length_nil]; omega) (by simp only [List.length_nil]; omega)
  · rw [mx_eq, if_pos (by omega), show (s.size : Int) - 1 - 100 = ((s.size - 101 : Nat) : Int) from by omega]
    rw [show s.size = (s.size - 101) + 101 from by omega, cutsF_skip s (s.size - 101) 101 0 (fun j h1 h2 => isCut_false (by omega))]
    have := cuts_l0 s (by omega) 101 (s.size - 101) [] (by omega) (by omega) (by simp only [List.length_nil]; omega) (by simp only [List.length_nil]; omega)
    simpa using this

theorem alive_ev : Ev (fun k => oakumlaw10_alive.f k) true := Ev.of oakumlaw10_alive.mono (k := 10) (by decide +kernel)

theorem empty_size : (⟨#[]⟩ : ByteArray).size = 0 := rfl
theorem whole_eq (s : ByteArray) (i : Nat) (hi : i < s.size) (hb : bt s (i : Int) = 47) : (s.extract 0 i ++ (⟨#[47]⟩ : ByteArray)) ++ s.extract (i + 1) s.size = s := by
  have h1 : (s.extract 0 i).size = i := by rw [ByteArray.size_extract]; omega
  have h2 : (⟨#[47]⟩ : ByteArray).size = 1 := rfl
  have h3 : (s.extract (i + 1) s.size).size = s.size - (i + 1) := by rw [ByteArray.size_extract]; omega
  apply ByteArray.ext_getElem
  · rw [ByteArray.size_append, ByteArray.size_append, h1, h2, h3]; omega
  · intro j hj hj'
    rcases Nat.lt_trichotomy j i with h | h | h
    · rw [ByteArray.getElem_append_left (by rw [ByteArray.size_append]; omega), ByteArray.getElem_append_left (by omega), ByteArray.getElem_extract]
      simp
    · subst h
      rw [ByteArray.getElem_append_left (by rw [ByteArray.size_append]; omega), ByteArray.getElem_append_right (by omega)]
      rw [bt_nat _ _ hj'] at hb
      apply UInt8.toNat_inj.1
      simp only [h1, Nat.sub_self]
      show (47 : UInt8).toNat = _
      have : (47 : UInt8).toNat = 47 := rfl
      omega
    · rw [ByteArray.getElem_append_right (by rw [ByteArray.size_append]; omega), ByteArray.getElem_extract]
      congr 1
      rw [ByteArray.size_append]; omega

/-! ### The law -/
theorem rd_nat (l : List Int) (n : Nat) : rd l (n : Int) = l.getD n 0 := by unfold rd; simp
/-- What the law asks of a row of cuts: it rises, each cut is a place of a /. -/
def Rises (s : ByteArray) : Int → List Int → Prop
  | _, [] => True
  | b, x :: r => b < x ∧ (∃ i : Nat, x = (i : Int) ∧ isCut s i = true) ∧ Rises s x r
theorem cutsF_rises (s : ByteArray) : ∀ (d i : Nat) (b : Int), b < i → Rises s b (cutsF s d i)
  | 0, _, _, _ => by simp [cutsF, Rises]
  | d + 1, i, b, hb => by
    unfold cutsF
    by_cases h : isCut s i = true
    · rw [if_pos h]
      exact ⟨hb, ⟨i, rfl, h⟩, cutsF_rises s d (i + 1) i (by omega)⟩
    · rw [if_neg h]
      exact cutsF_rises s d (i + 1) b (by omega)
theorem rises_at (s : ByteArray) : ∀ (l : List Int) (b : Int), Rises s b l → ∀ n, n < l.length → ∃ i : Nat, l.getD n 0 = (i : Int) ∧ isCut s i = true ∧ b < l.getD n 0 ∧ (0 < n → l.getD (n - 1) 0 < l.getD n 0)
  | [], _, _, n, hn => by simp at hn
  | x :: r, b, h, n, hn => by
    obtain ⟨h1, ⟨i, e, hc⟩, h3⟩ := h
    rcases n with _ | n
    · exact ⟨i, e, hc, h1, fun h => by omega⟩
    · obtain ⟨j, f1, f2, f3, f4⟩ := rises_at s r x h3 n (by simpa using hn)
      refine ⟨j, by simpa using f1, f2, by simp only [List.getD_cons_succ]; omega, fun _ => ?_⟩
      rcases n with _ | n
      · simpa using f3
      · have := f4 (by omega)
        simpa using this
theorem cutsF_last (s : ByteArray) : ∀ (d i : Nat), (cutsF s d i = [] ∧ ∀ j, i ≤ j → j < i + d → isCut s j = false) ∨ ∃ m : Nat, cutsF s d i ≠ [] ∧ (cutsF s d i).getD ((cutsF s d i).length - 1) 0 = (m : Int) ∧ isCut s m = true ∧ m < i + d ∧ ∀ j, m < j → j < i + d → isCut s j = false
  | 0, i => .inl ⟨rfl, fun j h1 h2 => by omega⟩
  | d + 1, i => by
    unfold cutsF
    have ih := cutsF_last s d (i + 1)
    by_cases h : isCut s i = true
    · rw [if_pos h]
      right
      rcases ih with ⟨h1, h2⟩ | ⟨m, h1, h2, h3, h4, h5⟩
      · rw [h1]
        exact ⟨i, by simp, by simp, h, by omega, fun j hj hk => h2 j (by omega) (by omega)⟩
      · refine ⟨m, by simp, ?_, h3, by omega, fun j hj hk => h5 j hj (by omega)⟩
        cases hl : cutsF s d (i + 1) with
        | nil => exact absurd hl h1
        | cons x r => rw [hl] at h2; simpa using h2
    · rw [if_neg h]
      rcases ih with ⟨h1, h2⟩ | ⟨m, h1, h2, h3, h4, h5⟩
      · refine .inl ⟨h1, fun j hj hk => ?_⟩
        rcases Nat.lt_or_ge i j with g | g
        · exact h2 j (by omega) (by omega)
        · have : j = i := by omega
          subst this; simpa using h
      · exact .inr ⟨m, h1, h2, h3, by omega, fun j hj hk => h5 j hj (by omega)⟩

/-- What the law asks of one cut. -/
def CutOk (s : ByteArray) (t : List Int) : Prop := ∀ i : Nat, i < t.length → ∃ m : Nat, rd t (i : Int) = (m : Int) ∧ 1 ≤ m ∧ m < s.size ∧ (s.extract 0 m ++ (⟨#[47]⟩ : ByteArray)) ++ s.extract (m + 1) s.size = s ∧ (0 < i → rd t ((i - 1 : Nat) : Int) < (m : Int))
theorem cuts_ok (s : ByteArray) : CutOk s (allCuts s) := by
  intro i hi
  obtain ⟨m, e1, e2, e3, e4⟩ := rises_at s (allCuts s) (-1) (cutsF_rises s s.size 0 (-1) (by omega)) i hi
  have hc := (isCut_iff s m).1 e2
  have r1 : rd (allCuts s) (i : Int) = (m : Int) := by rw [rd_nat, e1]
  have z : (s.extract 0 m ++ (⟨#[47]⟩ : ByteArray)) ++ s.extract (m + 1) s.size = s := whole_eq s m (by omega) hc.1
  refine ⟨m, r1, by omega, by omega, z, fun h => ?_⟩
  rw [rd_nat, ← e1]
  exact e4 h
/-- What the law asks of the end. -/
def EndOk (s : ByteArray) (t : List Int) (p : ByteArray) (ok : Bool) : Prop :=
  (s.size ≤ 100 → p = ⟨#[]⟩) ∧ (¬ s.size ≤ 100 → (t = [] ∧ ok = false) ∨ (0 < t.length ∧ ok = true ∧ (p.size : Int) = rd t ((t.length - 1 : Nat) : Int)))
theorem end_ok (s : ByteArray) : EndOk s (allCuts s) (splitOf s).1 (splitOf s).2.2 := by
  have hl := cutsF_len s s.size 0
  unfold splitOf
  by_cases h0 : s.size = 0
  · simp only [if_pos h0]
    exact ⟨fun _ => rfl, fun h => by omega⟩
  by_cases h100 : s.size ≤ 100
  · simp only [if_neg h0, if_pos h100]
    exact ⟨fun _ => rfl, fun h => by omega⟩
  simp only [if_neg h0, if_neg h100]
  refine ⟨fun h => absurd h h100, fun _ => ?_⟩
  have key := cutsF_last s s.size 0
  unfold allCuts
  rcases key with ⟨h1, h2⟩ | ⟨m, h1, h2, h3, h4, h5⟩
  · left
    rw [lastCut_none s s.size (fun j hj => h2 j (by omega) (by omega)), h1]
    exact ⟨rfl, rfl⟩
  · right
    rw [lastCut_uniq s s.size m (by omega) h3 (fun j hj hk => h5 j hj (by omega))]
    have hp : 0 < (cutsF s s.size 0).length := List.length_pos_iff.2 h1
    have z1 : (s.extract 0 m).size = m := by rw [ByteArray.size_extract]; omega
    refine ⟨hp, ?_⟩
    simp only [if_neg (show ¬ (m : Int) < 0 by omega), Int.toNat_natCast, rd_nat, h2, z1]
    exact ⟨trivial, trivial⟩
set_option maxHeartbeats 4000000 in
set_option maxRecDepth 100000 in
theorem walk (k1 k2 k3 : Nat) (s p q : ByteArray) (ok : Bool) (t : List Int) (w : World) (hsz : s.size ≤ 5000) (h1 : oakumlaw10_alive.f k1 = some true) (h2 : split_Cuts.f k2 s = some t) (h3 : split_Split.f k3 s = some (p, q, ok))
    (hC : CutOk s t) (hE : EndOk s t p ok) (hlen : t.length ≤ 5000) :
    Calls Try.prog 5 #[.string s] w fun e w' => e = .returned (.bool true) ∧ Below w.heap.size w w' := by
  have H1 := Aside0.mk h1
  have H2 := Aside0.mk h2
  have H3 := Aside0.mk h3
  have HC := Aside0.mk hC
  have HE := Aside0.mk hE
  have hs0 : decide (5000 < (s.size : Int)) = false := decide_eq_false (by omega)
  clear h1 h2 h3 hC hE
  go_enter Try.func5, Try.ntmps5
  go_wp2_with fail
  refine (oakumlaw10_alive.calls k1 true _ H1.out).mono ?_
  rintro e w1 ⟨rfl, hb⟩
  have HB := Aside0.mk hb
  clear hb
  go_wp2_with fail
  refine (split_Cuts.calls k2 s t _ H2.out).mono ?_
  rintro e w2 ⟨v0, rfl, hR, hb⟩
  have HB2 := Aside0.mk (below_step HB.out hb)
  have HR := Aside0.mk hR
  clear hb hR HB
  obtain ⟨A0, c0, ev0⟩ := Kd.R_slice HR.out
  subst ev0
  go_wp2_with fail
  go_loopw [4] (fun v4 wr => ∃ i : Nat, v4 = .int .i64 (i : Int) ∧ i ≤ t.length ∧ ∃ m1 : Nat, wr = w2.drewN m1) (fun v4 _ => match v4 with | .int _ i => t.length - i.toNat | _ => 0)
  case atStart => exact ⟨0, rfl, Nat.zero_le _, 0, rfl⟩
  case round =>
    obtain ⟨i, rfl, hi, m1, rfl⟩ := hrel
    have HCells := Aside0.mk (Kd.R_reads' HR.out).2.2
    by_cases hlt : i < t.length
    · obtain ⟨m, hm, hm1, hm2, hz, hbef⟩ := HC.out i hlt
      obtain ⟨ad, hA, hcell⟩ := Kd.at_int HCells.out (i : Int) (by omega) (by omega)
      subst hA
      rw [hm, Int.toNat_natCast] at hcell
      have hlt1 : decide ((i : Int) < (t.length : Int)) = true := decide_eq_true (by omega)
      have hd1 : decide ((m : Int) < 1) = false := decide_eq_false (by omega)
      have hd2 : decide (s.size ≤ m) = false := decide_eq_false (by omega)
      have hs1 : ∀ W : World, (Instr.slice 9 (.string s) none (some (.int .i64 (m : Int))) none).run Try.prog W = .ok (.string (s.extract 0 m)) W := fun W => run_slice_string_h W 9 s Try.underlying9 .i64 (m : Int) (by omega) (by omega)
      have hs2 : ∀ W : World, (Instr.slice 9 (.string s) (some (.int .i64 ((m : Int) + 1))) none none).run Try.prog W = .ok (.string (s.extract (m + 1) s.size)) W := fun W => run_slice_string_l W 9 s Try.underlying9 .i64 ((m : Int) + 1) (by omega) (by omega)
      have hx1 : (s.extract 0 m).size ≤ 5000 := by rw [ByteArray.size_extract]; omega
      have hx2 : (s.extract (m + 1) s.size).size ≤ 5000 := by rw [ByteArray.size_extract]; omega
      have hx3 : (s.extract 0 m).size + 1 ≤ 9223372036854775807 := by omega
      have hx4 : ((s.extract 0 m) ++ (⟨#[47]⟩ : ByteArray)).size + (s.extract (m + 1) s.size).size ≤ 9223372036854775807 := by
        rw [ByteArray.size_append]
        have : (⟨#[47]⟩ : ByteArray).size = 1 := rfl
        omega
      generalize s.extract 0 m = X at hz hs1 hx1 hx3 hx4
      generalize s.extract (m + 1) s.size = Y at hz hs2 hx2 hx4
      have ha1 : ∀ W : World, (Op.stringOp .add X (⟨#[47]⟩ : ByteArray)).run Try.prog W = .ok (.string (X ++ (⟨#[47]⟩ : ByteArray))) W := fun W => run_string_add_sum W _ _ (by have : (⟨#[47]⟩ : ByteArray).size = 1 := rfl; omega)
      have ha2 : ∀ W : World, (Op.stringOp .add (X ++ (⟨#[47]⟩ : ByteArray)) Y).run Try.prog W = .ok (.string s) W := fun W => by
        have := run_string_add_sum (P := Try.prog) W (X ++ (⟨#[47]⟩ : ByteArray)) Y hx4
        rwa [hz] at this
      generalize X ++ (⟨#[47]⟩ : ByteArray) = Z at ha1 ha2 hz hx4
      clear hx1 hx2 hx3 hx4
      have HZ := Aside0.mk hz
      have HM := Aside0.mk hm
      clear hz hm
      by_cases h0 : 0 < i
      · obtain ⟨ad1, hA1, hcell1⟩ := Kd.at_int HCells.out ((i - 1 : Nat) : Int) (by omega) (by omega)
        obtain rfl : ad = ad1 := by injection hA1
        rw [Int.toNat_natCast] at hcell1
        have hb1 := hbef h0
        generalize rd t ((i - 1 : Nat) : Int) = y at hcell1 hb1
        have hd3 : decide ((m : Int) ≤ y) = false := decide_eq_false (by omega)
        have hd4 : decide (0 < (i : Int)) = true := decide_eq_true (by omega)
        have hi1 : ((i : Int) - 1) = ((i - 1 : Nat) : Int) := by omega
        go_wp2_with fail
        go_quiet (fail)
        go_wp2_with fail
        go_roundw
        case rel => exact ⟨i + 1, by go_num, by omega, m1 + nq, rfl⟩
        case measure => simp; omega
      · obtain rfl : i = 0 := by omega
        have hcell0 : w2.cell? ad = some (.int .i64 (m : Int)) := by simpa [Addr.add] using hcell
        clear hcell hbef
        go_wp2_with fail
        go_quiet (fail)
        go_wp2_with fail
        go_roundw
        case rel => exact ⟨1, by go_num, by omega, m1 + nq, rfl⟩
        case measure => simp; omega
    · obtain rfl : i = t.length := by omega
      go_wp2_with fail
      refine (split_Split.calls k3 s p q ok _ H3.out).mono ?_
      rintro e w3 ⟨rfl, hb⟩
      have HB3 := Aside0.mk (below_step (by repeat (first | (with_reducible first | exact HB2.out | apply below_alloc | apply pw_below_drewN | apply below_drew1) | exact HB2.out)) hb)
      have HR3 := Aside0.mk (Kd.R_below (by (with_reducible repeat (first | apply Kd.R_alloc | apply Kd.R_drewN | apply Kd.R_drew)); exact HR.out) hb)
      clear hb
      by_cases h100 : s.size ≤ 100
      · have hp := HE.out.1 h100
        subst hp
        have hd : decide (s.size ≤ 100) = true := decide_eq_true h100
        go_wp2_with fail
        go_ret
        exact ⟨rfl, HB3.out⟩
      · have hd : decide (s.size ≤ 100) = false := decide_eq_false h100
        rcases HE.out.2 h100 with ⟨ht, hok⟩ | ⟨ht, hok, hpl⟩
        · subst ht
          subst hok
          go_wp2_with fail
          go_ret
          exact ⟨rfl, by repeat (first | (with_reducible first | exact HB3.out | apply below_alloc | apply pw_below_drewN | apply below_drew1) | exact HB3.out)⟩
        · subst hok
          obtain ⟨ad, hA, hcell⟩ := Kd.at_int (Kd.R_reads' HR3.out).2.2 ((t.length - 1 : Nat) : Int) (by omega) (by omega)
          subst hA
          rw [← hpl, Int.toNat_natCast] at hcell
          have hi1 : ((t.length : Int) - 1) = ((t.length - 1 : Nat) : Int) := by omega
          have hd4 : decide (0 < (t.length : Int)) = true := decide_eq_true (by omega)
          have hd5 : decide (0 < t.length) = true := decide_eq_true (by omega)
          go_wp2_with fail
          go_ret
          exact ⟨by simp, by repeat (first | (with_reducible first | exact HB3.out | apply below_alloc | apply pw_below_drewN | apply below_drew1) | exact HB3.out)⟩
set_option maxRecDepth 100000 in
theorem long (k1 : Nat) (s : ByteArray) (w : World) (hsz : ¬ s.size ≤ 5000) (h1 : oakumlaw10_alive.f k1 = some true) :
    Calls Try.prog 5 #[.string s] w fun e w' => e = .returned (.bool true) ∧ Below w.heap.size w w' := by
  have H1 := Aside0.mk h1
  have hs0 : decide (5000 < (s.size : Int)) = true := decide_eq_true (by omega)
  have hs1 : decide (5000 < s.size) = true := decide_eq_true (by omega)
  clear h1
  go_enter Try.func5, Try.ntmps5
  go_wp2_with fail
  refine (oakumlaw10_alive.calls k1 true _ H1.out).mono ?_
  rintro e w1 ⟨rfl, hb⟩
  go_wp2_with fail
  go_ret
  exact ⟨rfl, hb⟩
/-- The law: whatever the text, true. -/
theorem law (s : ByteArray) (w : World) : Calls Try.prog 5 #[.string s] w fun e w' => e = .returned (.bool true) ∧ Below w.heap.size w w' := by
  obtain ⟨k1, h1⟩ := Ev.rounds alive_ev
  by_cases hsz : s.size ≤ 5000
  · obtain ⟨k2, h2⟩ := Ev.rounds (cuts_ev s hsz)
    obtain ⟨k3, h3⟩ := Ev.rounds (split_ev s (by omega))
    have hl : (allCuts s).length ≤ s.size := cutsF_len s s.size 0
    exact walk k1 k2 k3 s _ _ _ _ w hsz h1 h2 h3 (cuts_ok s) (end_ok s) (by omega)
  · exact long k1 s w hsz h1
end Go.Proofs.Ytkmlhfmffnbccaa.Last
