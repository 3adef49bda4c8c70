/- head.Number: its walk. -/
import Derived.Test.YtoabboeongbloaaDoorPN
import Derived.Test.YtoabboeongbloaaDoorMark
import Derived.Test.YtoabboeongbloaaDoorOct
import Derived.Test.YtoabboeongbloaaDoorGT
set_option linter.unusedVariables false
set_option linter.unusedSimpArgs false
namespace Go.Proofs.YtoabboeongbloaaDoor.HeadN
open Go.RowKit Go.Proofs.YtoabboeongbloaaDoorW.PrintWords Go.Proofs.YtoabboeongbloaaDoorW.PrintLast Go.Proofs.YtoabboeongbloaaDoorW.PrintMore Go.Proofs.YtoabboeongbloaaDoorW.Mv Go.Proofs.YtoabboeongbloaaDoorW.HKit Go.Proofs.YtoabboeongbloaaDoor.PHeadGets Go.Proofs.YtoabboeongbloaaDoor.PN Go.Proofs.YtoabboeongbloaaDoor.HeadA
set_option maxHeartbeats 1000000 in
theorem number_none (A : Option Addr) (n c : Nat) (fld r1 r2 : Int) (w : World) (hf : head_number.f fld = some (r1, r2, false)) :
    Calls Tryd.prog 18 #[.slice A n c, .int .i64 fld] w fun e w' => e = .returned (.tuple #[.int .i64 0, .int .u8 2]) ∧ Below w.heap.size w w' := by
  have HN := Lib.hid (head_number.calls fld r1 r2 false w hf)
  clear hf
  go_enter Tryd.func18, Tryd.ntmps18
  go_wp2_with fail
  (with_reducible refine HN.out.mono ?_)
  rintro e w1 ⟨rfl, hb1⟩
  have HB1 := Lib.hid (hb1.trans (((Below.refl w1.heap.size w1).alloc (Nat.le_refl _) (.cells #[.int .i64 r1, .int .i64 r2] 60)).mono hb1.size))
  clear hb1 HN
  go_wp2_with fail
  go_ret2
  exact ⟨rfl, HB1.out⟩
set_option maxHeartbeats 1000000 in
theorem number_short (A : Option Addr) (n c : Nat) (fld r1 r2 : Int) (w : World) (hf : head_number.f fld = some (r1, r2, true)) (hn : ¬ n = 512) :
    Calls Tryd.prog 18 #[.slice A n c, .int .i64 fld] w fun e w' => e = .returned (.tuple #[.int .i64 0, .int .u8 2]) ∧ Below w.heap.size w w' := by
  have HN := Lib.hid (head_number.calls fld r1 r2 true w hf)
  have hne : ((n : Int) != 512) = true := bne_iff_ne.2 (by omega)
  clear hf hn
  go_enter Tryd.func18, Tryd.ntmps18
  go_wp2_with fail
  (with_reducible refine HN.out.mono ?_)
  rintro e w1 ⟨rfl, hb1⟩
  have HB1 := Lib.hid (hb1.trans (((Below.refl w1.heap.size w1).alloc (Nat.le_refl _) (.cells #[.int .i64 r1, .int .i64 r2] 60)).mono hb1.size))
  clear hb1 HN
  go_wp2_with fail
  go_ret2
  exact ⟨rfl, HB1.out⟩
def numV (fld n e : Int) : Value := if e = 0 ∧ n < 0 ∧ ¬ fld = 8 then .tuple #[.int .i64 0, .int .u8 5] else .tuple #[.int .i64 n, .int .u8 e]
set_option maxHeartbeats 1000000 in
theorem number_calls (k : Nat) (A : Option Addr) (c : Nat) (l : List Int) (fld n e : Int) (f s : Nat) (w : World) (hf : head_number.f fld = some ((f : Int), (s : Int), true)) (hl : l.length = 512) (hfs : f + s ≤ 512) (hr : Kd.C (Kd.int .u8) w A l.length l) (hc : l.length ≤ c) (hg : num_Get.f k (HeadA.part l f s) = some (n, e)) :
    Calls Tryd.prog 18 #[.slice A l.length c, .int .i64 fld] w fun e' w' => e' = .returned (numV fld n e) ∧ Below w.heap.size w w' := by
  have HN := Lib.hid (head_number.calls fld f s true w hf)
  have hne : (((l.length : Nat) : Int) != 512) = false := bne_eq_false_iff_eq.2 (by omega)
  have HR := Lib.hid hr
  have HL := Lib.hid hl
  have HG := Lib.hid hg
  have hpl := part_len l f s (by omega)
  have HP := Lib.hid hpl
  clear hf hr hl hg hpl
  go_enter Tryd.func18, Tryd.ntmps18
  go_wp2_with fail
  (with_reducible refine HN.out.mono ?_)
  rintro e w1 ⟨rfl, hb1⟩
  have hb2 := ((Below.refl w1.heap.size w1).alloc (Nat.le_refl _) (.cells #[.int .i64 (f : Int), .int .i64 (s : Int)] 60))
  have HB1 := Lib.hid (hb1.trans (hb2.mono hb1.size))
  clear hb1 hb2 HN
  go_wp2_with fail
  (with_reducible refine (of_calls A c l.length f s _ (by rw [HL.out]; exact hfs) hc (by rw [HL.out]; decide)).mono ?_)
  rintro e w2 ⟨rfl, hw2⟩
  have hb2 : Below (w1.alloc (.cells #[.int .i64 (f : Int), .int .i64 (s : Int)] 60)).heap.size (w1.alloc (.cells #[.int .i64 (f : Int), .int .i64 (s : Int)] 60)) w2 := by rw [hw2]; exact (Below.refl _ _).alloc (Nat.le_refl _) _
  have HB2 := Lib.hid (HB1.out.trans (hb2.mono HB1.out.size))
  clear hw2 hb2 HB1
  have hC := cut_C (f := f) (s := s) (Kd.C_below HR.out HB2.out) (by rw [HL.out]; exact hfs) hc
  have hgc := num_Get.calls k (cutAt A c f) (c - f) (HeadA.part l f s) n e w2 (by rw [HP.out]; exact hC) (by rw [HP.out]; have := HL.out; omega) HG.out
  rw [HP.out] at hgc
  have HGC := Lib.hid hgc
  clear hC hgc
  go_wp2_with fail
  (with_reducible refine HGC.out.mono ?_)
  rintro e' w3 ⟨rfl, hb3⟩
  have HB3 := Lib.hid (HB2.out.trans (hb3.mono HB2.out.size))
  clear hb3 HB2 HGC HG HP HR HL
  by_cases he : e = 0
  · have d1 : (e == 0) = true := beq_iff_eq.2 he
    by_cases h0 : n < 0
    · have d2 : decide (n < 0) = true := decide_eq_true h0
      by_cases h8 : fld = 8
      · have d3 : (fld != 8) = false := bne_eq_false_iff_eq.2 h8
        have HV := Lib.hid (show numV fld n e = .tuple #[.int .i64 n, .int .u8 e] by unfold numV; rw [if_neg (fun h => h.2.2 h8)])
        clear he h0 h8
        go_wp2_with fail
        go_ret2
        exact ⟨congrArg Ending.returned HV.out.symm, HB3.out⟩
      · have d3 : (fld != 8) = true := bne_iff_ne.2 h8
        have HV := Lib.hid (show numV fld n e = .tuple #[.int .i64 0, .int .u8 5] by unfold numV; rw [if_pos ⟨he, h0, h8⟩])
        clear he h0 h8
        go_wp2_with fail
        go_ret2
        exact ⟨congrArg Ending.returned HV.out.symm, HB3.out⟩
    · have d2 : decide (n < 0) = false := decide_eq_false h0
      have HV := Lib.hid (show numV fld n e = .tuple #[.int .i64 n, .int .u8 e] by unfold numV; rw [if_neg (fun h => h0 h.2.1)])
      clear he h0
      go_wp2_with fail
      go_ret2
      exact ⟨congrArg Ending.returned HV.out.symm, HB3.out⟩
  · have d1 : (e == 0) = false := beq_eq_false_iff_ne.2 he
    have HV := Lib.hid (show numV fld n e = .tuple #[.int .i64 n, .int .u8 e] by unfold numV; rw [if_neg (fun h => he h.1)])
    clear he
    go_wp2_with fail
    go_ret2
    exact ⟨congrArg Ending.returned HV.out.symm, HB3.out⟩
end Go.Proofs.YtoabboeongbloaaDoor.HeadN
/- num.Get and the document's Get: over numbers and lists alone. -/
set_option linter.unusedVariables false
set_option linter.unusedSimpArgs false
namespace Go.Proofs.YtoabboeongbloaaDoor.GetP
open Go.RowKit Go.Proofs.YtoabboeongbloaaDoorW.PrintWords Go.Proofs.YtoabboeongbloaaDoorW.PrintLast Go.Proofs.YtoabboeongbloaaDoorW.PrintMore Go.Proofs.YtoabboeongbloaaDoor.PHeadGets Go.Proofs.YtoabboeongbloaaDoor.PN
/-! ### Small words: numbers that fit, rounds, bytes of a cut -/
theorem w64 {n : Int} (h0 : -9223372036854775808 ≤ n) (h1 : n ≤ 9223372036854775807) : wrap64 n = n := by unfold wrap64; omega
theorem bt_nonneg (s : ByteArray) (i : Int) : 0 ≤ bt s i := (bt_range s i).1
theorem bt_le (s : ByteArray) (i : Int) : bt s i ≤ 255 := (bt_range s i).2
theorem bt_nat (s : ByteArray) (n : Nat) (h : n < s.size) : bt s (n : Int) = ((s[n]'h).toNat : Int) := by simp [bt, h]
theorem bt_out (s : ByteArray) (i : Int) (h : s.size ≤ i.toNat) : bt s i = 0 := by unfold bt; rw [dif_neg (by omega)]
theorem bt_extract (s : ByteArray) (m n : Nat) (i : Nat) (hi : m + i < n) (hn : n ≤ s.size) : bt (s.extract m n) (i : Int) = bt s ((m + i : Nat) : Int) := by
  have h1 : i < (s.extract m n).size := by rw [ByteArray.size_extract]; omega
  rw [bt_nat _ _ h1, bt_nat _ _ (by omega)]
  rw [ByteArray.getElem_extract]
theorem bytes_ext {a b : ByteArray} (hs : a.size = b.size) (h : ∀ i : Nat, i < a.size → bt a (i : Int) = bt b (i : Int)) : a = b := by
  apply ByteArray.ext_getElem hs
  intro i h1 h2
  have := h i h1
  rw [bt_nat _ _ h1, bt_nat _ _ h2] at this
  exact UInt8.toNat_inj.1 (by omega)
theorem toList_eq_nil (s : ByteArray) : s.toList = ([] : List UInt8) ↔ s.size = 0 := by
  rw [ByteArray.toList_eq]
  constructor
  · intro h
    have : s.data.toList.length = 0 := by rw [h]; rfl
    rwa [data_length] at this
  · intro h
    apply List.eq_nil_of_length_eq_zero
    rwa [data_length]
theorem toList_inj {a b : ByteArray} : a.toList = b.toList ↔ a = b := by
  constructor
  · intro h
    rw [ByteArray.toList_eq, ByteArray.toList_eq] at h
    exact ByteArray.ext (Array.toList_inj.1 h)
  · intro h; rw [h]
theorem wf_i64_bd {n : Int} (h : (Lit.int .i64 n).wf = true) : -9223372036854775808 ≤ n ∧ n ≤ 9223372036854775807 := by
  simp [Lit.wf, IntKind.min, IntKind.max, IntKind.signed, IntKind.bits] at h
  omega
theorem wf_u8_bd {n : Int} (h : (Lit.int .u8 n).wf = true) : 0 ≤ n ∧ n ≤ 255 := by
  simp [Lit.wf, IntKind.min, IntKind.max, IntKind.signed, IntKind.bits] at h
  omega
/-- Sums that fit (no equation with a wrap stays in a context: linear arithmetic would look into it). -/
theorem wadd1 (n : Nat) (h : n < 9223372036854775807) : wrap64 ((n : Int) + 1) = ((n + 1 : Nat) : Int) := by rw [w64 (by omega) (by omega)]; omega
theorem wadd4 (n : Nat) (h : n < 9223372036854775803) : wrap64 ((n : Int) + 4) = ((n + 4 : Nat) : Int) := by rw [w64 (by omega) (by omega)]; omega
theorem wsub1 (n : Nat) (h0 : 0 < n) (h : n < 9223372036854775807) : wrap64 ((n : Int) - 1) = ((n - 1 : Nat) : Int) := by rw [w64 (by omega) (by omega)]; omega
/-! ### The reference's octal field -/
theorem rd_drop (l : List Int) (i : Nat) (h : i < l.length) : l.drop i = rd l (i : Int) :: l.drop (i + 1) := by
  rw [List.drop_eq_getElem_cons h]
  congr 1
  unfold rd
  rw [Int.toNat_natCast, List.getD_eq_getElem?_getD, List.getElem?_eq_getElem h]
  rfl
theorem octal_eq (l : List Int) (h : ∀ x ∈ l, 0 ≤ x ∧ x ≤ 255) : num_Octal.f l = some (Go.Proofs.YtoabboeongbloaaDoor.Hand.octAt 0 (l.dropWhile (fun x => decide (x = 32)))) := by
  unfold num_Octal.f
  rw [if_pos]
  rw [List.all_eq_true]
  intro x hx
  have := h x hx
  simp only [Bool.and_eq_true, decide_eq_true_eq]
  omega
theorem w48 {a : Int} (h0 : 0 ≤ a - 48) (h1 : a - 48 ≤ 9223372036854775807) : wrap64 (wrap64 a - 48) = a - 48 := by unfold wrap64; omega
/-- A code told as yes or no. -/
def res (p : Int × Int) : Int × Bool := (p.1, decide (p.2 = 0))
theorem oct_l2 (l : List Int) (n : Int) (hl : l.length ≤ 2000) : ∀ (d i : Nat), i + d = l.length → Ev (fun k => oakumref01_Octal.l2 k l (i : Int) n) (if Go.Proofs.YtoabboeongbloaaDoor.Hand.padAll (l.drop i) = true then (n, true) else (0, false))
  | 0, i, hd => by
    refine Ev.step (fun k => oakumref01_Octal.l2.eq_2 l (i : Int) n k) ?_
    have : l.drop i = [] := List.drop_eq_nil_of_le (by omega)
    simp only [if_neg (show ¬ (i : Int) < (l.length : Int) by omega), this]
    exact Ev.now _
  | d + 1, i, hd => by
    refine Ev.step (fun k => oakumref01_Octal.l2.eq_2 l (i : Int) n k) ?_
    have ih := oct_l2 l n hl d (i + 1) (by omega)
    rw [rd_drop l i (by omega)]
    simp only [if_pos (show (i : Int) < (l.length : Int) by omega), if_pos (show 0 ≤ (i : Int) by omega), wadd1 i (by omega)]
    generalize rd l (i : Int) = x
    by_cases h0 : x = 0
    · simp only [if_pos h0]
      have : Go.Proofs.YtoabboeongbloaaDoor.Hand.padAll (x :: l.drop (i + 1)) = Go.Proofs.YtoabboeongbloaaDoor.Hand.padAll (l.drop (i + 1)) := by unfold Go.Proofs.YtoabboeongbloaaDoor.Hand.padAll; rw [List.all_cons]; simp [Go.Proofs.YtoabboeongbloaaDoor.Hand.pad, h0]
      rw [this]
      exact ih
    · by_cases h1 : x = 32
      · simp only [if_neg h0, if_pos h1]
        have : Go.Proofs.YtoabboeongbloaaDoor.Hand.padAll (x :: l.drop (i + 1)) = Go.Proofs.YtoabboeongbloaaDoor.Hand.padAll (l.drop (i + 1)) := by unfold Go.Proofs.YtoabboeongbloaaDoor.Hand.padAll; rw [List.all_cons]; simp [Go.Proofs.YtoabboeongbloaaDoor.Hand.pad, h1]
        rw [this]
        exact ih
      · simp only [if_neg h0, if_neg h1]
        have : Go.Proofs.YtoabboeongbloaaDoor.Hand.padAll (x :: l.drop (i + 1)) = false := by unfold Go.Proofs.YtoabboeongbloaaDoor.Hand.padAll; rw [List.all_cons]; simp [Go.Proofs.YtoabboeongbloaaDoor.Hand.pad, h0, h1]
        rw [this]
        exact Ev.now _
theorem oct_l1 (l : List Int) (hl : l.length ≤ 2000) (hb : ∀ x ∈ l, 0 ≤ x ∧ x ≤ 255) : ∀ (d i : Nat) (n : Int), i + d = l.length → 0 ≤ n → n ≤ 9223372036854775807 → Ev (fun k => oakumref01_Octal.l1 k l (i : Int) n) (res (Go.Proofs.YtoabboeongbloaaDoor.Hand.octAt n (l.drop i)))
  | 0, i, n, hd, h0, h1 => by
    have hnil : l.drop i = [] := List.drop_eq_nil_of_le (by omega)
    have h2 := oct_l2 l n hl 0 i hd
    refine Ev.step (fun k => oakumref01_Octal.l1.eq_2 l (i : Int) n k) ?_
    simp only [if_neg (show ¬ (i : Int) < (l.length : Int) by omega)]
    refine Ev.step (fun k => oakumref01_Octal.j3.eq_2 l (i : Int) n false k) ?_
    simp only [if_neg Bool.false_ne_true]
    rw [hnil] at h2 ⊢
    exact h2
  | d + 1, i, n, hd, h0, h1 => by
    have h2 := oct_l2 l n hl (d + 1) i hd
    have ih := oct_l1 l hl hb d (i + 1)
    have hmem : rd l (i : Int) ∈ l := List.mem_of_mem_drop (i := i) (by rw [rd_drop l i (by omega)]; exact List.mem_cons_self)
    have hx := hb _ hmem
    refine Ev.step (fun k => oakumref01_Octal.l1.eq_2 l (i : Int) n k) ?_
    rw [rd_drop l i (by omega)] at h2 ⊢
    simp only [if_pos (show (i : Int) < (l.length : Int) by omega), if_pos (show 0 ≤ (i : Int) by omega)]
    clear hmem
    by_cases hd1 : 48 ≤ rd l (i : Int) ∧ rd l (i : Int) ≤ 55
    · simp only [if_pos (show rd l (i : Int) ≥ 48 from hd1.1), decide_eq_true hd1.2]
      refine Ev.step (fun k => oakumref01_Octal.j3.eq_2 l (i : Int) n true k) ?_
      simp only [if_true]
      unfold Go.Proofs.YtoabboeongbloaaDoor.Hand.octAt
      rw [if_pos hd1]
      by_cases hn : 1152921504606846975 < n
      · simp only [if_pos (show n > 1152921504606846975 from hn), if_pos hn]
        exact Ev.now _
      · simp only [if_neg (show ¬ n > 1152921504606846975 from hn), if_neg hn, if_pos (show (i : Int) < (l.length : Int) by omega), if_pos (show 0 ≤ (i : Int) by omega), wadd1 i (by omega)]
        generalize rd l (i : Int) = x at hx hd1
        rw [w64 (n := 8 * n) (by omega) (by omega), w64 (n := x) (by omega) (by omega), w48 (a := 8 * n + x) (by omega) (by omega), show 8 * n + x - 48 = n * 8 + (x - 48) by omega]
        exact ih _ (by omega) (by omega) (by omega)
    · have hf : Ev (fun k => oakumref01_Octal.j3 k l (i : Int) n false) (res (Go.Proofs.YtoabboeongbloaaDoor.Hand.octAt n (rd l (i : Int) :: l.drop (i + 1)))) := by
        refine Ev.step (fun k => oakumref01_Octal.j3.eq_2 l (i : Int) n false k) ?_
        simp only [if_neg Bool.false_ne_true]
        have : res (Go.Proofs.YtoabboeongbloaaDoor.Hand.octAt n (rd l (i : Int) :: l.drop (i + 1))) = (if Go.Proofs.YtoabboeongbloaaDoor.Hand.padAll (rd l (i : Int) :: l.drop (i + 1)) = true then (n, true) else (0, false)) := by
          unfold Go.Proofs.YtoabboeongbloaaDoor.Hand.octAt
          rw [if_neg hd1]
          split <;> rfl
        rw [this]
        exact h2
      by_cases hge : rd l (i : Int) ≥ 48
      · have : decide (rd l (i : Int) ≤ 55) = false := decide_eq_false (by omega)
        simp only [if_pos hge, this]
        exact hf
      · simp only [if_neg hge]
        exact hf
theorem oct_l0 (l : List Int) (hl : l.length ≤ 2000) (hb : ∀ x ∈ l, 0 ≤ x ∧ x ≤ 255) : ∀ (d i : Nat), i + d = l.length → Ev (fun k => oakumref01_Octal.l0 k l (i : Int)) (res (Go.Proofs.YtoabboeongbloaaDoor.Hand.octAt 0 ((l.drop i).dropWhile (fun x => decide (x = 32)))))
  | 0, i, hd => by
    have hnil : l.drop i = [] := List.drop_eq_nil_of_le (by omega)
    have h1 := oct_l1 l hl hb 0 i 0 hd (by omega) (by omega)
    refine Ev.step (fun k => oakumref01_Octal.l0.eq_2 l (i : Int) k) ?_
    simp only [if_neg (show ¬ (i : Int) < (l.length : Int) by omega)]
    refine Ev.step (fun k => oakumref01_Octal.j1.eq_2 l (i : Int) k) ?_
    rw [hnil] at h1 ⊢
    exact h1
  | d + 1, i, hd => by
    have h1 := oct_l1 l hl hb (d + 1) i 0 hd (by omega) (by omega)
    have ih := oct_l0 l hl hb d (i + 1) (by omega)
    refine Ev.step (fun k => oakumref01_Octal.l0.eq_2 l (i : Int) k) ?_
    rw [rd_drop l i (by omega)] at h1 ⊢
    simp only [if_pos (show (i : Int) < (l.length : Int) by omega), if_pos (show 0 ≤ (i : Int) by omega)]
    by_cases hx : rd l (i : Int) = 32
    · simp only [if_pos hx, wadd1 i (by omega)]
      rw [List.dropWhile_cons, if_pos (decide_eq_true hx)]
      exact ih
    · simp only [if_neg hx]
      refine Ev.step (fun k => oakumref01_Octal.j1.eq_2 l (i : Int) k) ?_
      rw [List.dropWhile_cons, if_neg (by simpa using hx)]
      exact h1
theorem octAt_bd : ∀ (l : List Int) (n : Int), 0 ≤ n → n ≤ 9223372036854775807 → 0 ≤ (Go.Proofs.YtoabboeongbloaaDoor.Hand.octAt n l).1 ∧ (Go.Proofs.YtoabboeongbloaaDoor.Hand.octAt n l).1 ≤ 9223372036854775807 ∧ ((Go.Proofs.YtoabboeongbloaaDoor.Hand.octAt n l).2 = 0 ∨ (Go.Proofs.YtoabboeongbloaaDoor.Hand.octAt n l).2 = 5)
  | [], n, h0, h1 => ⟨h0, h1, .inl rfl⟩
  | x :: r, n, h0, h1 => by
    unfold Go.Proofs.YtoabboeongbloaaDoor.Hand.octAt
    split
    · split
      · exact ⟨by simp, by simp, .inr rfl⟩
      · exact octAt_bd r _ (by omega) (by omega)
    · split
      · exact ⟨h0, h1, .inl rfl⟩
      · exact ⟨by simp, by simp, .inr rfl⟩
/-! ### Wide fields -/
/-- A digit, or its other side. -/
def comp (neg : Bool) (c : Int) : Int := if neg = true then 255 - c else c
def val (neg : Bool) (n : Int) : List Int → Int
  | [] => n
  | c :: r => val neg (256 * n + comp neg c) r
theorem comp_bd (neg : Bool) (c : Int) (h : 0 ≤ c ∧ c ≤ 255) : 0 ≤ comp neg c ∧ comp neg c ≤ 255 := by
  unfold comp; split <;> omega
theorem pow256 (a b : Nat) (h : a ≤ b) : (256 : Int) ^ a ≤ 256 ^ b := by
  obtain ⟨d, rfl⟩ : ∃ d, b = a + d := ⟨b - a, by omega⟩
  rw [Int.pow_add]
  have h1 : (0 : Int) < 256 ^ d := Int.pow_pos (by omega)
  have h2 : (0 : Int) ≤ 256 ^ a := Int.pow_nonneg (by omega)
  have h3 : (256 : Int) ^ a * 1 ≤ 256 ^ a * 256 ^ d := Int.mul_le_mul_of_nonneg_left (by omega) h2
  rwa [Int.mul_one] at h3
theorem val_ge (neg : Bool) : ∀ (l : List Int), (∀ x ∈ l, 0 ≤ x ∧ x ≤ 255) → ∀ n, 0 ≤ n → n * 256 ^ l.length ≤ val neg n l
  | [], _, n, h0 => by simp [val]
  | c :: r, h, n, h0 => by
    have hc := comp_bd neg c (h c List.mem_cons_self)
    have ih := val_ge neg r (fun x hx => h x (List.mem_cons_of_mem _ hx)) (256 * n + comp neg c) (by omega)
    unfold val
    refine Int.le_trans ?_ ih
    rw [List.length_cons, Int.pow_succ, show n * (256 ^ r.length * 256) = (256 * n) * 256 ^ r.length by rw [Int.mul_comm (256 ^ r.length) 256, ← Int.mul_assoc, Int.mul_comm n 256]]
    exact Int.mul_le_mul_of_nonneg_right (by omega) (Int.pow_nonneg (by omega))
theorem val_lt (neg : Bool) : ∀ (l : List Int), (∀ x ∈ l, 0 ≤ x ∧ x ≤ 255) → ∀ n, 0 ≤ n → val neg n l < (n + 1) * 256 ^ l.length
  | [], _, n, h0 => by simp [val]; omega
  | c :: r, h, n, h0 => by
    have hc := comp_bd neg c (h c List.mem_cons_self)
    have ih := val_lt neg r (fun x hx => h x (List.mem_cons_of_mem _ hx)) (256 * n + comp neg c) (by omega)
    unfold val
    refine Int.lt_of_lt_of_le ih ?_
    rw [List.length_cons, Int.pow_succ, show (n + 1) * (256 ^ r.length * 256) = (256 * (n + 1)) * 256 ^ r.length by rw [Int.mul_comm (256 ^ r.length) 256, ← Int.mul_assoc, Int.mul_comm (n + 1) 256]]
    exact Int.mul_le_mul_of_nonneg_right (by omega) (Int.pow_nonneg (by omega))
theorem val_self (neg : Bool) (l : List Int) (h : ∀ x ∈ l, 0 ≤ x ∧ x ≤ 255) (n : Int) (h0 : 0 ≤ n) : n ≤ val neg n l := by
  have h1 := val_ge neg l h n h0
  have h2 : (1 : Int) ≤ 256 ^ l.length := by
    have : (0 : Int) < 256 ^ l.length := Int.pow_pos (by omega)
    omega
  have h3 : n * 1 ≤ n * 256 ^ l.length := Int.mul_le_mul_of_nonneg_left h2 h0
  omega
/-- The number that the digits tell, and whether it fits. -/
def wideOf (neg : Bool) (v : Int) : Int × Int := if v < 9223372036854775808 then (if neg = true then -v - 1 else v, 0) else (0, 5)
/-- The reference's loop: the whole field l, its first byte 255 or 128. -/
theorem ref_wide (l : List Int) (hl : l.length ≤ 2000) (hb : ∀ x ∈ l, 0 ≤ x ∧ x ≤ 255) (neg : Bool) (hlen : 0 < l.length) (hf : rd l 0 = if neg = true then 255 else 128) :
    ∀ (d i : Nat) (n : Int), i + d = l.length → 0 ≤ n → n < 9223372036854775808 → Ev (fun k => oakumref01_Wide.l0 k l n (i : Int)) (res (wideOf neg (val neg n (l.drop i))))
  | 0, i, n, hd, h0, h1 => by
    refine Ev.step (fun k => oakumref01_Wide.l0.eq_2 l n (i : Int) k) ?_
    have hnil : l.drop i = [] := List.drop_eq_nil_of_le (by omega)
    rw [hnil]
    simp only [if_neg (show ¬ (i : Int) < (l.length : Int) by omega), if_pos (show (0 : Int) < (l.length : Int) by omega), hf]
    have : wideOf neg (val neg n []) = (if neg = true then -n - 1 else n, 0) := by unfold wideOf val; rw [if_pos h1]
    rw [this]
    cases neg with
    | true =>
      simp only [if_true]
      rw [w64 (n := -n) (by omega) (by omega), w64 (by omega) (by omega)]
      exact Ev.now _
    | false =>
      simp only [if_neg Bool.false_ne_true, if_neg (show ¬ (128 : Int) = 255 by decide)]
      exact Ev.now _
  | d + 1, i, n, hd, h0, h1 => by
    have ih := ref_wide l hl hb neg hlen hf d (i + 1)
    have hmem : rd l (i : Int) ∈ l := List.mem_of_mem_drop (i := i) (by rw [rd_drop l i (by omega)]; exact List.mem_cons_self)
    have hx := hb _ hmem
    have hv : val neg n (l.drop i) = val neg (256 * n + comp neg (rd l (i : Int))) (l.drop (i + 1)) := by rw [rd_drop l i (by omega), val]
    have hcb := comp_bd neg _ hx
    refine Ev.step (fun k => oakumref01_Wide.l0.eq_2 l n (i : Int) k) ?_
    rw [hv]
    simp only [if_pos (show (i : Int) < (l.length : Int) by omega), if_pos (show 0 ≤ (i : Int) by omega), if_pos (show (0 : Int) < (l.length : Int) by omega), hf, wadd1 i (by omega)]
    clear hmem hv
    generalize rd l (i : Int) = x at hx hcb
    by_cases hn : n > 36028797018963967
    · have hbig : wideOf neg (val neg (256 * n + comp neg x) (l.drop (i + 1))) = (0, 5) := by
        unfold wideOf
        have := val_self neg (l.drop (i + 1)) (fun y hy => hb y (List.mem_of_mem_drop hy)) (256 * n + comp neg x) (by omega)
        rw [if_neg (by omega)]
      rw [hbig]
      simp only [if_pos hn]
      cases neg <;> exact Ev.now _
    · simp only [if_neg hn]
      have := ih (256 * n + comp neg x) (by omega) (by omega) (by omega)
      cases neg with
      | true =>
        simp only [if_true]
        have e : comp true x = 255 - x := rfl
        rw [e] at this
        rw [e, w64 (n := 256 * n) (by omega) (by omega), w64 (n := x) (by omega) (by omega), w64 (n := 255 - x) (by omega) (by omega), w64 (n := 256 * n + (255 - x)) (by omega) (by omega)]
        exact this
      | false =>
        simp only [if_neg Bool.false_ne_true, if_neg (show ¬ (128 : Int) = 255 by decide)]
        have e : comp false x = x := rfl
        rw [e] at this
        rw [e, w64 (n := 256 * n) (by omega) (by omega), w64 (n := x) (by omega) (by omega), w64 (n := 256 * n + x) (by omega) (by omega)]
        exact this
/-- What the code carries: the number, or its other side, of 64 bits. -/
def carry (neg : Bool) (m : Int) : Int := if neg = true then 18446744073709551615 - m else m
theorem or_byte (x c : Int) (h0 : 0 ≤ x) (hc : 0 ≤ c ∧ c ≤ 255) : Go.bits .or .u64 (IntKind.u64.wrap (x * 256)) (IntKind.u64.wrap c) = x * 256 % 18446744073709551616 + c := by
  rw [IntKind.wrap_u64, IntKind.wrap_u64]
  obtain ⟨a, rfl⟩ := Int.eq_ofNat_of_zero_le h0
  obtain ⟨b, rfl⟩ := Int.eq_ofNat_of_zero_le hc.1
  rw [show ((b : Int)) % 18446744073709551616 = (b : Int) by omega]
  have hq : ((a : Int) * 256) % 18446744073709551616 = ((2 ^ 8 * (a % 72057594037927936) : Nat) : Int) := by omega
  rw [hq, Go.u64_or_nat _ _ (by omega) (by omega), ← Nat.two_pow_add_eq_or_of_lt (show b < 2 ^ 8 by omega)]
  omega
theorem wide_l1 (neg : Bool) (l : List Int) (hl : l.length ≤ 2000) (hb : ∀ x ∈ l, 0 ≤ x ∧ x ≤ 255) : ∀ (d i : Nat) (m : Int), i + d = l.length → 0 ≤ m → val neg m (l.drop i) < 9223372036854775808 →
    Ev (fun k => num_Wide.l1 k (carry neg m) l (l.length : Int) (i : Int)) (wideOf neg (val neg m (l.drop i)))
  | 0, i, m, hd, h0, hv => by
    refine Ev.step (fun k => num_Wide.l1.eq_2 (carry neg m) l (l.length : Int) (i : Int) k) ?_
    have hnil : l.drop i = [] := List.drop_eq_nil_of_le (by omega)
    rw [hnil] at hv ⊢
    simp only [if_neg (show ¬ (i : Int) < (l.length : Int) by omega)]
    unfold wideOf
    rw [if_pos hv]
    unfold val at hv ⊢
    have : wrap64 (carry neg m) = if neg = true then -m - 1 else m := by
      unfold carry
      cases neg
      · simp only [if_neg Bool.false_ne_true]; exact w64 (by omega) (by omega)
      · simp only [if_true]; unfold wrap64; omega
    rw [this]
    exact Ev.now _
  | d + 1, i, m, hd, h0, hv => by
    have ih := wide_l1 neg l hl hb d (i + 1)
    have hmem : rd l (i : Int) ∈ l := List.mem_of_mem_drop (i := i) (by rw [rd_drop l i (by omega)]; exact List.mem_cons_self)
    have hx := hb _ hmem
    have e : val neg m (l.drop i) = val neg (256 * m + comp neg (rd l (i : Int))) (l.drop (i + 1)) := by rw [rd_drop l i (by omega), val]
    rw [e] at hv ⊢
    have hcb := comp_bd neg _ hx
    have hself := val_self neg (l.drop (i + 1)) (fun y hy => hb y (List.mem_of_mem_drop hy)) (256 * m + comp neg (rd l (i : Int))) (by omega)
    refine Ev.step (fun k => num_Wide.l1.eq_2 (carry neg m) l (l.length : Int) (i : Int) k) ?_
    simp only [if_pos (show (i : Int) < (l.length : Int) by omega), if_pos (show 0 ≤ (i : Int) by omega), wadd1 i (by omega)]
    clear hmem e
    generalize rd l (i : Int) = x at hx hcb hv hself ⊢
    have hcr : Go.bits .or .u64 (IntKind.u64.wrap (carry neg m * 256)) (IntKind.u64.wrap x) = carry neg (256 * m + comp neg x) := by
      have hc0 : 0 ≤ carry neg m := by unfold carry; split <;> omega
      rw [or_byte _ _ hc0 hx]
      cases neg
      · simp only [carry, comp, if_neg Bool.false_ne_true] at hself hv hcb ⊢; omega
      · simp only [carry, comp, if_true] at hself hv hcb ⊢; omega
    rw [hcr]
    exact ih _ (by omega) (by omega) hv
theorem wide_l0 (neg : Bool) : ∀ (l : List Int), l.length ≤ 2000 → (∀ x ∈ l, 0 ≤ x ∧ x ≤ 255) → Ev (fun k => num_Wide.l0 k (if neg = true then 255 else 0) (carry neg 0) l) (wideOf neg (val neg 0 l))
  | [], hl, hb => by
    refine Ev.step (fun k => num_Wide.l0.eq_2 _ _ _ k) ?_
    simp only [List.length_nil, if_neg (show ¬ ((0 : Nat) : Int) > 8 by omega), if_neg (show ¬ ((0 : Nat) : Int) = 8 by omega)]
    refine Ev.step (fun k => num_Wide.j4.eq_2 _ _ _ k) ?_
    simp only [if_neg Bool.false_ne_true]
    exact wide_l1 neg [] (by simp) hb 0 0 0 rfl (by omega) (by simp [val])
  | c :: r, hl, hb => by
    have ih := wide_l0 neg r (by simp at hl; omega) (fun x hx => hb x (List.mem_cons_of_mem _ hx))
    have hc := hb c List.mem_cons_self
    have hcb := comp_bd neg c hc
    have hr : ∀ x ∈ r, 0 ≤ x ∧ x ≤ 255 := fun x hx => hb x (List.mem_cons_of_mem _ hx)
    have hv : val neg 0 (c :: r) = val neg (comp neg c) r := by rw [val, Int.mul_zero, Int.zero_add]
    have hrd : rd (c :: r) 0 = c := rfl
    have hlen : (c :: r).length = r.length + 1 := rfl
    obtain ⟨fill, hfill⟩ : ∃ f : Int, f = if neg = true then 255 else 0 := ⟨_, rfl⟩
    rw [← hfill] at ih ⊢
    refine Ev.step (fun k => num_Wide.l0.eq_2 _ _ _ k) ?_
    simp only [hrd, hlen, if_pos (show (0 : Int) < ((r.length + 1 : Nat) : Int) by omega), if_pos (show (1 : Int) ≤ ((r.length + 1 : Nat) : Int) by omega), List.drop_succ_cons, List.drop_zero]
    have hl1 : ∀ h : val neg 0 (c :: r) < 9223372036854775808, Ev (fun k => num_Wide.j4 k (carry neg 0) (c :: r) false) (wideOf neg (val neg 0 (c :: r))) := by
      intro h
      refine Ev.step (fun k => num_Wide.j4.eq_2 _ _ _ k) ?_
      simp only [if_neg Bool.false_ne_true]
      exact wide_l1 neg (c :: r) hl hb (c :: r).length 0 0 (by omega) (by omega) h
    by_cases h8 : 8 < r.length + 1
    · simp only [if_pos (show ((r.length + 1 : Nat) : Int) > 8 by omega)]
      by_cases hz : c = fill
      · simp only [if_pos hz]
        have : comp neg c = 0 := by rw [hz, hfill]; unfold comp; cases neg <;> rfl
        rw [hv, this]
        exact ih
      · simp only [if_neg hz]
        have hne : 1 ≤ comp neg c := by
          unfold comp at hcb ⊢
          cases neg
          · simp only [if_neg Bool.false_ne_true] at hfill hcb ⊢; omega
          · simp only [if_true] at hfill hcb ⊢; omega
        have hg := val_ge neg r hr (comp neg c) (by omega)
        have hp : (256 : Int) ^ 8 ≤ 256 ^ r.length := by
          exact pow256 _ _ (by omega)
        have hq : 1 * (256 : Int) ^ 8 ≤ comp neg c * 256 ^ r.length := Int.mul_le_mul hne hp (by omega) (by omega)
        have : wideOf neg (val neg 0 (c :: r)) = (0, 5) := by
          unfold wideOf
          rw [hv, if_neg (by omega)]
        rw [this]
        exact Ev.now _
    · simp only [if_neg (show ¬ ((r.length + 1 : Nat) : Int) > 8 by omega)]
      by_cases h7 : r.length + 1 = 8
      · have hr7 : r.length = 7 := by omega
        simp only [if_pos (show ((r.length + 1 : Nat) : Int) = 8 by omega)]
        by_cases hs : comp neg c < 128
        · have : (c / 128 != fill / 128) = false := by
            unfold comp at hs hcb
            cases neg
            · simp only [if_neg Bool.false_ne_true] at hs hcb hfill; subst hfill; simp; omega
            · simp only [if_true] at hs hcb hfill; subst hfill; simp; omega
          rw [this]
          refine hl1 ?_
          have hlt := val_lt neg r hr (comp neg c) (by omega)
          rw [hr7] at hlt
          rw [hv]
          omega
        · have : (c / 128 != fill / 128) = true := by
            unfold comp at hs hcb
            cases neg
            · simp only [if_neg Bool.false_ne_true] at hs hcb hfill; subst hfill; simp; omega
            · simp only [if_true] at hs hcb hfill; subst hfill; simp; omega
          rw [this]
          refine Ev.step (fun k => num_Wide.j4.eq_2 _ _ _ k) ?_
          simp only [if_true]
          have hg := val_ge neg r hr (comp neg c) (by omega)
          rw [hr7] at hg
          have : wideOf neg (val neg 0 (c :: r)) = (0, 5) := by
            unfold wideOf
            rw [hv, if_neg (by omega)]
          rw [this]
          exact Ev.now _
      · simp only [if_neg (show ¬ ((r.length + 1 : Nat) : Int) = 8 by omega)]
        refine hl1 ?_
        have hlt := val_lt neg r hr (comp neg c) (by omega)
        have hp : (256 : Int) ^ r.length ≤ 256 ^ 6 := by
          exact pow256 _ _ (by omega)
        have hq : (comp neg c + 1) * (256 : Int) ^ r.length ≤ (comp neg c + 1) * 256 ^ 6 := Int.mul_le_mul_of_nonneg_left hp (by omega)
        rw [hv]
        omega
/-! ### The law -/
theorem wide_pair (l : List Int) (hl : l.length ≤ 2000) (hb : ∀ x ∈ l, 0 ≤ x ∧ x ≤ 255) : ∃ p : Int × Int, (p.2 = 0 ∨ p = (0, 5)) ∧ Ev (fun k => num_Wide.f k l) p ∧ Ev (fun k => oakumref01_Wide.f k l) (res p) := by
  have hno : ∀ b : Bool, b = true → Ev (fun k => num_Wide.j0 k l b) (0, 5) ∧ Ev (fun k => oakumref01_Wide.j0 k l b) (0, false) := by
    intro b e
    subst e
    constructor
    · refine Ev.step (fun k => num_Wide.j0.eq_2 _ _ k) ?_
      simp only [if_true]
      exact Ev.now _
    · refine Ev.step (fun k => oakumref01_Wide.j0.eq_2 _ _ k) ?_
      simp only [if_true]
      exact Ev.now _
  by_cases h2 : l.length < 2
  · refine ⟨(0, 5), .inr rfl, ?_, ?_⟩
    · unfold num_Wide.f
      simp only [if_pos (show (l.length : Int) < 2 by omega)]
      exact (hno true rfl).1
    · unfold oakumref01_Wide.f
      simp only [if_pos (show (l.length : Int) < 2 by omega)]
      exact (hno true rfl).2
  have hgo : ∀ neg : Bool, rd l 0 = (if neg = true then 255 else 128) → Ev (fun k => num_Wide.j0 k l false) (wideOf neg (val neg 0 (l.drop 1))) ∧ Ev (fun k => oakumref01_Wide.j0 k l false) (res (wideOf neg (val neg 0 (l.drop 1)))) := by
    intro neg hf
    have h0 := wide_l0 neg (l.drop 1) (by rw [List.length_drop]; omega) (fun x hx => hb x (List.mem_of_mem_drop hx))
    have h1 := ref_wide l hl hb neg (by omega) hf (l.length - 1) 1 0 (by omega) (by omega) (by omega)
    constructor
    · refine Ev.step (fun k => num_Wide.j0.eq_2 _ _ k) ?_
      simp only [if_neg Bool.false_ne_true, if_pos (show 0 < (l.length : Int) by omega), hf]
      cases neg with
      | true =>
        simp only [if_true]
        refine Ev.step (fun k => num_Wide.j1.eq_2 _ _ k) ?_
        simp only [if_neg (show ¬ (255 : Int) = 0 by decide)]
        refine Ev.step (fun k => num_Wide.j2.eq_2 _ _ _ k) ?_
        simp only [if_pos (show 1 ≤ (l.length : Int) by omega)]
        exact h0
      | false =>
        simp only [if_neg Bool.false_ne_true, if_neg (show ¬ (128 : Int) = 255 by decide)]
        refine Ev.step (fun k => num_Wide.j1.eq_2 _ _ k) ?_
        simp only [if_true]
        refine Ev.step (fun k => num_Wide.j2.eq_2 _ _ _ k) ?_
        simp only [if_pos (show 1 ≤ (l.length : Int) by omega)]
        exact h0
    · refine Ev.step (fun k => oakumref01_Wide.j0.eq_2 _ _ k) ?_
      simp only [if_neg Bool.false_ne_true]
      exact h1
  have hcode : ∀ neg v, (wideOf neg v).2 = 0 ∨ wideOf neg v = (0, 5) := by
    intro neg v
    unfold wideOf
    split
    · exact .inl rfl
    · exact .inr rfl
  by_cases h128 : rd l 0 = 128
  · obtain ⟨g1, g2⟩ := hgo false (by rw [h128]; rfl)
    refine ⟨wideOf false (val false 0 (l.drop 1)), hcode _ _, ?_, ?_⟩
    rotate_left
    · unfold oakumref01_Wide.f
      simp only [if_neg (show ¬ (l.length : Int) < 2 by omega), if_pos (show 0 < (l.length : Int) by omega), if_pos h128]
      exact g2
    · unfold num_Wide.f
      simp only [if_neg (show ¬ (l.length : Int) < 2 by omega), if_pos (show 0 < (l.length : Int) by omega), if_pos h128]
      exact g1
  · by_cases h255 : rd l 0 = 255
    · obtain ⟨g1, g2⟩ := hgo true (by rw [h255]; rfl)
      have hb1 : (rd l 0 != 255) = false := by simp [h255]
      refine ⟨wideOf true (val true 0 (l.drop 1)), hcode _ _, ?_, ?_⟩
      rotate_left
      · unfold oakumref01_Wide.f
        simp only [if_neg (show ¬ (l.length : Int) < 2 by omega), if_pos (show 0 < (l.length : Int) by omega), if_neg h128, hb1]
        exact g2
      · unfold num_Wide.f
        simp only [if_neg (show ¬ (l.length : Int) < 2 by omega), if_pos (show 0 < (l.length : Int) by omega), if_neg h128, hb1]
        exact g1
    · have hb1 : (rd l 0 != 255) = true := by simp [h255]
      refine ⟨(0, 5), .inr rfl, ?_, ?_⟩
      · unfold num_Wide.f
        simp only [if_neg (show ¬ (l.length : Int) < 2 by omega), if_pos (show 0 < (l.length : Int) by omega), if_neg h128, hb1]
        exact (hno true rfl).1
      · unfold oakumref01_Wide.f
        simp only [if_neg (show ¬ (l.length : Int) < 2 by omega), if_pos (show 0 < (l.length : Int) by omega), if_neg h128, hb1]
        exact (hno true rfl).2
theorem octAt_code : ∀ (l : List Int) (n : Int), (Go.Proofs.YtoabboeongbloaaDoor.Hand.octAt n l).2 = 0 ∨ Go.Proofs.YtoabboeongbloaaDoor.Hand.octAt n l = (0, 5)
  | [], n => .inl rfl
  | x :: r, n => by
    unfold Go.Proofs.YtoabboeongbloaaDoor.Hand.octAt
    split
    · split
      · exact .inr rfl
      · exact octAt_code r _
    · split
      · exact .inl rfl
      · exact .inr rfl
/-- num.Get and the document's Get tell alike. -/
theorem get_pair (l0 : List Int) (hl : l0.length ≤ 2000) (hb : ∀ x ∈ l0, 0 ≤ x ∧ x ≤ 255) : ∃ q : Int × Int, (q.2 = 0 ∨ q = (0, 5)) ∧ Ev (fun k => num_Get.f k l0) q ∧ Ev (fun k => oakumref01_Get.f k l0) (res q) := by
  have ho := oct_l0 l0 hl hb l0.length 0 (by omega)
  rw [List.drop_zero] at ho
  obtain ⟨o, ho1⟩ : ∃ o : Int × Int, o = Go.Proofs.YtoabboeongbloaaDoor.Hand.octAt 0 (l0.dropWhile (fun x => decide (x = 32))) := ⟨_, rfl⟩
  have ho2 := octAt_code (l0.dropWhile (fun x => decide (x = 32))) 0
  have hoe := octal_eq l0 hb
  rw [← ho1] at ho ho2 hoe
  obtain ⟨p, hp, e1, e2⟩ := wide_pair l0 hl hb
  have hwide : Ev (fun k => num_Get.j0 k l0 true) p ∧ Ev (fun k => oakumref01_Get.j0 k l0 true) (res p) := by
    constructor
    · refine Ev.step (fun k => num_Get.j0.eq_2 _ _ k) ?_
      simp only [if_true]
      refine Ev.bind e1 ?_
      exact Ev.now _
    · refine Ev.step (fun k => oakumref01_Get.j0.eq_2 _ _ k) ?_
      simp only [if_true]
      refine Ev.bind e2 ?_
      exact Ev.now _
  have hoct : Ev (fun k => num_Get.j0 k l0 false) o ∧ Ev (fun k => oakumref01_Get.j0 k l0 false) (res o) := by
    constructor
    · refine Ev.step (fun k => num_Get.j0.eq_2 _ _ k) ?_
      simp only [if_neg Bool.false_ne_true, hoe, Option.bind_some]
      exact Ev.now _
    · refine Ev.step (fun k => oakumref01_Get.j0.eq_2 _ _ k) ?_
      simp only [if_neg Bool.false_ne_true]
      refine Ev.bind (g := fun k => oakumref01_Octal.f k l0) ho ?_
      exact Ev.now _
  unfold num_Get.f oakumref01_Get.f
  by_cases h0 : 0 < l0.length
  · simp only [if_pos (show (l0.length : Int) > 0 by omega)]
    by_cases h128 : rd l0 0 ≥ 128
    · simp only [decide_eq_true h128]
      exact ⟨p, hp, hwide⟩
    · simp only [decide_eq_false h128]
      exact ⟨o, ho2, hoct⟩
  · simp only [if_neg (show ¬ (l0.length : Int) > 0 by omega)]
    exact ⟨o, ho2, hoct⟩
end Go.Proofs.YtoabboeongbloaaDoor.GetP
/- The document's numbers of a header, and the law HeadNumbers: the walks. -/
set_option linter.unusedVariables false
set_option linter.unusedSimpArgs false
namespace Go.Proofs.YtoabboeongbloaaDoor.NumL
open Go.RowKit Go.Proofs.YtoabboeongbloaaDoorW.PrintWords Go.Proofs.YtoabboeongbloaaDoorW.PrintLast Go.Proofs.YtoabboeongbloaaDoorW.PrintMore Go.Proofs.YtoabboeongbloaaDoorW.Mv Go.Proofs.YtoabboeongbloaaDoorW.HKit Go.Proofs.YtoabboeongbloaaDoorW.But Go.Proofs.YtoabboeongbloaaDoor.HeadA Go.Proofs.YtoabboeongbloaaDoor.PHeadGets Go.Proofs.YtoabboeongbloaaDoor.PN Go.Proofs.YtoabboeongbloaaDoor.HeadN Go.Proofs.YtoabboeongbloaaDoor.Fmt
set_option maxHeartbeats 2000000 in
set_option maxRecDepth 100000 in
theorem numbers_calls (w : World) : Calls Tryd.prog 31 #[] w fun e w' => e = .returned (.agg #[.int .i64 100, .int .i64 8, .int .i64 108, .int .i64 8, .int .i64 116, .int .i64 8, .int .i64 124, .int .i64 12, .int .i64 136, .int .i64 12, .int .i64 329, .int .i64 8, .int .i64 337, .int .i64 8]) ∧ Below w.heap.size w w' := by
  go_enter Tryd.func31, Tryd.ntmps31
  go_wp2_with fail
  refine bodyPost_ret (results_cell_row rfl _ _ w.heap.size 71 _ (0, 0) _ rfl (heap_alloc_new w _) Tryd.underlying71 rfl (by kernel_rfl)) rfl ?_
  exact ⟨rfl, (Below.refl _ w).alloc (Nat.le_refl _) _⟩
/-- The i-th number's place. -/
def place : Nat → Nat × Nat
  | 0 => (100, 8)
  | 1 => (108, 8)
  | 2 => (116, 8)
  | 3 => (124, 12)
  | 4 => (136, 12)
  | 5 => (329, 8)
  | _ => (337, 8)
def rnumV (i : Nat) (n : Int) (ok : Bool) : Value := if ok = false ∨ (n < 0 ∧ ¬ i = 4) then .tuple #[.int .i64 0, .int .i64 5] else .tuple #[.int .i64 n, .int .i64 0]
set_option maxHeartbeats 8000000 in
set_option maxRecDepth 100000 in
theorem rnumber_0 (k : Nat) (A : Option Addr) (c : Nat) (l : List Int) (n : Int) (ok : Bool) (w : World) (hl : l.length = 512) (hr : Kd.C (Kd.int .u8) w A l.length l) (hc : l.length ≤ c) (hg : oakumref01_Get.f k (HeadA.part l 100 8) = some (n, ok)) :
    Calls Tryd.prog 20 #[.slice A l.length c, .int .i64 0] w fun e w' => e = .returned (rnumV 0 n ok) ∧ Below w.heap.size w w' := by
  have hnum := numbers_calls w
  have HN := Lib.hid hnum
  have hcut : ∀ W : World, (Instr.slice 25 (.slice A l.length c) (some (.int .i64 100)) (some (.int .i64 108)) none).run Tryd.prog W = .ok (.slice (cutAt A c 100) 8 (c - 100)) W := cut_run A c l.length 100 8 (by omega) hc
  have hpl := part_len l 100 8 (by omega)
  have hgc := fun (W : World) (hW : Below w.heap.size w W) => oakumref01_Get.calls k (cutAt A c 100) (c - 100) (HeadA.part l 100 8) n ok W (by rw [hpl]; exact cut_C (Kd.C_below hr hW) (by omega) hc) (by rw [hpl]; omega) hg
  simp only [hpl] at hgc
  have HG := Lib.hid hgc
  have hix : ∀ W : World, (Instr.index 71 (.agg #[.int .i64 100, .int .i64 8, .int .i64 108, .int .i64 8, .int .i64 116, .int .i64 8, .int .i64 124, .int .i64 12, .int .i64 136, .int .i64 12, .int .i64 329, .int .i64 8, .int .i64 337, .int .i64 8]) (.int .i64 0)).run Tryd.prog W = .ok (.agg #[.int .i64 100, .int .i64 8]) W := fun W => by kernel_rfl
  clear hr hnum hg hpl hgc hl
  generalize cutAt A c 100 = A' at *
  cases ok
  · have HV := Lib.hid (show rnumV 0 n false = .tuple #[.int .i64 0, .int .i64 5] from if_pos (.inl rfl))
    go_enter Tryd.func20, Tryd.ntmps20
    go_wp2_with fail
    (with_reducible refine HN.out.mono ?_)
    rintro e w1 ⟨rfl, hb1⟩
    have hb2 := ((Below.refl w1.heap.size w1).alloc (Nat.le_refl _) (.cells #[.int .i64 100, .int .i64 8] 67))
    have HB1 := Lib.hid (hb1.trans (hb2.mono hb1.size))
    clear hb1 hb2 HN
    go_wp2_with fail
    (with_reducible refine (HG.out _ HB1.out).mono ?_)
    rintro e w2 ⟨rfl, hd⟩
    have HB2 := Lib.hid (HB1.out.trans (hd.below.mono HB1.out.size))
    clear hd HB1 HG
    go_wp2_with fail
    go_ret2
    exact ⟨congrArg Ending.returned HV.out.symm, HB2.out⟩
  · by_cases hn : n < 0
    · have d1 : decide (n < 0) = true := decide_eq_true hn
      have HV := Lib.hid (show rnumV 0 n true = .tuple #[.int .i64 0, .int .i64 5] from if_pos (.inr ⟨hn, by decide⟩))
      clear hn
      go_enter Tryd.func20, Tryd.ntmps20
      go_wp2_with fail
      (with_reducible refine HN.out.mono ?_)
      rintro e w1 ⟨rfl, hb1⟩
      have hb2 := ((Below.refl w1.heap.size w1).alloc (Nat.le_refl _) (.cells #[.int .i64 100, .int .i64 8] 67))
      have HB1 := Lib.hid (hb1.trans (hb2.mono hb1.size))
      clear hb1 hb2 HN
      go_wp2_with fail
      (with_reducible refine (HG.out _ HB1.out).mono ?_)
      rintro e w2 ⟨rfl, hd⟩
      have HB2 := Lib.hid (HB1.out.trans (hd.below.mono HB1.out.size))
      clear hd HB1 HG
      go_wp2_with fail
      go_ret2
      exact ⟨congrArg Ending.returned HV.out.symm, HB2.out⟩
    · have d1 : decide (n < 0) = false := decide_eq_false hn
      have HV := Lib.hid (show rnumV 0 n true = .tuple #[.int .i64 n, .int .i64 0] from if_neg (by rintro (h | h); exact Bool.noConfusion h; exact hn h.1))
      clear hn
      go_enter Tryd.func20, Tryd.ntmps20
      go_wp2_with fail
      (with_reducible refine HN.out.mono ?_)
      rintro e w1 ⟨rfl, hb1⟩
      have hb2 := ((Below.refl w1.heap.size w1).alloc (Nat.le_refl _) (.cells #[.int .i64 100, .int .i64 8] 67))
      have HB1 := Lib.hid (hb1.trans (hb2.mono hb1.size))
      clear hb1 hb2 HN
      go_wp2_with fail
      (with_reducible refine (HG.out _ HB1.out).mono ?_)
      rintro e w2 ⟨rfl, hd⟩
      have HB2 := Lib.hid (HB1.out.trans (hd.below.mono HB1.out.size))
      clear hd HB1 HG
      go_wp2_with fail
      go_ret2
      exact ⟨congrArg Ending.returned HV.out.symm, HB2.out⟩
set_option maxHeartbeats 8000000 in
set_option maxRecDepth 100000 in
theorem rnumber_1 (k : Nat) (A : Option Addr) (c : Nat) (l : List Int) (n : Int) (ok : Bool) (w : World) (hl : l.length = 512) (hr : Kd.C (Kd.int .u8) w A l.length l) (hc : l.length ≤ c) (hg : oakumref01_Get.f k (HeadA.part l 108 8) = some (n, ok)) :
    Calls Tryd.prog 20 #[.slice A l.length c, .int .i64 1] w fun e w' => e = .returned (rnumV 1 n ok) ∧ Below w.heap.size w w' := by
  have hnum := numbers_calls w
  have HN := Lib.hid hnum
  have hcut : ∀ W : World, (Instr.slice 25 (.slice A l.length c) (some (.int .i64 108)) (some (.int .i64 116)) none).run Tryd.prog W = .ok (.slice (cutAt A c 108) 8 (c - 108)) W := cut_run A c l.length 108 8 (by omega) hc
  have hpl := part_len l 108 8 (by omega)
  have hgc := fun (W : World) (hW : Below w.heap.size w W) => oakumref01_Get.calls k (cutAt A c 108) (c - 108) (HeadA.part l 108 8) n ok W (by rw [hpl]; exact cut_C (Kd.C_below hr hW) (by omega) hc) (by rw [hpl]; omega) hg
  simp only [hpl] at hgc
  have HG := Lib.hid hgc
  have hix : ∀ W : World, (Instr.index 71 (.agg #[.int .i64 100, .int .i64 8, .int .i64 108, .int .i64 8, .int .i64 116, .int .i64 8, .int .i64 124, .int .i64 12, .int .i64 136, .int .i64 12, .int .i64 329, .int .i64 8, .int .i64 337, .int .i64 8]) (.int .i64 1)).run Tryd.prog W = .ok (.agg #[.int .i64 108, .int .i64 8]) W := fun W => by kernel_rfl
  clear hr hnum hg hpl hgc hl
  generalize cutAt A c 108 = A' at *
  cases ok
  · have HV := Lib.hid (show rnumV 1 n false = .tuple #[.int .i64 0, .int .i64 5] from if_pos (.inl rfl))
    go_enter Tryd.func20, Tryd.ntmps20
    go_wp2_with fail
    (with_reducible refine HN.out.mono ?_)
    rintro e w1 ⟨rfl, hb1⟩
    have hb2 := ((Below.refl w1.heap.size w1).alloc (Nat.le_refl _) (.cells #[.int .i64 108, .int .i64 8] 67))
    have HB1 := Lib.hid (hb1.trans (hb2.mono hb1.size))
    clear hb1 hb2 HN
    go_wp2_with fail
    (with_reducible refine (HG.out _ HB1.out).mono ?_)
    rintro e w2 ⟨rfl, hd⟩
    have HB2 := Lib.hid (HB1.out.trans (hd.below.mono HB1.out.size))
    clear hd HB1 HG
    go_wp2_with fail
    go_ret2
    exact ⟨congrArg Ending.returned HV.out.symm, HB2.out⟩
  · by_cases hn : n < 0
    · have d1 : decide (n < 0) = true := decide_eq_true hn
      have HV := Lib.hid (show rnumV 1 n true = .tuple #[.int .i64 0, .int .i64 5] from if_pos (.inr ⟨hn, by decide⟩))
      clear hn
      go_enter Tryd.func20, Tryd.ntmps20
      go_wp2_with fail
      (with_reducible refine HN.out.mono ?_)
      rintro e w1 ⟨rfl, hb1⟩
      have hb2 := ((Below.refl w1.heap.size w1).alloc (Nat.le_refl _) (.cells #[.int .i64 108, .int .i64 8] 67))
      have HB1 := Lib.hid (hb1.trans (hb2.mono hb1.size))
      clear hb1 hb2 HN
      go_wp2_with fail
      (with_reducible refine (HG.out _ HB1.out).mono ?_)
      rintro e w2 ⟨rfl, hd⟩
      have HB2 := Lib.hid (HB1.out.trans (hd.below.mono HB1.out.size))
      clear hd HB1 HG
      go_wp2_with fail
      go_ret2
      exact ⟨congrArg Ending.returned HV.out.symm, HB2.out⟩
    · have d1 : decide (n < 0) = false := decide_eq_false hn
      have HV := Lib.hid (show rnumV 1 n true = .tuple #[.int .i64 n, .int .i64 0] from if_neg (by rintro (h | h); exact Bool.noConfusion h; exact hn h.1))
      clear hn
      go_enter Tryd.func20, Tryd.ntmps20
      go_wp2_with fail
      (with_reducible refine HN.out.mono ?_)
      rintro e w1 ⟨rfl, hb1⟩
      have hb2 := ((Below.refl w1.heap.size w1).alloc (Nat.le_refl _) (.cells #[.int .i64 108, .int .i64 8] 67))
      have HB1 := Lib.hid (hb1.trans (hb2.mono hb1.size))
      clear hb1 hb2 HN
      go_wp2_with fail
      (with_reducible refine (HG.out _ HB1.out).mono ?_)
      rintro e w2 ⟨rfl, hd⟩
      have HB2 := Lib.hid (HB1.out.trans (hd.below.mono HB1.out.size))
      clear hd HB1 HG
      go_wp2_with fail
      go_ret2
      exact ⟨congrArg Ending.returned HV.out.symm, HB2.out⟩
set_option maxHeartbeats 8000000 in
set_option maxRecDepth 100000 in
theorem rnumber_2 (k : Nat) (A : Option Addr) (c : Nat) (l : List Int) (n : Int) (ok : Bool) (w : World) (hl : l.length = 512) (hr : Kd.C (Kd.int .u8) w A l.length l) (hc : l.length ≤ c) (hg : oakumref01_Get.f k (HeadA.part l 116 8) = some (n, ok)) :
    Calls Tryd.prog 20 #[.slice A l.length c, .int .i64 2] w fun e w' => e = .returned (rnumV 2 n ok) ∧ Below w.heap.size w w' := by
  have hnum := numbers_calls w
  have HN := Lib.hid hnum
  have hcut : ∀ W : World, (Instr.slice 25 (.slice A l.length c) (some (.int .i64 116)) (some (.int .i64 124)) none).run Tryd.prog W = .ok (.slice (cutAt A c 116) 8 (c - 116)) W := cut_run A c l.length 116 8 (by omega) hc
  have hpl := part_len l 116 8 (by omega)
  have hgc := fun (W : World) (hW : Below w.heap.size w W) => oakumref01_Get.calls k (cutAt A c 116) (c - 116) (HeadA.part l 116 8) n ok W (by rw [hpl]; exact cut_C (Kd.C_below hr hW) (by omega) hc) (by rw [hpl]; omega) hg
  simp only [hpl] at hgc
  have HG := Lib.hid hgc
  have hix : ∀ W : World, (Instr.index 71 (.agg #[.int .i64 100, .int .i64 8, .int .i64 108, .int .i64 8, .int .i64 116, .int .i64 8, .int .i64 124, .int .i64 12, .int .i64 136, .int .i64 12, .int .i64 329, .int .i64 8, .int .i64 337, .int .i64 8]) (.int .i64 2)).run Tryd.prog W = .ok (.agg #[.int .i64 116, .int .i64 8]) W := fun W => by kernel_rfl
  clear hr hnum hg hpl hgc hl
  generalize cutAt A c 116 = A' at *
  cases ok
  · have HV := Lib.hid (show rnumV 2 n false = .tuple #[.int .i64 0, .int .i64 5] from if_pos (.inl rfl))
    go_enter Tryd.func20, Tryd.ntmps20
    go_wp2_with fail
    (with_reducible refine HN.out.mono ?_)
    rintro e w1 ⟨rfl, hb1⟩
    have hb2 := ((Below.refl w1.heap.size w1).alloc (Nat.le_refl _) (.cells #[.int .i64 116, .int .i64 8] 67))
    have HB1 := Lib.hid (hb1.trans (hb2.mono hb1.size))
    clear hb1 hb2 HN
    go_wp2_with fail
    (with_reducible refine (HG.out _ HB1.out).mono ?_)
    rintro e w2 ⟨rfl, hd⟩
    have HB2 := Lib.hid (HB1.out.trans (hd.below.mono HB1.out.size))
    clear hd HB1 HG
    go_wp2_with fail
    go_ret2
    exact ⟨congrArg Ending.returned HV.out.symm, HB2.out⟩
  · by_cases hn : n < 0
    · have d1 : decide (n < 0) = true := decide_eq_true hn
      have HV := Lib.hid (show rnumV 2 n true = .tuple #[.int .i64 0, .int .i64 5] from if_pos (.inr ⟨hn, by decide⟩))
      clear hn
      go_enter Tryd.func20, Tryd.ntmps20
      go_wp2_with fail
      (with_reducible refine HN.out.mono ?_)
      rintro e w1 ⟨rfl, hb1⟩
      have hb2 := ((Below.refl w1.heap.size w1).alloc (Nat.le_refl _) (.cells #[.int .i64 116, .int .i64 8] 67))
      have HB1 := Lib.hid (hb1.trans (hb2.mono hb1.size))
      clear hb1 hb2 HN
      go_wp2_with fail
      (with_reducible refine (HG.out _ HB1.out).mono ?_)
      rintro e w2 ⟨rfl, hd⟩
      have HB2 := Lib.hid (HB1.out.trans (hd.below.mono HB1.out.size))
      clear hd HB1 HG
      go_wp2_with fail
      go_ret2
      exact ⟨congrArg Ending.returned HV.out.symm, HB2.out⟩
    · have d1 : decide (n < 0) = false := decide_eq_false hn
      have HV := Lib.hid (show rnumV 2 n true = .tuple #[.int .i64 n, .int .i64 0] from if_neg (by rintro (h | h); exact Bool.noConfusion h; exact hn h.1))
      clear hn
      go_enter Tryd.func20, Tryd.ntmps20
      go_wp2_with fail
      (with_reducible refine HN.out.mono ?_)
      rintro e w1 ⟨rfl, hb1⟩
      have hb2 := ((Below.refl w1.heap.size w1).alloc (Nat.le_refl _) (.cells #[.int .i64 116, .int .i64 8] 67))
      have HB1 := Lib.hid (hb1.trans (hb2.mono hb1.size))
      clear hb1 hb2 HN
      go_wp2_with fail
      (with_reducible refine (HG.out _ HB1.out).mono ?_)
      rintro e w2 ⟨rfl, hd⟩
      have HB2 := Lib.hid (HB1.out.trans (hd.below.mono HB1.out.size))
      clear hd HB1 HG
      go_wp2_with fail
      go_ret2
      exact ⟨congrArg Ending.returned HV.out.symm, HB2.out⟩
set_option maxHeartbeats 8000000 in
set_option maxRecDepth 100000 in
theorem rnumber_3 (k : Nat) (A : Option Addr) (c : Nat) (l : List Int) (n : Int) (ok : Bool) (w : World) (hl : l.length = 512) (hr : Kd.C (Kd.int .u8) w A l.length l) (hc : l.length ≤ c) (hg : oakumref01_Get.f k (HeadA.part l 124 12) = some (n, ok)) :
    Calls Tryd.prog 20 #[.slice A l.length c, .int .i64 3] w fun e w' => e = .returned (rnumV 3 n ok) ∧ Below w.heap.size w w' := by
  have hnum := numbers_calls w
  have HN := Lib.hid hnum
  have hcut : ∀ W : World, (Instr.slice 25 (.slice A l.length c) (some (.int .i64 124)) (some (.int .i64 136)) none).run Tryd.prog W = .ok (.slice (cutAt A c 124) 12 (c - 124)) W := cut_run A c l.length 124 12 (by omega) hc
  have hpl := part_len l 124 12 (by omega)
  have hgc := fun (W : World) (hW : Below w.heap.size w W) => oakumref01_Get.calls k (cutAt A c 124) (c - 124) (HeadA.part l 124 12) n ok W (by rw [hpl]; exact cut_C (Kd.C_below hr hW) (by omega) hc) (by rw [hpl]; omega) hg
  simp only [hpl] at hgc
  have HG := Lib.hid hgc
  have hix : ∀ W : World, (Instr.index 71 (.agg #[.int .i64 100, .int .i64 8, .int .i64 108, .int .i64 8, .int .i64 116, .int .i64 8, .int .i64 124, .int .i64 12, .int .i64 136, .int .i64 12, .int .i64 329, .int .i64 8, .int .i64 337, .int .i64 8]) (.int .i64 3)).run Tryd.prog W = .ok (.agg #[.int .i64 124, .int .i64 12]) W := fun W => by kernel_rfl
  clear hr hnum hg hpl hgc hl
  generalize cutAt A c 124 = A' at *
  cases ok
  · have HV := Lib.hid (show rnumV 3 n false = .tuple #[.int .i64 0, .int .i64 5] from if_pos (.inl rfl))
    go_enter Tryd.func20, Tryd.ntmps20
    go_wp2_with fail
    (with_reducible refine HN.out.mono ?_)
    rintro e w1 ⟨rfl, hb1⟩
    have hb2 := ((Below.refl w1.heap.size w1).alloc (Nat.le_refl _) (.cells #[.int .i64 124, .int .i64 12] 67))
    have HB1 := Lib.hid (hb1.trans (hb2.mono hb1.size))
    clear hb1 hb2 HN
    go_wp2_with fail
    (with_reducible refine (HG.out _ HB1.out).mono ?_)
    rintro e w2 ⟨rfl, hd⟩
    have HB2 := Lib.hid (HB1.out.trans (hd.below.mono HB1.out.size))
    clear hd HB1 HG
    go_wp2_with fail
    go_ret2
    exact ⟨congrArg Ending.returned HV.out.symm, HB2.out⟩
  · by_cases hn : n < 0
    · have d1 : decide (n < 0) = true := decide_eq_true hn
      have HV := Lib.hid (show rnumV 3 n true = .tuple #[.int .i64 0, .int .i64 5] from if_pos (.inr ⟨hn, by decide⟩))
      clear hn
      go_enter Tryd.func20, Tryd.ntmps20
      go_wp2_with fail
      (with_reducible refine HN.out.mono ?_)
      rintro e w1 ⟨rfl, hb1⟩
      have hb2 := ((Below.refl w1.heap.size w1).alloc (Nat.le_refl _) (.cells #[.int .i64 124, .int .i64 12] 67))
      have HB1 := Lib.hid (hb1.trans (hb2.mono hb1.size))
      clear hb1 hb2 HN
      go_wp2_with fail
      (with_reducible refine (HG.out _ HB1.out).mono ?_)
      rintro e w2 ⟨rfl, hd⟩
      have HB2 := Lib.hid (HB1.out.trans (hd.below.mono HB1.out.size))
      clear hd HB1 HG
      go_wp2_with fail
      go_ret2
      exact ⟨congrArg Ending.returned HV.out.symm, HB2.out⟩
    · have d1 : decide (n < 0) = false := decide_eq_false hn
      have HV := Lib.hid (show rnumV 3 n true = .tuple #[.int .i64 n, .int .i64 0] from if_neg (by rintro (h | h); exact Bool.noConfusion h; exact hn h.1))
      clear hn
      go_enter Tryd.func20, Tryd.ntmps20
      go_wp2_with fail
      (with_reducible refine HN.out.mono ?_)
      rintro e w1 ⟨rfl, hb1⟩
      have hb2 := ((Below.refl w1.heap.size w1).alloc (Nat.le_refl _) (.cells #[.int .i64 124, .int .i64 12] 67))
      have HB1 := Lib.hid (hb1.trans (hb2.mono hb1.size))
      clear hb1 hb2 HN
      go_wp2_with fail
      (with_reducible refine (HG.out _ HB1.out).mono ?_)
      rintro e w2 ⟨rfl, hd⟩
      have HB2 := Lib.hid (HB1.out.trans (hd.below.mono HB1.out.size))
      clear hd HB1 HG
      go_wp2_with fail
      go_ret2
      exact ⟨congrArg Ending.returned HV.out.symm, HB2.out⟩
set_option maxHeartbeats 8000000 in
set_option maxRecDepth 100000 in
theorem rnumber_4 (k : Nat) (A : Option Addr) (c : Nat) (l : List Int) (n : Int) (ok : Bool) (w : World) (hl : l.length = 512) (hr : Kd.C (Kd.int .u8) w A l.length l) (hc : l.length ≤ c) (hg : oakumref01_Get.f k (HeadA.part l 136 12) = some (n, ok)) :
    Calls Tryd.prog 20 #[.slice A l.length c, .int .i64 4] w fun e w' => e = .returned (rnumV 4 n ok) ∧ Below w.heap.size w w' := by
  have hnum := numbers_calls w
  have HN := Lib.hid hnum
  have hcut : ∀ W : World, (Instr.slice 25 (.slice A l.length c) (some (.int .i64 136)) (some (.int .i64 148)) none).run Tryd.prog W = .ok (.slice (cutAt A c 136) 12 (c - 136)) W := cut_run A c l.length 136 12 (by omega) hc
  have hpl := part_len l 136 12 (by omega)
  have hgc := fun (W : World) (hW : Below w.heap.size w W) => oakumref01_Get.calls k (cutAt A c 136) (c - 136) (HeadA.part l 136 12) n ok W (by rw [hpl]; exact cut_C (Kd.C_below hr hW) (by omega) hc) (by rw [hpl]; omega) hg
  simp only [hpl] at hgc
  have HG := Lib.hid hgc
  have hix : ∀ W : World, (Instr.index 71 (.agg #[.int .i64 100, .int .i64 8, .int .i64 108, .int .i64 8, .int .i64 116, .int .i64 8, .int .i64 124, .int .i64 12, .int .i64 136, .int .i64 12, .int .i64 329, .int .i64 8, .int .i64 337, .int .i64 8]) (.int .i64 4)).run Tryd.prog W = .ok (.agg #[.int .i64 136, .int .i64 12]) W := fun W => by kernel_rfl
  clear hr hnum hg hpl hgc hl
  generalize cutAt A c 136 = A' at *
  cases ok
  · have HV := Lib.hid (show rnumV 4 n false = .tuple #[.int .i64 0, .int .i64 5] from if_pos (.inl rfl))
    go_enter Tryd.func20, Tryd.ntmps20
    go_wp2_with fail
    (with_reducible refine HN.out.mono ?_)
    rintro e w1 ⟨rfl, hb1⟩
    have hb2 := ((Below.refl w1.heap.size w1).alloc (Nat.le_refl _) (.cells #[.int .i64 136, .int .i64 12] 67))
    have HB1 := Lib.hid (hb1.trans (hb2.mono hb1.size))
    clear hb1 hb2 HN
    go_wp2_with fail
    (with_reducible refine (HG.out _ HB1.out).mono ?_)
    rintro e w2 ⟨rfl, hd⟩
    have HB2 := Lib.hid (HB1.out.trans (hd.below.mono HB1.out.size))
    clear hd HB1 HG
    go_wp2_with fail
    go_ret2
    exact ⟨congrArg Ending.returned HV.out.symm, HB2.out⟩
  · by_cases hn : n < 0
    · have d1 : decide (n < 0) = true := decide_eq_true hn
      have HV := Lib.hid (show rnumV 4 n true = .tuple #[.int .i64 n, .int .i64 0] from if_neg (by rintro (h | h) <;> simp at h))
      clear hn
      go_enter Tryd.func20, Tryd.ntmps20
      go_wp2_with fail
      (with_reducible refine HN.out.mono ?_)
      rintro e w1 ⟨rfl, hb1⟩
      have hb2 := ((Below.refl w1.heap.size w1).alloc (Nat.le_refl _) (.cells #[.int .i64 136, .int .i64 12] 67))
      have HB1 := Lib.hid (hb1.trans (hb2.mono hb1.size))
      clear hb1 hb2 HN
      go_wp2_with fail
      (with_reducible refine (HG.out _ HB1.out).mono ?_)
      rintro e w2 ⟨rfl, hd⟩
      have HB2 := Lib.hid (HB1.out.trans (hd.below.mono HB1.out.size))
      clear hd HB1 HG
      go_wp2_with fail
      go_ret2
      exact ⟨congrArg Ending.returned HV.out.symm, HB2.out⟩
    · have d1 : decide (n < 0) = false := decide_eq_false hn
      have HV := Lib.hid (show rnumV 4 n true = .tuple #[.int .i64 n, .int .i64 0] from if_neg (by rintro (h | h); exact Bool.noConfusion h; exact hn h.1))
      clear hn
      go_enter Tryd.func20, Tryd.ntmps20
      go_wp2_with fail
      (with_reducible refine HN.out.mono ?_)
      rintro e w1 ⟨rfl, hb1⟩
      have hb2 := ((Below.refl w1.heap.size w1).alloc (Nat.le_refl _) (.cells #[.int .i64 136, .int .i64 12] 67))
      have HB1 := Lib.hid (hb1.trans (hb2.mono hb1.size))
      clear hb1 hb2 HN
      go_wp2_with fail
      (with_reducible refine (HG.out _ HB1.out).mono ?_)
      rintro e w2 ⟨rfl, hd⟩
      have HB2 := Lib.hid (HB1.out.trans (hd.below.mono HB1.out.size))
      clear hd HB1 HG
      go_wp2_with fail
      go_ret2
      exact ⟨congrArg Ending.returned HV.out.symm, HB2.out⟩
set_option maxHeartbeats 8000000 in
set_option maxRecDepth 100000 in
theorem rnumber_5 (k : Nat) (A : Option Addr) (c : Nat) (l : List Int) (n : Int) (ok : Bool) (w : World) (hl : l.length = 512) (hr : Kd.C (Kd.int .u8) w A l.length l) (hc : l.length ≤ c) (hg : oakumref01_Get.f k (HeadA.part l 329 8) = some (n, ok)) :
    Calls Tryd.prog 20 #[.slice A l.length c, .int .i64 5] w fun e w' => e = .returned (rnumV 5 n ok) ∧ Below w.heap.size w w' := by
  have hnum := numbers_calls w
  have HN := Lib.hid hnum
  have hcut : ∀ W : World, (Instr.slice 25 (.slice A l.length c) (some (.int .i64 329)) (some (.int .i64 337)) none).run Tryd.prog W = .ok (.slice (cutAt A c 329) 8 (c - 329)) W := cut_run A c l.length 329 8 (by omega) hc
  have hpl := part_len l 329 8 (by omega)
  have hgc := fun (W : World) (hW : Below w.heap.size w W) => oakumref01_Get.calls k (cutAt A c 329) (c - 329) (HeadA.part l 329 8) n ok W (by rw [hpl]; exact cut_C (Kd.C_below hr hW) (by omega) hc) (by rw [hpl]; omega) hg
  simp only [hpl] at hgc
  have HG := Lib.hid hgc
  have hix : ∀ W : World, (Instr.index 71 (.agg #[.int .i64 100, .int .i64 8, .int .i64 108, .int .i64 8, .int .i64 116, .int .i64 8, .int .i64 124, .int .i64 12, .int .i64 136, .int .i64 12, .int .i64 329, .int .i64 8, .int .i64 337, .int .i64 8]) (.int .i64 5)).run Tryd.prog W = .ok (.agg #[.int .i64 329, .int .i64 8]) W := fun W => by kernel_rfl
  clear hr hnum hg hpl hgc hl
  generalize cutAt A c 329 = A' at *
  cases ok
  · have HV := Lib.hid (show rnumV 5 n false = .tuple #[.int .i64 0, .int .i64 5] from if_pos (.inl rfl))
    go_enter Tryd.func20, Tryd.ntmps20
    go_wp2_with fail
    (with_reducible refine HN.out.mono ?_)
    rintro e w1 ⟨rfl, hb1⟩
    have hb2 := ((Below.refl w1.heap.size w1).alloc (Nat.le_refl _) (.cells #[.int .i64 329, .int .i64 8] 67))
    have HB1 := Lib.hid (hb1.trans (hb2.mono hb1.size))
    clear hb1 hb2 HN
    go_wp2_with fail
    (with_reducible refine (HG.out _ HB1.out).mono ?_)
    rintro e w2 ⟨rfl, hd⟩
    have HB2 := Lib.hid (HB1.out.trans (hd.below.mono HB1.out.size))
    clear hd HB1 HG
    go_wp2_with fail
    go_ret2
    exact ⟨congrArg Ending.returned HV.out.symm, HB2.out⟩
  · by_cases hn : n < 0
    · have d1 : decide (n < 0) = true := decide_eq_true hn
      have HV := Lib.hid (show rnumV 5 n true = .tuple #[.int .i64 0, .int .i64 5] from if_pos (.inr ⟨hn, by decide⟩))
      clear hn
      go_enter Tryd.func20, Tryd.ntmps20
      go_wp2_with fail
      (with_reducible refine HN.out.mono ?_)
      rintro e w1 ⟨rfl, hb1⟩
      have hb2 := ((Below.refl w1.heap.size w1).alloc (Nat.le_refl _) (.cells #[.int .i64 329, .int .i64 8] 67))
      have HB1 := Lib.hid (hb1.trans (hb2.mono hb1.size))
      clear hb1 hb2 HN
      go_wp2_with fail
      (with_reducible refine (HG.out _ HB1.out).mono ?_)
      rintro e w2 ⟨rfl, hd⟩
      have HB2 := Lib.hid (HB1.out.trans (hd.below.mono HB1.out.size))
      clear hd HB1 HG
      go_wp2_with fail
      go_ret2
      exact ⟨congrArg Ending.returned HV.out.symm, HB2.out⟩
    · have d1 : decide (n < 0) = false := decide_eq_false hn
      have HV := Lib.hid (show rnumV 5 n true = .tuple #[.int .i64 n, .int .i64 0] from if_neg (by rintro (h | h); exact Bool.noConfusion h; exact hn h.1))
      clear hn
      go_enter Tryd.func20, Tryd.ntmps20
      go_wp2_with fail
      (with_reducible refine HN.out.mono ?_)
      rintro e w1 ⟨rfl, hb1⟩
      have hb2 := ((Below.refl w1.heap.size w1).alloc (Nat.le_refl _) (.cells #[.int .i64 329, .int .i64 8] 67))
      have HB1 := Lib.hid (hb1.trans (hb2.mono hb1.size))
      clear hb1 hb2 HN
      go_wp2_with fail
      (with_reducible refine (HG.out _ HB1.out).mono ?_)
      rintro e w2 ⟨rfl, hd⟩
      have HB2 := Lib.hid (HB1.out.trans (hd.below.mono HB1.out.size))
      clear hd HB1 HG
      go_wp2_with fail
      go_ret2
      exact ⟨congrArg Ending.returned HV.out.symm, HB2.out⟩
set_option maxHeartbeats 8000000 in
set_option maxRecDepth 100000 in
theorem rnumber_6 (k : Nat) (A : Option Addr) (c : Nat) (l : List Int) (n : Int) (ok : Bool) (w : World) (hl : l.length = 512) (hr : Kd.C (Kd.int .u8) w A l.length l) (hc : l.length ≤ c) (hg : oakumref01_Get.f k (HeadA.part l 337 8) = some (n, ok)) :
    Calls Tryd.prog 20 #[.slice A l.length c, .int .i64 6] w fun e w' => e = .returned (rnumV 6 n ok) ∧ Below w.heap.size w w' := by
  have hnum := numbers_calls w
  have HN := Lib.hid hnum
  have hcut : ∀ W : World, (Instr.slice 25 (.slice A l.length c) (some (.int .i64 337)) (some (.int .i64 345)) none).run Tryd.prog W = .ok (.slice (cutAt A c 337) 8 (c - 337)) W := cut_run A c l.length 337 8 (by omega) hc
  have hpl := part_len l 337 8 (by omega)
  have hgc := fun (W : World) (hW : Below w.heap.size w W) => oakumref01_Get.calls k (cutAt A c 337) (c - 337) (HeadA.part l 337 8) n ok W (by rw [hpl]; exact cut_C (Kd.C_below hr hW) (by omega) hc) (by rw [hpl]; omega) hg
  simp only [hpl] at hgc
  have HG := Lib.hid hgc
  have hix : ∀ W : World, (Instr.index 71 (.agg #[.int .i64 100, .int .i64 8, .int .i64 108, .int .i64 8, .int .i64 116, .int .i64 8, .int .i64 124, .int .i64 12, .int .i64 136, .int .i64 12, .int .i64 329, .int .i64 8, .int .i64 337, .int .i64 8]) (.int .i64 6)).run Tryd.prog W = .ok (.agg #[.int .i64 337, .int .i64 8]) W := fun W => by kernel_rfl
  clear hr hnum hg hpl hgc hl
  generalize cutAt A c 337 = A' at *
  cases ok
  · have HV := Lib.hid (show rnumV 6 n false = .tuple #[.int .i64 0, .int .i64 5] from if_pos (.inl rfl))
    go_enter Tryd.func20, Tryd.ntmps20
    go_wp2_with fail
    (with_reducible refine HN.out.mono ?_)
    rintro e w1 ⟨rfl, hb1⟩
    have hb2 := ((Below.refl w1.heap.size w1).alloc (Nat.le_refl _) (.cells #[.int .i64 337, .int .i64 8] 67))
    have HB1 := Lib.hid (hb1.trans (hb2.mono hb1.size))
    clear hb1 hb2 HN
    go_wp2_with fail
    (with_reducible refine (HG.out _ HB1.out).mono ?_)
    rintro e w2 ⟨rfl, hd⟩
    have HB2 := Lib.hid (HB1.out.trans (hd.below.mono HB1.out.size))
    clear hd HB1 HG
    go_wp2_with fail
    go_ret2
    exact ⟨congrArg Ending.returned HV.out.symm, HB2.out⟩
  · by_cases hn : n < 0
    · have d1 : decide (n < 0) = true := decide_eq_true hn
      have HV := Lib.hid (show rnumV 6 n true = .tuple #[.int .i64 0, .int .i64 5] from if_pos (.inr ⟨hn, by decide⟩))
      clear hn
      go_enter Tryd.func20, Tryd.ntmps20
      go_wp2_with fail
      (with_reducible refine HN.out.mono ?_)
      rintro e w1 ⟨rfl, hb1⟩
      have hb2 := ((Below.refl w1.heap.size w1).alloc (Nat.le_refl _) (.cells #[.int .i64 337, .int .i64 8] 67))
      have HB1 := Lib.hid (hb1.trans (hb2.mono hb1.size))
      clear hb1 hb2 HN
      go_wp2_with fail
      (with_reducible refine (HG.out _ HB1.out).mono ?_)
      rintro e w2 ⟨rfl, hd⟩
      have HB2 := Lib.hid (HB1.out.trans (hd.below.mono HB1.out.size))
      clear hd HB1 HG
      go_wp2_with fail
      go_ret2
      exact ⟨congrArg Ending.returned HV.out.symm, HB2.out⟩
    · have d1 : decide (n < 0) = false := decide_eq_false hn
      have HV := Lib.hid (show rnumV 6 n true = .tuple #[.int .i64 n, .int .i64 0] from if_neg (by rintro (h | h); exact Bool.noConfusion h; exact hn h.1))
      clear hn
      go_enter Tryd.func20, Tryd.ntmps20
      go_wp2_with fail
      (with_reducible refine HN.out.mono ?_)
      rintro e w1 ⟨rfl, hb1⟩
      have hb2 := ((Below.refl w1.heap.size w1).alloc (Nat.le_refl _) (.cells #[.int .i64 337, .int .i64 8] 67))
      have HB1 := Lib.hid (hb1.trans (hb2.mono hb1.size))
      clear hb1 hb2 HN
      go_wp2_with fail
      (with_reducible refine (HG.out _ HB1.out).mono ?_)
      rintro e w2 ⟨rfl, hd⟩
      have HB2 := Lib.hid (HB1.out.trans (hd.below.mono HB1.out.size))
      clear hd HB1 HG
      go_wp2_with fail
      go_ret2
      exact ⟨congrArg Ending.returned HV.out.symm, HB2.out⟩
end Go.Proofs.YtoabboeongbloaaDoor.NumL
/- The law HeadNumbers: its walk. -/
set_option linter.unusedVariables false
set_option linter.unusedSimpArgs false
namespace Go.Proofs.YtoabboeongbloaaDoor.NumL
open Go.RowKit Go.Proofs.YtoabboeongbloaaDoorW.PrintWords Go.Proofs.YtoabboeongbloaaDoorW.PrintLast Go.Proofs.YtoabboeongbloaaDoorW.PrintMore Go.Proofs.YtoabboeongbloaaDoorW.Mv Go.Proofs.YtoabboeongbloaaDoorW.HKit Go.Proofs.YtoabboeongbloaaDoorW.But Go.Proofs.YtoabboeongbloaaDoor.HeadA Go.Proofs.YtoabboeongbloaaDoor.PHeadGets Go.Proofs.YtoabboeongbloaaDoor.PN Go.Proofs.YtoabboeongbloaaDoor.HeadN Go.Proofs.YtoabboeongbloaaDoor.Fmt
theorem rnumber_calls (k : Nat) (A : Option Addr) (c : Nat) (l : List Int) (i : Nat) (n : Int) (ok : Bool) (w : World) (hi : i < 7) (hl : l.length = 512) (hr : Kd.C (Kd.int .u8) w A l.length l) (hc : l.length ≤ c) (hg : oakumref01_Get.f k (HeadA.part l (place i).1 (place i).2) = some (n, ok)) :
    Calls Tryd.prog 20 #[.slice A l.length c, .int .i64 i] w fun e w' => e = .returned (rnumV i n ok) ∧ Below w.heap.size w w' := by
  have h7 : i = 0 ∨ i = 1 ∨ i = 2 ∨ i = 3 ∨ i = 4 ∨ i = 5 ∨ i = 6 := by omega
  rcases h7 with rfl | rfl | rfl | rfl | rfl | rfl | rfl
  · exact rnumber_0 k A c l n ok w hl hr hc hg
  · exact rnumber_1 k A c l n ok w hl hr hc hg
  · exact rnumber_2 k A c l n ok w hl hr hc hg
  · exact rnumber_3 k A c l n ok w hl hr hc hg
  · exact rnumber_4 k A c l n ok w hl hr hc hg
  · exact rnumber_5 k A c l n ok w hl hr hc hg
  · exact rnumber_6 k A c l n ok w hl hr hc hg
/-- The fields of numbers by their order. -/
def fieldAt : Nat → Int
  | 0 => 4
  | 1 => 5
  | 2 => 6
  | 3 => 7
  | 4 => 8
  | 5 => 11
  | _ => 12
theorem field_cases (fld : Int) : (∃ i, i < 7 ∧ fld = fieldAt i) ∨ (head_number.f fld = some (0, 0, false) ∧ oakumref06_Which.f 20 fld = some (-1)) := by
  by_cases h4 : fld = 4
  · exact .inl ⟨0, by decide, h4⟩
  by_cases h5 : fld = 5
  · exact .inl ⟨1, by decide, h5⟩
  by_cases h6 : fld = 6
  · exact .inl ⟨2, by decide, h6⟩
  by_cases h7 : fld = 7
  · exact .inl ⟨3, by decide, h7⟩
  by_cases h8 : fld = 8
  · exact .inl ⟨4, by decide, h8⟩
  by_cases h11 : fld = 11
  · exact .inl ⟨5, by decide, h11⟩
  by_cases h12 : fld = 12
  · exact .inl ⟨6, by decide, h12⟩
  refine .inr ⟨?_, ?_⟩
  · simp [head_number.f, h4, h5, h6, h7, h8, h11, h12]
  · have g : ∀ j : Int, ¬ fld = j → ¬ j = fld := fun j h e => h e.symm
    simp [oakumref06_Which.f, oakumref06_Which.l0, rd, wrap64, g _ h4, g _ h5, g _ h6, g _ h7, g _ h8, g _ h11, g _ h12]
theorem field_is : ∀ i, i < 7 → head_number.f (fieldAt i) = some (((place i).1 : Int), ((place i).2 : Int), true) ∧ oakumref06_Which.f 20 (fieldAt i) = some (i : Int) ∧ (place i).1 + (place i).2 ≤ 512 ∧ (fieldAt i = 8 ↔ i = 4) := by decide +kernel
theorem agree (i : Nat) (q : Int × Int) (hi : i < 7) (hq : q.2 = 0 ∨ q = (0, 5)) : ∃ n e : Int, numV (fieldAt i) q.1 q.2 = .tuple #[.int .i64 n, .int .u8 e] ∧ rnumV i q.1 (decide (q.2 = 0)) = .tuple #[.int .i64 n, .int .i64 e] ∧ 0 ≤ e ∧ e ≤ 255 := by
  have h8 := (field_is i hi).2.2.2
  unfold numV rnumV
  rcases hq with h | rfl
  · by_cases hn : q.1 < 0 ∧ ¬ i = 4
    · refine ⟨0, 5, ?_, ?_, by decide, by decide⟩
      · rw [if_pos ⟨h, hn.1, fun h => hn.2 (h8.1 h)⟩]
      · rw [if_pos (.inr hn)]
    · refine ⟨q.1, q.2, ?_, ?_, by omega, by omega⟩
      · rw [if_neg (fun h1 => hn ⟨h1.2.1, fun h2 => h1.2.2 (h8.2 h2)⟩)]
      · rw [if_neg (by rintro (h1 | h1); exact absurd h (by simpa using h1); exact hn h1), h]
  · refine ⟨0, 5, ?_, ?_, by decide, by decide⟩
    · rw [if_neg (fun h => absurd h.1 (by decide))]
    · rw [if_pos (.inl (by decide))]
set_option maxHeartbeats 2000000 in
set_option maxRecDepth 100000 in
theorem headNumbers_calls (w : World) (hT : Tab8 w) (A0 : Option Addr) (c0 : Nat) (l0 : List Int) (hr0 : Kd.C (Kd.int .u8) w A0 l0.length l0) (hn0 : A0 = none → l0.length = 0 ∧ c0 = 0) (hc0 : l0.length ≤ c0) (y0 : l0.length * 1 ≤ 140737488351232) (hw0 : ∀ x ∈ l0, (Lit.int .u8 x).wf = true) (a1 : Int) (w1 : (Lit.int .i64 a1).wf = true) :
    Calls Tryd.prog 5 #[.slice A0 l0.length c0, .int .i64 a1] w fun e w' => e = .returned (.bool true) ∧ Below w.heap.size w w' := by
  have hb : ∀ x ∈ l0, 0 ≤ x ∧ x ≤ 255 := fun x hx => wf_u8_bd (hw0 x hx)
  have hal := GetW.alive_calls w hT
  have HAL := Lib.hid hal
  have HR := Lib.hid hr0
  have HB := Lib.hid hb
  clear hal hr0 hn0 hw0 w1 hT hb
  by_cases h2 : 2000 < l0.length
  · have d1 : decide ((2000 : Int) < (l0.length : Int)) = true := decide_eq_true (by omega)
    clear h2
    go_enter Tryd.func5, Tryd.ntmps5
    go_wp2_with fail
    (with_reducible refine HAL.out.mono ?_)
    rintro e w1 ⟨rfl, hb1⟩
    have HB1 := Lib.hid hb1
    clear hb1 HAL
    go_wp2_with fail
    go_ret
    exact ⟨rfl, HB1.out⟩
  · have d1 : decide ((2000 : Int) < (l0.length : Int)) = false := decide_eq_false (by omega)
    have H2 := Lib.hid h2
    clear h2
    rcases field_cases a1 with ⟨i, hi, hfi⟩ | ⟨hf, hwh⟩
    · subst hfi
      obtain ⟨hf, hwh, hfit, _⟩ := field_is i hi
      have hwc := fun W => oakumref06_Which.calls 20 (fieldAt i) i W hwh
      have HWC := Lib.hid hwc
      have di : decide ((i : Int) < 0) = false := decide_eq_false (by omega)
      by_cases hl : l0.length = 512
      · obtain ⟨q, hq, e1, e2⟩ := GetP.get_pair (HeadA.part l0 (place i).1 (place i).2) (by rw [part_len _ _ _ (by rw [hl]; exact hfit)]; omega) (fun x hx => HB.out x (List.mem_of_mem_take (List.mem_of_mem_drop hx)))
        obtain ⟨k1, g1⟩ := e1.rounds
        obtain ⟨k2, g2⟩ := e2.rounds
        obtain ⟨n, ec, hv1, hv2, hec0, hec1⟩ := agree i q hi hq
        have hnum := fun (W : World) (hW : Below w.heap.size w W) => number_calls k1 A0 c0 l0 (fieldAt i) q.1 q.2 (place i).1 (place i).2 W hf hl hfit (Kd.C_below HR.out hW) hc0 g1
        rw [hv1] at hnum
        have href := fun (W : World) (hW : Below w.heap.size w W) => rnumber_calls k2 A0 c0 l0 i q.1 (decide (q.2 = 0)) W hi hl (Kd.C_below HR.out hW) hc0 g2
        rw [hv2] at href
        have HNUM := Lib.hid hnum
        have HREF := Lib.hid href
        have hw : wrap64 ec = ec := by unfold wrap64; omega
        have dl : ((l0.length : Int) != 512) = false := bne_eq_false_iff_eq.2 (by omega)
        clear hnum href hwc hf hwh hl e1 e2 g1 g2 hv1 hv2 hq hi hfit
        generalize fieldAt i = fld at *
        go_enter Tryd.func5, Tryd.ntmps5
        go_wp2_with fail
        (with_reducible refine HAL.out.mono ?_)
        rintro e w1 ⟨rfl, hb1⟩
        have HB1 := Lib.hid hb1
        clear hb1 HAL
        go_wp2_with fail
        (with_reducible refine (HNUM.out _ HB1.out).mono ?_)
        rintro e w2 ⟨rfl, hb2⟩
        have HB2 := Lib.hid (HB1.out.trans (hb2.mono HB1.out.size))
        clear hb2 HNUM HB1
        go_wp2_with fail
        (with_reducible refine (HWC.out _).mono ?_)
        rintro e w3 ⟨rfl, hb3⟩
        have HB3 := Lib.hid (HB2.out.trans (hb3.mono HB2.out.size))
        clear hb3 HWC HB2
        go_wp2_with fail
        (with_reducible refine (HREF.out _ HB3.out).mono ?_)
        rintro e w4 ⟨rfl, hb4⟩
        have HB4 := Lib.hid (HB3.out.trans (hb4.mono HB3.out.size))
        clear hb4 HREF HB3
        go_wp2_with fail
        go_ret
        exact ⟨rfl, HB4.out⟩
      · have hnum := fun W => number_short A0 l0.length c0 (fieldAt i) (place i).1 (place i).2 W hf hl
        have HNUM := Lib.hid hnum
        have dl : ((l0.length : Int) != 512) = true := bne_iff_ne.2 (by omega)
        clear hnum hwc hf hwh hl hi hfit
        generalize fieldAt i = fld at *
        go_enter Tryd.func5, Tryd.ntmps5
        go_wp2_with fail
        (with_reducible refine HAL.out.mono ?_)
        rintro e w1 ⟨rfl, hb1⟩
        have HB1 := Lib.hid hb1
        clear hb1 HAL
        go_wp2_with fail
        (with_reducible refine (HNUM.out _).mono ?_)
        rintro e w2 ⟨rfl, hb2⟩
        have HB2 := Lib.hid (HB1.out.trans (hb2.mono HB1.out.size))
        clear hb2 HNUM HB1
        go_wp2_with fail
        (with_reducible refine (HWC.out _).mono ?_)
        rintro e w3 ⟨rfl, hb3⟩
        have HB3 := Lib.hid (HB2.out.trans (hb3.mono HB2.out.size))
        clear hb3 HWC HB2
        go_wp2_with fail
        go_ret
        exact ⟨rfl, HB3.out⟩
    · have hnum := fun W => number_none A0 l0.length c0 a1 0 0 W hf
      have hwc := fun W => oakumref06_Which.calls 20 a1 (-1) W hwh
      have HNUM := Lib.hid hnum
      have HWC := Lib.hid hwc
      clear hnum hwc hf hwh
      go_enter Tryd.func5, Tryd.ntmps5
      go_wp2_with fail
      (with_reducible refine HAL.out.mono ?_)
      rintro e w1 ⟨rfl, hb1⟩
      have HB1 := Lib.hid hb1
      clear hb1 HAL
      go_wp2_with fail
      (with_reducible refine (HNUM.out _).mono ?_)
      rintro e w2 ⟨rfl, hb2⟩
      have HB2 := Lib.hid (HB1.out.trans (hb2.mono HB1.out.size))
      clear hb2 HNUM HB1
      go_wp2_with fail
      (with_reducible refine (HWC.out _).mono ?_)
      rintro e w3 ⟨rfl, hb3⟩
      have HB3 := Lib.hid (HB2.out.trans (hb3.mono HB2.out.size))
      clear hb3 HWC HB2
      go_wp2_with fail
      go_ret
      exact ⟨rfl, HB3.out⟩
end Go.Proofs.YtoabboeongbloaaDoor.NumL
