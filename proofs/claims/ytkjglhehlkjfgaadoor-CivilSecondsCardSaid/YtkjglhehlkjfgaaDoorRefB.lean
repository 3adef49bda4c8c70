/- The reference's digits: Digits, Text of a number. -/
import Derived.Test.YtkjglhehlkjfgaaDoorHandE
import Derived.Laws.BytesArg
import Derived.Deep.LoopGhost
set_option linter.unusedVariables false
set_option linter.unusedSimpArgs false
namespace Go.Proofs.YtkjglhehlkjfgaaDoor.Hand
open Go.RowKit Go.Proofs.YtkjglhehlkjfgaaDoor.Civ
def digS (n : Int) : ByteArray := ⟨(Lib.decDigits n.toNat).toArray⟩
/-- A text of one byte. -/
def oneS (x : Int) : ByteArray := ⟨#[UInt8.ofNat x.toNat]⟩
theorem one_conv (W : World) (b : Nat) (x : Int) (h0 : 0 ≤ x) (h1 : x ≤ 255) (hc : W.cell? ⟨b, 0, none⟩ = some (.int .u8 x)) : (convert 64 9 (.slice (some ⟨b, 0, none⟩) 1 1)).run Tryd.prog W = .ok (.string (oneS x)) W := by
  have := run_convert_bytes_arg (P := Tryd.prog) W 64 5 Tryd.underlying64 Tryd.underlying5 b 0 1 1 [x] rfl (fun i hi => by
    obtain rfl : i = 0 := by omega
    simpa using hc) 9 Tryd.underlying9
  rw [this]
  rfl
theorem fresh_cell (w : World) (v : Value) (t : TypeId) : (w.alloc (.cells #[v] t)).cell? ⟨w.heap.size, 0, none⟩ = some v := by
  have h := heap_alloc_new w (.cells #[v] t)
  simp only [World.cell?, h]
  rfl
set_option maxRecDepth 100000 in
set_option maxHeartbeats 4000000 in
theorem digits_calls (k : Nat) : ∀ (n : Int) (w : World), 0 ≤ n → n ≤ 9223372036854775807 → n.toNat < k → Calls Tryd.prog 40 #[.int .i64 n] w (RetB (.string (digS n)) w) := by
  induction k with
  | zero => intro n w h0 h1 h2; omega
  | succ k ih =>
    intro n w h0 h1 h2
    by_cases h10 : n < 10
    · have d10 : decide (n < 10) = true := decide_eq_true h10
      have hcv := one_conv (w.alloc (.cells #[.int .u8 (48 + n)] 5)) w.heap.size (48 + n) (by omega) (by omega) (fresh_cell w _ _)
      have HD := Lib.hid (show oneS (48 + n) = digS n by unfold oneS digS; rw [Lib.decDigits_one (by omega), show (48 + n).toNat = 48 + n.toNat by omega])
      clear ih h2
      go_enter Tryd.func40, Tryd.ntmps40
      go_wp2_with fail
      go_ret
      exact ⟨congrArg (fun x => Ending.returned (Value.string x)) HD.out, (Below.refl w.heap.size w).alloc (Nat.le_refl _) _⟩
    · have d10 : decide (n < 10) = false := decide_eq_false h10
      obtain ⟨q, hq⟩ : ∃ q, q = n / 10 := ⟨_, rfl⟩
      obtain ⟨d, hd⟩ : ∃ d, d = n % 10 := ⟨_, rfl⟩
      have hqb : 0 ≤ q ∧ q ≤ 9223372036854775807 ∧ q.toNat < k := by omega
      have hdb : 0 ≤ d ∧ d ≤ 9 := by omega
      have IH := Lib.hid (fun W => ih q W hqb.1 hqb.2.1 hqb.2.2)
      have e1 : n.tdiv 10 = q := by rw [hq]; exact (Int.tdiv_eq_ediv_of_nonneg h0)
      have e2 : n.tmod 10 = d := by rw [hd]; exact (Int.tmod_eq_emod_of_nonneg h0)
      have e3 : IntKind.i64.wrap (48 + d) = 48 + d := IntWalk.i64_in _ (by omega)
      have e5 : IntKind.i64.wrap q = q := IntWalk.i64_in _ (by omega)
      have e6 : IntKind.i64.wrap d = d := IntWalk.i64_in _ (by omega)
      have e4 : IntKind.u8.wrap (48 + d) = 48 + d := by rw [IntKind.wrap_u8]; omega
      have hcv : ∀ (W : World) (b : Nat), W.cell? ⟨b, 0, none⟩ = some (.int .u8 (48 + d)) → (convert 64 9 (.slice (some ⟨b, 0, none⟩) 1 1)).run Tryd.prog W = .ok (.string (oneS (48 + d))) W := fun W b hc => one_conv W b (48 + d) (by omega) (by omega) hc
      have HL : (digS q).size ≤ 20 := by
        have := decLen q (by omega) (by omega)
        unfold digS
        rw [show q.natAbs = q.toNat by omega] at this
        exact this
      obtain ⟨t, ht⟩ : ∃ t, t = digS q ++ oneS (48 + d) := ⟨_, rfl⟩
      have hst : ∀ W : World, (Op.stringOp .add (digS q) (oneS (48 + d))).run Tryd.prog W = .ok (.string t) W := fun W => by rw [ht]; exact run_string_add_sum W _ _ (by rw [show (oneS (48 + d)).size = 1 from rfl]; omega)
      have HT := Lib.hid (show t = digS n by
        rw [ht]
        unfold digS oneS
        rw [show (#[UInt8.ofNat (48 + d).toNat] : Array UInt8) = [UInt8.ofNat (48 + d).toNat].toArray from rfl, bs_app]
        rw [Lib.decDigits.eq_1 n.toNat, dif_neg (by omega), show n.toNat / 10 = q.toNat by omega, show n.toNat % 10 = d.toNat by omega, show (48 + d).toNat = 48 + d.toNat by omega])
      clear ih h2 hq hd hqb HL ht
      go_enter Tryd.func40, Tryd.ntmps40
      go_upto_region 3 with (fail)
      go_region_with ((go_at_call 40; (with_reducible refine (IH.out _).mono ?_); rintro e w6 ⟨rfl, hb6⟩; try (have hc6 := (hb6.cell (p := ⟨w.heap.size, 0, none⟩) (by simp)).trans (fresh_cell w.drew (.int .u8 (48 + d)) 5))))
      all_goals go_wp2_with fail
      all_goals go_ret
      all_goals refine ⟨congrArg (fun x => Ending.returned (Value.string x)) HT.out, ?_⟩
      · exact ((⟨rfl, rfl, rfl, Nat.le_refl _, fun _ _ => rfl⟩ : Below w.heap.size w w.drew).trans (hb6.mono (Nat.le_refl _))).alloc hb6.size _
      · exact (((Below.refl w.heap.size w).alloc (Nat.le_refl _) _).trans (⟨rfl, rfl, rfl, Nat.le_refl _, fun _ _ => rfl⟩ : Below w.heap.size (w.alloc (.cells #[.int .u8 (48 + d)] 5)) (w.alloc (.cells #[.int .u8 (48 + d)] 5)).drew)).trans (hb6.mono (by simp))
      · exact (((Below.refl w.heap.size w).alloc (Nat.le_refl _) _).trans (⟨rfl, rfl, rfl, Nat.le_refl _, fun _ _ => rfl⟩ : Below w.heap.size (w.alloc (.cells #[.int .u8 (48 + d)] 5)) (w.alloc (.cells #[.int .u8 (48 + d)] 5)).drew)).trans (hb6.mono (by simp))
theorem digits (n : Int) (w : World) (h0 : 0 ≤ n) (h1 : n ≤ 9223372036854775807) : Calls Tryd.prog 40 #[.int .i64 n] w (RetB (.string (digS n)) w) := digits_calls (n.toNat + 1) n w h0 h1 (by omega)
/-- The text of a number: the sign, and the digits. -/
def numS (n : Int) : ByteArray := ⟨(Lib.itoa n).toArray⟩
theorem digS_size (n : Int) (h0 : 0 ≤ n) (h1 : n ≤ 9223372036854775807) : (digS n).size ≤ 20 := by
  have := decLen n (by omega) (by omega)
  unfold digS
  rw [show n.natAbs = n.toNat by omega] at this
  exact this
set_option maxRecDepth 100000 in
set_option maxHeartbeats 4000000 in
theorem text04_calls (n : Int) (w : World) (h0 : -9223372036854775808 ≤ n) (h1 : n ≤ 9223372036854775807) : Calls Tryd.prog 28 #[.int .i64 n] w (RetB (.string (numS n)) w) := by
  by_cases hn : 0 ≤ n
  · have d0 : decide (0 ≤ n) = true := decide_eq_true hn
    have HD := Lib.hid (digits n w hn h1)
    have HE := Lib.hid (show digS n = numS n by unfold digS numS Lib.itoa; rw [if_neg (by omega)])
    go_enter Tryd.func28, Tryd.ntmps28
    go_wp2_with fail
    (with_reducible refine HD.out.mono ?_)
    rintro e w2 ⟨rfl, hb⟩
    have HB := Lib.hid hb
    clear hb HD
    go_wp2_with fail
    go_ret
    exact ⟨congrArg (fun x => Ending.returned (Value.string x)) HE.out, HB.out⟩
  · have d0 : decide (0 ≤ n) = false := decide_eq_false hn
    by_cases h10 : -10 < n
    · have d1 : decide (-10 < n) = true := decide_eq_true h10
      have HD := Lib.hid (digits (-n) w (by omega) (by omega))
      have hz := digS_size (-n) (by omega) (by omega)
      obtain ⟨t, ht⟩ : ∃ t, t = (⟨#[45]⟩ : ByteArray) ++ digS (-n) := ⟨_, rfl⟩
      have hst : ∀ W : World, (Op.stringOp .add ⟨#[45]⟩ (digS (-n))).run Tryd.prog W = .ok (.string t) W := fun W => by rw [ht]; exact run_string_add_sum W _ _ (by rw [show (⟨#[45]⟩ : ByteArray).size = 1 from rfl]; omega)
      have HE := Lib.hid (show t = numS n by
        rw [ht]
        unfold digS numS Lib.itoa
        rw [if_pos (by omega), show (⟨#[45]⟩ : ByteArray) = ⟨[45].toArray⟩ from rfl, bs_app, show (-n).toNat = n.natAbs by omega]
        rfl)
      clear ht hz
      go_enter Tryd.func28, Tryd.ntmps28
      go_wp2_with fail
      (with_reducible refine HD.out.mono ?_)
      rintro e w2 ⟨rfl, hb⟩
      have HB := Lib.hid hb
      clear hb HD
      go_wp2_with fail
      go_ret
      exact ⟨congrArg (fun x => Ending.returned (Value.string x)) HE.out, HB.out⟩
    · have d1 : decide (-10 < n) = false := decide_eq_false h10
      obtain ⟨q, hq⟩ : ∃ q, q = (-n) / 10 := ⟨_, rfl⟩
      obtain ⟨d, hd⟩ : ∃ d, d = (-n) % 10 := ⟨_, rfl⟩
      have e1 : n.tdiv 10 = -q := by rw [hq, ← Int.tdiv_eq_ediv_of_nonneg (by omega), Int.neg_tdiv]; omega
      have e2 : n.tmod 10 = -d := by rw [hd, ← Int.tmod_eq_emod_of_nonneg (by omega), Int.neg_tmod]; omega
      have hqb : 1 ≤ q ∧ q ≤ 922337203685477580 := by omega
      have hdb : 0 ≤ d ∧ d ≤ 9 := by omega
      have HQ := Lib.hid (fun W => digits q W (by omega) (by omega))
      have HD := Lib.hid (fun W => digits d W (by omega) (by omega))
      have hz := digS_size q (by omega) (by omega)
      have hz2 := digS_size d (by omega) (by omega)
      obtain ⟨t, ht⟩ : ∃ t, t = (⟨#[45]⟩ : ByteArray) ++ digS q := ⟨_, rfl⟩
      have hst : ∀ W : World, (Op.stringOp .add ⟨#[45]⟩ (digS q)).run Tryd.prog W = .ok (.string t) W := fun W => by rw [ht]; exact run_string_add_sum W _ _ (by rw [show (⟨#[45]⟩ : ByteArray).size = 1 from rfl]; omega)
      have htz : t.size = 1 + (digS q).size := by rw [ht, ByteArray.size_append]; rfl
      obtain ⟨u, hu⟩ : ∃ u, u = t ++ digS d := ⟨_, rfl⟩
      have hsu : ∀ W : World, (Op.stringOp .add t (digS d)).run Tryd.prog W = .ok (.string u) W := fun W => by rw [hu]; exact run_string_add_sum W _ _ (by omega)
      have HE := Lib.hid (show u = numS n by
        rw [hu, ht]
        unfold digS numS Lib.itoa
        rw [if_pos (by omega), show (⟨#[45]⟩ : ByteArray) = ⟨[45].toArray⟩ from rfl, bs_app, bs_app, Lib.decDigits.eq_1 n.natAbs, dif_neg (by omega), Lib.decDigits_one (i := d.toNat) (by omega), show n.natAbs / 10 = q.toNat by omega, show n.natAbs % 10 = d.toNat by omega]
        rfl)
      have f1 : wrap64 (-(-q)) = q := IntWalk.wrap64_in _ (by omega) |>.trans (by omega)
      clear ht hu hz hz2 htz hq hd
      go_enter Tryd.func28, Tryd.ntmps28
      go_wp2_with fail
      (with_reducible refine (HQ.out _).mono ?_)
      rintro e w2 ⟨rfl, hb⟩
      have HB := Lib.hid hb
      clear hb HQ f1
      go_wp2_with fail
      (with_reducible refine (HD.out _).mono ?_)
      rintro e w3 ⟨rfl, hb⟩
      have HB3 := Lib.hid (HB.out.trans (hb.mono HB.out.size))
      clear hb HD HB
      go_wp2_with fail
      go_ret
      exact ⟨congrArg (fun x => Ending.returned (Value.string x)) HE.out, HB3.out⟩
def padL (n : Int) (k : Nat) : List UInt8 := List.replicate (k - (Lib.decDigits n.toNat).length) 48 ++ Lib.decDigits n.toNat
theorem pad_step (l : List UInt8) : (⟨#[48]⟩ : ByteArray) ++ ⟨l.toArray⟩ = ⟨(48 :: l).toArray⟩ := by
  rw [show (⟨#[48]⟩ : ByteArray) = ⟨[48].toArray⟩ from rfl, bs_app]
  rfl
theorem pad2 (n : Int) (h0 : 0 ≤ n) (h1 : n < 100) : (⟨(padL n 2).toArray⟩ : ByteArray) = twoS n := by
  unfold twoS padL
  rw [twoL_eq n h0 h1]
  by_cases h : n < 10
  · rw [Lib.decDigits_one (by omega), show n.toNat / 10 = 0 by omega, show n.toNat % 10 = n.toNat by omega]
    rfl
  · rw [Lib.decDigits_two (by omega) (by omega)]
    rfl
def PadRel (D : List UInt8) (k : Nat) (w : World) (n : Nat) (v5 : Value) (wr : World) : Prop :=
  ∃ j : Nat, v5 = .string ⟨(List.replicate j 48 ++ D).toArray⟩ ∧ j + n = k - D.length ∧ w = wr
set_option maxRecDepth 100000 in
set_option maxHeartbeats 4000000 in
theorem pad_calls (n : Int) (k : Nat) (w : World) (h0 : 0 ≤ n) (h1 : n ≤ 9223372036854775807) (hk : k ≤ 4) : Calls Tryd.prog 29 #[.int .i64 n, .int .i64 (k : Int)] w (RetB (.string ⟨(padL n k).toArray⟩) w) := by
  have HD := Lib.hid (digits n w h0 h1)
  have hz := digS_size n h0 h1
  have HE := Lib.hid (show padL n k = List.replicate (k - (Lib.decDigits n.toNat).length) 48 ++ Lib.decDigits n.toNat from rfl)
  unfold digS at HD hz
  rw [show (⟨(Lib.decDigits n.toNat).toArray⟩ : ByteArray).size = (Lib.decDigits n.toNat).length from rfl] at hz
  generalize Lib.decDigits n.toNat = D at HD HE hz
  go_enter Tryd.func29, Tryd.ntmps29
  go_wp2_with fail
  (with_reducible refine HD.out.mono ?_)
  rintro e w2 ⟨rfl, hb⟩
  have HB := Lib.hid hb
  clear hb HD
  go_wp2_with fail
  go_loopg [5] (k - D.length) (fun m v5 wr => PadRel D k w2 m v5 wr)
  case atStart => exact ⟨0, rfl, by omega, rfl⟩
  case round =>
    obtain ⟨j, rfl, hj, rfl⟩ := hrel
    have hsz : (⟨(List.replicate j 48 ++ D).toArray⟩ : ByteArray).size = j + D.length := by
      show (List.replicate j (48 : UInt8) ++ D).toArray.size = _
      rw [List.size_toArray, List.length_append, List.length_replicate]
    have hnext := pad_step (List.replicate j 48 ++ D)
    have hne : (48 :: (List.replicate j 48 ++ D) : List UInt8) = List.replicate (j + 1) 48 ++ D := by rw [List.replicate_succ]; rfl
    rw [hne] at hnext
    have hfin := Lib.hid (show j = k - D.length → (⟨(List.replicate j 48 ++ D).toArray⟩ : ByteArray) = ⟨(padL n k).toArray⟩ from fun h => by rw [HE.out, h])
    generalize hS : (⟨(List.replicate j 48 ++ D).toArray⟩ : ByteArray) = S at hsz hnext hfin ⊢
    clear hS hne
    by_cases hlt : S.size < k
    · have hl1 : decide (S.size < k) = true := decide_eq_true hlt
      have hl2 : decide ((S.size : Int) < (k : Int)) = true := decide_eq_true (by omega)
      obtain ⟨T, hT⟩ : ∃ T, T = (⟨#[48]⟩ : ByteArray) ++ S := ⟨_, rfl⟩
      have hst : ∀ W : World, (Op.stringOp .add ⟨#[48]⟩ S).run Tryd.prog W = .ok (.string T) W := fun W => by rw [hT]; exact run_string_add_sum W _ _ (by rw [show (⟨#[48]⟩ : ByteArray).size = 1 from rfl]; omega)
      have HT := Lib.hid (hT.trans hnext)
      have HSZ := Lib.hid hsz
      clear hT hnext hsz
      go_wp2_with fail
      go_roundg (gk - 1)
      case rel => exact ⟨j + 1, congrArg Value.string HT.out, by have := HSZ.out; omega, rfl⟩
      case measure => have := HSZ.out; omega
    · have hl1 : decide (S.size < k) = false := decide_eq_false hlt
      have hl2 : decide ((S.size : Int) < (k : Int)) = false := decide_eq_false (by omega)
      have HF := Lib.hid (hfin.out (by omega))
      clear hnext hsz hfin
      go_wp2_with fail
      go_ret
      exact ⟨congrArg (fun x => Ending.returned (Value.string x)) HF.out, HB.out⟩
end Go.Proofs.YtkjglhehlkjfgaaDoor.Hand
