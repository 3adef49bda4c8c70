/- The text of a date: two, Text. -/
import Derived.Test.YtkjglhehlkjfgaaDoorHandD
import Derived.Test.YtkjglhehlkjfgaaDoorShelf
import Derived.Lib.AppendIntMem
import Derived.Laws.Concat
import Derived.Deep.RegionHeld3
set_option linter.unusedVariables false
set_option linter.unusedSimpArgs false
namespace Go.Proofs.YtkjglhehlkjfgaaDoor.Hand
open Go.RowKit Go.Proofs.YtkjglhehlkjfgaaDoor.Civ
/-- What the laid variables hold. -/
structure VW (w : World) : Prop where
  tab : Lib.TabIs Tryd.prog w "internal/strconv.uint64pow10" .u64 Lib.pow10Tab
  syn : ∃ te pe, w.cell? ⟨1, 0, none⟩ = some (.iface te pe)
  rng : ∃ te pe, w.cell? ⟨2, 0, none⟩ = some (.iface te pe)
theorem cell_keep {w w' : World} (hb : Below w.heap.size w w') {a : Addr} {v : Value} (hc : w.cell? a = some v) : w'.cell? a = some v := (hb.cell (World.block_lt_of_cell? w a hc)).trans hc
theorem VW.below {w w' : World} (h : VW w) (hb : Below w.heap.size w w') : VW w' := by
  obtain ⟨h1, ⟨a, b, h2⟩, ⟨c, d, h3⟩⟩ := h
  exact ⟨Go.Joins.var_stays (g := 0) (by kernel_rfl) h1 hb (Nat.le_refl _), ⟨a, b, cell_keep hb h2⟩, ⟨c, d, cell_keep hb h3⟩⟩
/-- Two digits. -/
def twoL (n : Int) : List UInt8 := (Lib.decDigits (100 + n).toNat).tail
def twoS (n : Int) : ByteArray := ⟨(twoL n).toArray⟩
theorem bs_app (a b : List UInt8) : (⟨a.toArray⟩ ++ ⟨b.toArray⟩ : ByteArray) = ⟨(a ++ b).toArray⟩ := by
  apply ByteArray.ext
  simp
theorem bs_tail (a : List UInt8) : (⟨a.toArray⟩ : ByteArray).extract 1 (⟨a.toArray⟩ : ByteArray).size = ⟨a.tail.toArray⟩ := by
  apply ByteArray.ext
  cases a with
  | nil => rfl
  | cons x xs => simp [ByteArray.size]
theorem twoL_eq (n : Int) (h0 : 0 ≤ n) (h1 : n < 100) : twoL n = [UInt8.ofNat (48 + n.toNat / 10), UInt8.ofNat (48 + n.toNat % 10)] := by
  unfold twoL
  rw [Lib.decDigits, dif_neg (by omega), Lib.decDigits_two (by omega) (by omega)]
  have e1 : (100 + n).toNat / 10 % 10 = n.toNat / 10 := by omega
  have e2 : (100 + n).toNat % 10 = n.toNat % 10 := by omega
  rw [e1, e2]
  rfl
theorem twoL_len (n : Int) (h0 : 0 ≤ n) (h1 : n < 100) : (twoL n).length = 2 := by rw [twoL_eq n h0 h1]; rfl
theorem grown_below (w : World) (k : Nat) (os : Array Obj) : Below w.heap.size w (Go.Sort.grow (w.drewN k) os) := Lib.below_grow w.heap.size w (Nat.le_refl _) k os
set_option maxRecDepth 100000 in
theorem two_calls (n : Int) (w : World) (hV : VW w) (h0 : 0 ≤ n) (h1 : n < 100) : Calls Tryd.prog 26 #[.int .i64 n] w (RetB (.string (twoS n)) w) := by
  have hf := Tryd.strconv_FormatInt_10 (100 + n) (by omega) (by omega) w hV.tab
  have he : Lib.itoa (100 + n) = Lib.decDigits (100 + n).toNat := by unfold Lib.itoa; rw [if_neg (by omega)]
  have hl : 1 ≤ (Lib.decDigits (100 + n).toNat).length := by
    have := twoL_len n h0 h1
    unfold twoL at this
    rw [List.length_tail] at this
    omega
  have ht := bs_tail (Lib.decDigits (100 + n).toNat)
  rw [he] at hf
  have hsz : (⟨(Lib.decDigits (100 + n).toNat).toArray⟩ : ByteArray).size = (Lib.decDigits (100 + n).toNat).length := rfl
  rw [← hsz] at hl
  have hx : (⟨(Lib.decDigits (100 + n).toNat).tail.toArray⟩ : ByteArray) = twoS n := rfl
  rw [hx] at ht
  generalize (⟨(Lib.decDigits (100 + n).toNat).toArray⟩ : ByteArray) = S at hf hl ht
  have hs : ∀ W : World, (Instr.slice 9 (.string S) (some (.int .i64 1)) none none).run Tryd.prog W = .ok (.string (twoS n)) W := fun W => by
    rw [← ht]
    exact run_slice_string_l W 9 S Tryd.underlying9 .i64 1 (by omega) (by omega)
  have HF := Lib.hid hf
  clear hV he hl ht hsz hx hf
  go_enter Tryd.func26, Tryd.ntmps26
  go_wp2_with fail
  (with_reducible refine HF.out.mono ?_)
  rintro e w1 ⟨rfl, k, os, rfl⟩
  have HB := Lib.hid (grown_below w k os)
  generalize Go.Sort.grow (w.drewN k) os = w1 at HB ⊢
  clear HF
  go_wp2_with fail
  go_ret
  exact ⟨rfl, HB.out⟩
/-- The digits of a year, four at least. -/
def absL (Y : Int) : List UInt8 := List.replicate (4 - (Lib.decDigits Y.natAbs).length) 48 ++ Lib.decDigits Y.natAbs
def signL (Y : Int) : List UInt8 := if Y < 0 then [45] else []
/-- The text of a date. -/
def textL (Y M D h m s : Int) : List UInt8 := signL Y ++ absL Y ++ [45] ++ twoL M ++ [45] ++ twoL D ++ [32] ++ twoL h ++ [58] ++ twoL m ++ [58] ++ twoL s
def textV (Y M D h m s : Int) : ByteArray := if rightB Y M D h m s then ⟨(textL Y M D h m s).toArray⟩ else ⟨#[]⟩
theorem nDigits_le (k : Nat) : ∀ u : Nat, u < 10 ^ (k + 1) → Lib.nDigits u ≤ k + 1 := by
  induction k with
  | zero => intro u hu; rw [Lib.nDigits_small (by simpa using hu)]; omega
  | succ k ih =>
    intro u hu
    by_cases h : u < 10
    · rw [Lib.nDigits_small h]; omega
    · rw [Lib.nDigits_big h]
      have := ih (u / 10) (by rw [Nat.pow_succ] at hu; omega)
      omega
theorem decLen (Y : Int) (h0 : -9223372036854775808 ≤ Y) (h1 : Y ≤ 9223372036854775807) : (Lib.decDigits Y.natAbs).length ≤ 20 := by
  rw [Lib.decDigits_length]
  exact nDigits_le 19 _ (by have : Y.natAbs ≤ 9223372036854775808 := by omega
                            omega)
theorem twoS_size (n : Int) (h0 : 0 ≤ n) (h1 : n < 100) : (twoS n).size = 2 := twoL_len n h0 h1
theorem repeat_eq (k : Nat) : Lib.repeatL (⟨#[48]⟩ : ByteArray).data.toList k = List.replicate k 48 := by
  induction k with
  | zero => rfl
  | succ k ih => simp [Lib.repeatL, List.replicate_succ] at ih ⊢; exact ih
/-- The state in which the two digits are asked for. -/
theorem two_S (b : Nat) (w : World) (M D h m s : Int) (n : Int) (W : World) (h0 : 0 ≤ n) (h1 : n < 100)
    (hS : Hid (VW W ∧ Below w.heap.size w W) ∧ W.cell? ⟨b, 1, none⟩ = some (.int .i64 M) ∧ W.cell? ⟨b, 2, none⟩ = some (.int .i64 D) ∧ W.cell? ⟨b, 3, none⟩ = some (.int .i64 h) ∧ W.cell? ⟨b, 4, none⟩ = some (.int .i64 m) ∧ W.cell? ⟨b, 5, none⟩ = some (.int .i64 s)) :
    Calls Tryd.prog 26 #[.int .i64 n] W fun e W' => e = .returned (.string (twoS n)) ∧ Hid (VW W' ∧ Below w.heap.size w W') ∧ W'.cell? ⟨b, 1, none⟩ = some (.int .i64 M) ∧ W'.cell? ⟨b, 2, none⟩ = some (.int .i64 D) ∧ W'.cell? ⟨b, 3, none⟩ = some (.int .i64 h) ∧ W'.cell? ⟨b, 4, none⟩ = some (.int .i64 m) ∧ W'.cell? ⟨b, 5, none⟩ = some (.int .i64 s) := by
  obtain ⟨hv, c1, c2, c3, c4, c5⟩ := hS
  refine (two_calls n W hv.out.1 h0 h1).mono ?_
  rintro e W' ⟨rfl, hb⟩
  exact ⟨rfl, Lib.hid ⟨hv.out.1.below hb, hv.out.2.trans (hb.mono hv.out.2.size)⟩, cell_keep hb c1, cell_keep hb c2, cell_keep hb c3, cell_keep hb c4, cell_keep hb c5⟩
set_option maxRecDepth 100000 in
set_option maxHeartbeats 4000000 in
theorem text_calls (Y M D h m s : Int) (w : World) (hV : VW w) (hY0 : -9223372036854775808 ≤ Y) (hY1 : Y ≤ 9223372036854775807) : Calls Tryd.prog 15 #[.agg #[.int .i64 Y, .int .i64 M, .int .i64 D, .int .i64 h, .int .i64 m, .int .i64 s]] w (RetB (.string (textV Y M D h m s)) w) := by
  have HC := Lib.hid (right_calls Y M D h m s (w.alloc (.cells #[.int .i64 Y, .int .i64 M, .int .i64 D, .int .i64 h, .int .i64 m, .int .i64 s] 23)))
  have HV := Lib.hid (hV.below ((Below.refl _ w).alloc (Nat.le_refl _) (.cells #[.int .i64 Y, .int .i64 M, .int .i64 D, .int .i64 h, .int .i64 m, .int .i64 s] 23)))
  clear hV
  cases hr : rightB Y M D h m s
  · rw [hr] at HC
    have HP := Lib.hid (show ⟨#[]⟩ = textV Y M D h m s by unfold textV; rw [hr]; rfl)
    clear hr
    go_enter Tryd.func15, Tryd.ntmps15
    go_wp2_with fail
    (with_reducible refine HC.out.mono ?_)
    rintro e w2 ⟨rfl, hb⟩
    have HB := Lib.hid (below_boxed hb)
    clear hb
    go_wp2_with fail
    go_ret
    exact ⟨congrArg (fun x => Ending.returned (Value.string x)) HP.out, HB.out⟩
  · rw [hr] at HC
    have hR := (rightB_iff Y M D h m s).1 hr
    obtain ⟨⟨a1, a2, a3, a4⟩, b1, b2, b3, b4, b5, b6⟩ := hR
    have hdm := dpm_pos Y M a1 a2
    have HP := Lib.hid (show ⟨(textL Y M D h m s).toArray⟩ = textV Y M D h m s by unfold textV; rw [hr]; rfl)
    have hD31 : D < 100 := by omega
    clear hr hdm a4
    go_enter Tryd.func15, Tryd.ntmps15
    go_wp2_with fail
    (with_reducible refine HC.out.mono ?_)
    rintro e w2 ⟨rfl, hb⟩
    have HB := Lib.hid (below_boxed hb)
    have HV2 := Lib.hid (HV.out.below hb)
    obtain ⟨k0, k1, k2, k3, k4, k5⟩ := box_cells hb
    clear hb HV HC
    go_wp2_with fail
    (with_reducible refine (Tryd.strconv_FormatInt_10 Y hY0 hY1 w2 HV2.out.tab).mono ?_)
    rintro e w3 ⟨rfl, n3, os3, rfl⟩
    have hg := grown_below w2 n3 os3
    generalize Go.Sort.grow (w2.drewN n3) os3 = w3 at hg ⊢
    have HB3 := Lib.hid (HB.out.trans (hg.mono HB.out.size))
    have HV3 := Lib.hid (HV2.out.below hg)
    replace k0 := cell_keep hg k0
    replace k1 := cell_keep hg k1
    replace k2 := cell_keep hg k2
    replace k3 := cell_keep hg k3
    replace k4 := cell_keep hg k4
    replace k5 := cell_keep hg k5
    clear hg HB HV2
    have hsz : (⟨(Lib.decDigits Y.natAbs).toArray⟩ : ByteArray).size = (Lib.decDigits Y.natAbs).length := rfl
    have HL := Lib.hid (decLen Y hY0 hY1)
    by_cases hy : Y < 0
    · have dy : decide (Y < 0) = true := decide_eq_true hy
      have hi : Lib.itoa Y = 45 :: Lib.decDigits Y.natAbs := by unfold Lib.itoa; rw [if_pos hy]
      have ht := bs_tail (Lib.itoa Y)
      rw [show (⟨(Lib.itoa Y).tail.toArray⟩ : ByteArray) = ⟨(Lib.decDigits Y.natAbs).toArray⟩ by rw [hi]; rfl] at ht
      have hl : 1 ≤ (⟨(Lib.itoa Y).toArray⟩ : ByteArray).size := by rw [hi]; simp [ByteArray.size]
      have HSG := Lib.hid (show signL Y = [45] by unfold signL; rw [if_pos hy])
      generalize (⟨(Lib.itoa Y).toArray⟩ : ByteArray) = S0 at ht hl ⊢
      obtain ⟨dg, hdg⟩ : ∃ dg, dg = (⟨(Lib.decDigits Y.natAbs).toArray⟩ : ByteArray) := ⟨_, rfl⟩
      rw [← hdg] at ht hsz
      have hs : ∀ W : World, (Instr.slice 9 (.string S0) (some (.int .i64 1)) none none).run Tryd.prog W = .ok (.string dg) W := fun W => by
        rw [← ht]
        exact run_slice_string_l W 9 S0 Tryd.underlying9 .i64 1 (by omega) (by omega)
      have HDG := Lib.hid hdg
      have HSZ := Lib.hid hsz
      clear hi ht hdg hsz
      go_wp2_with fail
      go_quiet (fail)
      go_upto_region 6 with (fail)
      change Code.wp _ _ _ _ (w3.drewN nq)
      have hW : Below w3.heap.size w3 (w3.drewN nq) := ⟨rfl, rfl, rfl, Nat.le_refl _, fun _ _ => rfl⟩
      generalize w3.drewN nq = w4 at hW ⊢
      have HB4 := Lib.hid (HB3.out.trans (hW.mono HB3.out.size))
      have HV4 := Lib.hid (HV3.out.below hW)
      replace k1 := cell_keep hW k1
      replace k2 := cell_keep hW k2
      replace k3 := cell_keep hW k3
      replace k4 := cell_keep hW k4
      replace k5 := cell_keep hW k5
      have hdl : dg.size ≤ 20 := by rw [HSZ.out]; exact HL.out
      clear hW HB3 HV3 k0
      go_wp2_with fail
      have hmx : max 0 (4 - (dg.size : Int)) = ((4 - dg.size : Nat) : Int) := by omega
      simp only [hmx]
      (with_reducible refine (Tryd.strings_Repeat ⟨#[48]⟩ (4 - dg.size) w4 (by omega) (by have e : (⟨#[48]⟩ : ByteArray).size = 1 := rfl; rw [e]; omega)).mono ?_)
      rintro e w5 ⟨rfl, hb5⟩
      rw [repeat_eq]
      obtain ⟨p4, hp4⟩ : ∃ p4, p4 = (⟨(List.replicate (4 - dg.size) 48).toArray⟩ : ByteArray) := ⟨_, rfl⟩
      rw [← hp4]
      have hps : p4.size = 4 - dg.size := by rw [hp4]; show (List.replicate (4 - dg.size) (48 : UInt8)).toArray.size = _; rw [List.size_toArray, List.length_replicate]
      obtain ⟨yr, hyr⟩ : ∃ yr, yr = p4 ++ dg := ⟨_, rfl⟩
      have hys : yr.size = p4.size + dg.size := by rw [hyr]; exact ByteArray.size_append
      have qy : ∀ W : World, (Op.stringOp .add p4 dg).run Tryd.prog W = .ok (.string yr) W := fun W => by rw [hyr]; exact run_string_add_sum W _ _ (by omega)
      have z2 := twoS_size M (by omega) (by omega)
      have z4 := twoS_size D (by omega) (by omega)
      have z6 := twoS_size h (by omega) (by omega)
      have z8 := twoS_size m (by omega) (by omega)
      have z10 := twoS_size s (by omega) (by omega)
      have HYR := Lib.hid hyr
      have HP4 := Lib.hid hp4
      have HB5 := Lib.hid (HB4.out.trans (hb5.mono HB4.out.size))
      have HV5 := Lib.hid (HV4.out.below hb5)
      replace k1 := cell_keep hb5 k1
      replace k2 := cell_keep hb5 k2
      replace k3 := cell_keep hb5 k3
      replace k4 := cell_keep hb5 k4
      replace k5 := cell_keep hb5 k5
      have s0 : (⟨#[45]⟩ : ByteArray).size = 1 := rfl
      obtain ⟨t1, ht1⟩ : ∃ t : ByteArray, t = (⟨#[45]⟩ : ByteArray) ++ (yr : ByteArray) := ⟨_, rfl⟩
      have s1 : t1.size = (⟨#[45]⟩ : ByteArray).size + yr.size := by rw [ht1, ByteArray.size_append] <;> exact congrArg ((⟨#[45]⟩ : ByteArray).size + ·) (rfl)
      have q1 : ∀ W : World, (Op.stringOp .add ⟨#[45]⟩ yr).run Tryd.prog W = .ok (.string t1) W := fun W => by rw [ht1]; exact run_string_add_sum W _ _ (by rw [s0]; first | omega | (show _ + 1 ≤ _; omega))
      obtain ⟨t2, ht2⟩ : ∃ t : ByteArray, t = (t1 : ByteArray) ++ (⟨#[45]⟩ : ByteArray) := ⟨_, rfl⟩
      have s2 : t2.size = (t1 : ByteArray).size + 1 := by rw [ht2, ByteArray.size_append] <;> exact congrArg ((t1 : ByteArray).size + ·) (rfl)
      have q2 : ∀ W : World, (Op.stringOp .add t1 ⟨#[45]⟩).run Tryd.prog W = .ok (.string t2) W := fun W => by rw [ht2]; exact run_string_add_sum W _ _ (by rw [s1]; first | omega | (show _ + 1 ≤ _; omega))
      obtain ⟨t3, ht3⟩ : ∃ t : ByteArray, t = (t2 : ByteArray) ++ ((twoS M) : ByteArray) := ⟨_, rfl⟩
      have s3 : t3.size = (t2 : ByteArray).size + 2 := by rw [ht3, ByteArray.size_append] <;> exact congrArg ((t2 : ByteArray).size + ·) (z2)
      have q3 : ∀ W : World, (Op.stringOp .add t2 (twoS M)).run Tryd.prog W = .ok (.string t3) W := fun W => by rw [ht3]; exact run_string_add_sum W _ _ (by rw [s2]; first | omega | (show _ + 1 ≤ _; omega))
      obtain ⟨t4, ht4⟩ : ∃ t : ByteArray, t = (t3 : ByteArray) ++ (⟨#[45]⟩ : ByteArray) := ⟨_, rfl⟩
      have s4 : t4.size = (t3 : ByteArray).size + 1 := by rw [ht4, ByteArray.size_append] <;> exact congrArg ((t3 : ByteArray).size + ·) (rfl)
      have q4 : ∀ W : World, (Op.stringOp .add t3 ⟨#[45]⟩).run Tryd.prog W = .ok (.string t4) W := fun W => by rw [ht4]; exact run_string_add_sum W _ _ (by rw [s3]; first | omega | (show _ + 1 ≤ _; omega))
      obtain ⟨t5, ht5⟩ : ∃ t : ByteArray, t = (t4 : ByteArray) ++ ((twoS D) : ByteArray) := ⟨_, rfl⟩
      have s5 : t5.size = (t4 : ByteArray).size + 2 := by rw [ht5, ByteArray.size_append] <;> exact congrArg ((t4 : ByteArray).size + ·) (z4)
      have q5 : ∀ W : World, (Op.stringOp .add t4 (twoS D)).run Tryd.prog W = .ok (.string t5) W := fun W => by rw [ht5]; exact run_string_add_sum W _ _ (by rw [s4]; first | omega | (show _ + 1 ≤ _; omega))
      obtain ⟨t6, ht6⟩ : ∃ t : ByteArray, t = (t5 : ByteArray) ++ (⟨#[32]⟩ : ByteArray) := ⟨_, rfl⟩
      have s6 : t6.size = (t5 : ByteArray).size + 1 := by rw [ht6, ByteArray.size_append] <;> exact congrArg ((t5 : ByteArray).size + ·) (rfl)
      have q6 : ∀ W : World, (Op.stringOp .add t5 ⟨#[32]⟩).run Tryd.prog W = .ok (.string t6) W := fun W => by rw [ht6]; exact run_string_add_sum W _ _ (by rw [s5]; first | omega | (show _ + 1 ≤ _; omega))
      obtain ⟨t7, ht7⟩ : ∃ t : ByteArray, t = (t6 : ByteArray) ++ ((twoS h) : ByteArray) := ⟨_, rfl⟩
      have s7 : t7.size = (t6 : ByteArray).size + 2 := by rw [ht7, ByteArray.size_append] <;> exact congrArg ((t6 : ByteArray).size + ·) (z6)
      have q7 : ∀ W : World, (Op.stringOp .add t6 (twoS h)).run Tryd.prog W = .ok (.string t7) W := fun W => by rw [ht7]; exact run_string_add_sum W _ _ (by rw [s6]; first | omega | (show _ + 1 ≤ _; omega))
      obtain ⟨t8, ht8⟩ : ∃ t : ByteArray, t = (t7 : ByteArray) ++ (⟨#[58]⟩ : ByteArray) := ⟨_, rfl⟩
      have s8 : t8.size = (t7 : ByteArray).size + 1 := by rw [ht8, ByteArray.size_append] <;> exact congrArg ((t7 : ByteArray).size + ·) (rfl)
      have q8 : ∀ W : World, (Op.stringOp .add t7 ⟨#[58]⟩).run Tryd.prog W = .ok (.string t8) W := fun W => by rw [ht8]; exact run_string_add_sum W _ _ (by rw [s7]; first | omega | (show _ + 1 ≤ _; omega))
      obtain ⟨t9, ht9⟩ : ∃ t : ByteArray, t = (t8 : ByteArray) ++ ((twoS m) : ByteArray) := ⟨_, rfl⟩
      have s9 : t9.size = (t8 : ByteArray).size + 2 := by rw [ht9, ByteArray.size_append] <;> exact congrArg ((t8 : ByteArray).size + ·) (z8)
      have q9 : ∀ W : World, (Op.stringOp .add t8 (twoS m)).run Tryd.prog W = .ok (.string t9) W := fun W => by rw [ht9]; exact run_string_add_sum W _ _ (by rw [s8]; first | omega | (show _ + 1 ≤ _; omega))
      obtain ⟨t10, ht10⟩ : ∃ t : ByteArray, t = (t9 : ByteArray) ++ (⟨#[58]⟩ : ByteArray) := ⟨_, rfl⟩
      have s10 : t10.size = (t9 : ByteArray).size + 1 := by rw [ht10, ByteArray.size_append] <;> exact congrArg ((t9 : ByteArray).size + ·) (rfl)
      have q10 : ∀ W : World, (Op.stringOp .add t9 ⟨#[58]⟩).run Tryd.prog W = .ok (.string t10) W := fun W => by rw [ht10]; exact run_string_add_sum W _ _ (by rw [s9]; first | omega | (show _ + 1 ≤ _; omega))
      obtain ⟨t11, ht11⟩ : ∃ t : ByteArray, t = (t10 : ByteArray) ++ ((twoS s) : ByteArray) := ⟨_, rfl⟩
      have s11 : t11.size = (t10 : ByteArray).size + 2 := by rw [ht11, ByteArray.size_append] <;> exact congrArg ((t10 : ByteArray).size + ·) (z10)
      have q11 : ∀ W : World, (Op.stringOp .add t10 (twoS s)).run Tryd.prog W = .ok (.string t11) W := fun W => by rw [ht11]; exact run_string_add_sum W _ _ (by rw [s10]; first | omega | (show _ + 1 ≤ _; omega))
      have HT := Lib.hid (show t11 = ⟨(textL Y M D h m s).toArray⟩ by
        rw [ht11, ht10, ht9, ht8, ht7, ht6, ht5, ht4, ht3, ht2, ht1, hyr, hp4, HDG.out]
        unfold textL absL
        rw [HSG.out, show (⟨(Lib.decDigits Y.natAbs).toArray⟩ : ByteArray).size = (Lib.decDigits Y.natAbs).length from rfl]
        unfold twoS
        rw [show (⟨#[45]⟩ : ByteArray) = ⟨[45].toArray⟩ from rfl, show (⟨#[32]⟩ : ByteArray) = ⟨[32].toArray⟩ from rfl, show (⟨#[58]⟩ : ByteArray) = ⟨[58].toArray⟩ from rfl]
        simp only [bs_app])
      clear ht1 ht2 ht3 ht4 ht5 ht6 ht7 ht8 ht9 ht10 ht11 hyr hp4 hb5 HB4 HV4 hmx z2 z4 z6 z8 z10 s0 s1 s2 s3 s4 s5 s6 s7 s8 s9 s10 s11 hps hys hdl
      have HTW := Lib.hid (two_S w.heap.size w M D h m s)
      have hVB := Lib.hid (And.intro HV5.out HB5.out)
      have hS := And.intro hVB (And.intro k1 (And.intro k2 (And.intro k3 (And.intro k4 k5))))
      go_upto_region 7 with (fail)
      have hbd : Below w5.heap.size w5 w5.drew := ⟨rfl, rfl, rfl, Nat.le_refl _, fun _ _ => rfl⟩
      have hSd := And.intro (Lib.hid (And.intro (HV5.out.below hbd) (HB5.out.trans (hbd.mono HB5.out.size)))) (And.intro (cell_keep hbd k1) (And.intro (cell_keep hbd k2) (And.intro (cell_keep hbd k3) (And.intro (cell_keep hbd k4) (cell_keep hbd k5)))))
      clear hbd hVB HV5 HB5 hS k1 k2 k3 k4 k5
      go_region_held3 (fun W : World => Hid (VW W ∧ Below w.heap.size w W) ∧ W.cell? ⟨w.heap.size, 1, none⟩ = some (.int .i64 M) ∧ W.cell? ⟨w.heap.size, 2, none⟩ = some (.int .i64 D) ∧ W.cell? ⟨w.heap.size, 3, none⟩ = some (.int .i64 h) ∧ W.cell? ⟨w.heap.size, 4, none⟩ = some (.int .i64 m) ∧ W.cell? ⟨w.heap.size, 5, none⟩ = some (.int .i64 s)) (first | exact hSd | assumption) (first | (go_at_call 26; refine (HTW.out _ _ (by omega) (by omega) (by assumption)).mono ?_; rintro e w6 ⟨rfl, hS6⟩))
      go_wp2_with fail
      go_ret
      exact ⟨congrArg (fun x => Ending.returned (Value.string x)) (HT.out.trans HP.out), hS6.1.out.2⟩
    · have dy : decide (Y < 0) = false := decide_eq_false hy
      have hi : Lib.itoa Y = Lib.decDigits Y.natAbs := by unfold Lib.itoa; rw [if_neg hy, show Y.toNat = Y.natAbs by omega]
      rw [hi]
      have HSG := Lib.hid (show signL Y = [] by unfold signL; rw [if_neg hy])
      obtain ⟨dg, hdg⟩ : ∃ dg, dg = (⟨(Lib.decDigits Y.natAbs).toArray⟩ : ByteArray) := ⟨_, rfl⟩
      rw [← hdg] at hsz ⊢
      have HDG := Lib.hid hdg
      have HSZ := Lib.hid hsz
      clear hi hdg hsz
      go_upto_region 6 with (fail)
      change Code.wp _ _ _ _ (w3.drewN 0)
      have hW : Below w3.heap.size w3 (w3.drewN 0) := ⟨rfl, rfl, rfl, Nat.le_refl _, fun _ _ => rfl⟩
      generalize w3.drewN 0 = w4 at hW ⊢
      have HB4 := Lib.hid (HB3.out.trans (hW.mono HB3.out.size))
      have HV4 := Lib.hid (HV3.out.below hW)
      replace k1 := cell_keep hW k1
      replace k2 := cell_keep hW k2
      replace k3 := cell_keep hW k3
      replace k4 := cell_keep hW k4
      replace k5 := cell_keep hW k5
      have hdl : dg.size ≤ 20 := by rw [HSZ.out]; exact HL.out
      clear hW HB3 HV3 k0
      go_wp2_with fail
      have hmx : max 0 (4 - (dg.size : Int)) = ((4 - dg.size : Nat) : Int) := by omega
      simp only [hmx]
      (with_reducible refine (Tryd.strings_Repeat ⟨#[48]⟩ (4 - dg.size) w4 (by omega) (by have e : (⟨#[48]⟩ : ByteArray).size = 1 := rfl; rw [e]; omega)).mono ?_)
      rintro e w5 ⟨rfl, hb5⟩
      rw [repeat_eq]
      obtain ⟨p4, hp4⟩ : ∃ p4, p4 = (⟨(List.replicate (4 - dg.size) 48).toArray⟩ : ByteArray) := ⟨_, rfl⟩
      rw [← hp4]
      have hps : p4.size = 4 - dg.size := by rw [hp4]; show (List.replicate (4 - dg.size) (48 : UInt8)).toArray.size = _; rw [List.size_toArray, List.length_replicate]
      obtain ⟨yr, hyr⟩ : ∃ yr, yr = p4 ++ dg := ⟨_, rfl⟩
      have hys : yr.size = p4.size + dg.size := by rw [hyr]; exact ByteArray.size_append
      have qy : ∀ W : World, (Op.stringOp .add p4 dg).run Tryd.prog W = .ok (.string yr) W := fun W => by rw [hyr]; exact run_string_add_sum W _ _ (by omega)
      have z2 := twoS_size M (by omega) (by omega)
      have z4 := twoS_size D (by omega) (by omega)
      have z6 := twoS_size h (by omega) (by omega)
      have z8 := twoS_size m (by omega) (by omega)
      have z10 := twoS_size s (by omega) (by omega)
      have HYR := Lib.hid hyr
      have HP4 := Lib.hid hp4
      have HB5 := Lib.hid (HB4.out.trans (hb5.mono HB4.out.size))
      have HV5 := Lib.hid (HV4.out.below hb5)
      replace k1 := cell_keep hb5 k1
      replace k2 := cell_keep hb5 k2
      replace k3 := cell_keep hb5 k3
      replace k4 := cell_keep hb5 k4
      replace k5 := cell_keep hb5 k5
      have s0 : (⟨#[]⟩ : ByteArray).size = 0 := rfl
      obtain ⟨t1, ht1⟩ : ∃ t : ByteArray, t = (⟨#[]⟩ : ByteArray) ++ (yr : ByteArray) := ⟨_, rfl⟩
      have s1 : t1.size = (⟨#[]⟩ : ByteArray).size + yr.size := by rw [ht1, ByteArray.size_append] <;> exact congrArg ((⟨#[]⟩ : ByteArray).size + ·) (rfl)
      have q1 : ∀ W : World, (Op.stringOp .add ⟨#[]⟩ yr).run Tryd.prog W = .ok (.string t1) W := fun W => by rw [ht1]; exact run_string_add_sum W _ _ (by rw [s0]; first | omega | (show _ + 1 ≤ _; omega))
      obtain ⟨t2, ht2⟩ : ∃ t : ByteArray, t = (t1 : ByteArray) ++ (⟨#[45]⟩ : ByteArray) := ⟨_, rfl⟩
      have s2 : t2.size = (t1 : ByteArray).size + 1 := by rw [ht2, ByteArray.size_append] <;> exact congrArg ((t1 : ByteArray).size + ·) (rfl)
      have q2 : ∀ W : World, (Op.stringOp .add t1 ⟨#[45]⟩).run Tryd.prog W = .ok (.string t2) W := fun W => by rw [ht2]; exact run_string_add_sum W _ _ (by rw [s1]; first | omega | (show _ + 1 ≤ _; omega))
      obtain ⟨t3, ht3⟩ : ∃ t : ByteArray, t = (t2 : ByteArray) ++ ((twoS M) : ByteArray) := ⟨_, rfl⟩
      have s3 : t3.size = (t2 : ByteArray).size + 2 := by rw [ht3, ByteArray.size_append] <;> exact congrArg ((t2 : ByteArray).size + ·) (z2)
      have q3 : ∀ W : World, (Op.stringOp .add t2 (twoS M)).run Tryd.prog W = .ok (.string t3) W := fun W => by rw [ht3]; exact run_string_add_sum W _ _ (by rw [s2]; first | omega | (show _ + 1 ≤ _; omega))
      obtain ⟨t4, ht4⟩ : ∃ t : ByteArray, t = (t3 : ByteArray) ++ (⟨#[45]⟩ : ByteArray) := ⟨_, rfl⟩
      have s4 : t4.size = (t3 : ByteArray).size + 1 := by rw [ht4, ByteArray.size_append] <;> exact congrArg ((t3 : ByteArray).size + ·) (rfl)
      have q4 : ∀ W : World, (Op.stringOp .add t3 ⟨#[45]⟩).run Tryd.prog W = .ok (.string t4) W := fun W => by rw [ht4]; exact run_string_add_sum W _ _ (by rw [s3]; first | omega | (show _ + 1 ≤ _; omega))
      obtain ⟨t5, ht5⟩ : ∃ t : ByteArray, t = (t4 : ByteArray) ++ ((twoS D) : ByteArray) := ⟨_, rfl⟩
      have s5 : t5.size = (t4 : ByteArray).size + 2 := by rw [ht5, ByteArray.size_append] <;> exact congrArg ((t4 : ByteArray).size + ·) (z4)
      have q5 : ∀ W : World, (Op.stringOp .add t4 (twoS D)).run Tryd.prog W = .ok (.string t5) W := fun W => by rw [ht5]; exact run_string_add_sum W _ _ (by rw [s4]; first | omega | (show _ + 1 ≤ _; omega))
      obtain ⟨t6, ht6⟩ : ∃ t : ByteArray, t = (t5 : ByteArray) ++ (⟨#[32]⟩ : ByteArray) := ⟨_, rfl⟩
      have s6 : t6.size = (t5 : ByteArray).size + 1 := by rw [ht6, ByteArray.size_append] <;> exact congrArg ((t5 : ByteArray).size + ·) (rfl)
      have q6 : ∀ W : World, (Op.stringOp .add t5 ⟨#[32]⟩).run Tryd.prog W = .ok (.string t6) W := fun W => by rw [ht6]; exact run_string_add_sum W _ _ (by rw [s5]; first | omega | (show _ + 1 ≤ _; omega))
      obtain ⟨t7, ht7⟩ : ∃ t : ByteArray, t = (t6 : ByteArray) ++ ((twoS h) : ByteArray) := ⟨_, rfl⟩
      have s7 : t7.size = (t6 : ByteArray).size + 2 := by rw [ht7, ByteArray.size_append] <;> exact congrArg ((t6 : ByteArray).size + ·) (z6)
      have q7 : ∀ W : World, (Op.stringOp .add t6 (twoS h)).run Tryd.prog W = .ok (.string t7) W := fun W => by rw [ht7]; exact run_string_add_sum W _ _ (by rw [s6]; first | omega | (show _ + 1 ≤ _; omega))
      obtain ⟨t8, ht8⟩ : ∃ t : ByteArray, t = (t7 : ByteArray) ++ (⟨#[58]⟩ : ByteArray) := ⟨_, rfl⟩
      have s8 : t8.size = (t7 : ByteArray).size + 1 := by rw [ht8, ByteArray.size_append] <;> exact congrArg ((t7 : ByteArray).size + ·) (rfl)
      have q8 : ∀ W : World, (Op.stringOp .add t7 ⟨#[58]⟩).run Tryd.prog W = .ok (.string t8) W := fun W => by rw [ht8]; exact run_string_add_sum W _ _ (by rw [s7]; first | omega | (show _ + 1 ≤ _; omega))
      obtain ⟨t9, ht9⟩ : ∃ t : ByteArray, t = (t8 : ByteArray) ++ ((twoS m) : ByteArray) := ⟨_, rfl⟩
      have s9 : t9.size = (t8 : ByteArray).size + 2 := by rw [ht9, ByteArray.size_append] <;> exact congrArg ((t8 : ByteArray).size + ·) (z8)
      have q9 : ∀ W : World, (Op.stringOp .add t8 (twoS m)).run Tryd.prog W = .ok (.string t9) W := fun W => by rw [ht9]; exact run_string_add_sum W _ _ (by rw [s8]; first | omega | (show _ + 1 ≤ _; omega))
      obtain ⟨t10, ht10⟩ : ∃ t : ByteArray, t = (t9 : ByteArray) ++ (⟨#[58]⟩ : ByteArray) := ⟨_, rfl⟩
      have s10 : t10.size = (t9 : ByteArray).size + 1 := by rw [ht10, ByteArray.size_append] <;> exact congrArg ((t9 : ByteArray).size + ·) (rfl)
      have q10 : ∀ W : World, (Op.stringOp .add t9 ⟨#[58]⟩).run Tryd.prog W = .ok (.string t10) W := fun W => by rw [ht10]; exact run_string_add_sum W _ _ (by rw [s9]; first | omega | (show _ + 1 ≤ _; omega))
      obtain ⟨t11, ht11⟩ : ∃ t : ByteArray, t = (t10 : ByteArray) ++ ((twoS s) : ByteArray) := ⟨_, rfl⟩
      have s11 : t11.size = (t10 : ByteArray).size + 2 := by rw [ht11, ByteArray.size_append] <;> exact congrArg ((t10 : ByteArray).size + ·) (z10)
      have q11 : ∀ W : World, (Op.stringOp .add t10 (twoS s)).run Tryd.prog W = .ok (.string t11) W := fun W => by rw [ht11]; exact run_string_add_sum W _ _ (by rw [s10]; first | omega | (show _ + 1 ≤ _; omega))
      have HT := Lib.hid (show t11 = ⟨(textL Y M D h m s).toArray⟩ by
        rw [ht11, ht10, ht9, ht8, ht7, ht6, ht5, ht4, ht3, ht2, ht1, hyr, hp4, HDG.out]
        unfold textL absL
        rw [HSG.out, show (⟨(Lib.decDigits Y.natAbs).toArray⟩ : ByteArray).size = (Lib.decDigits Y.natAbs).length from rfl]
        unfold twoS
        rw [show (⟨#[]⟩ : ByteArray) = ⟨[].toArray⟩ from rfl, show (⟨#[45]⟩ : ByteArray) = ⟨[45].toArray⟩ from rfl, show (⟨#[32]⟩ : ByteArray) = ⟨[32].toArray⟩ from rfl, show (⟨#[58]⟩ : ByteArray) = ⟨[58].toArray⟩ from rfl]
        simp only [bs_app])
      clear ht1 ht2 ht3 ht4 ht5 ht6 ht7 ht8 ht9 ht10 ht11 hyr hp4 hb5 HB4 HV4 hmx z2 z4 z6 z8 z10 s0 s1 s2 s3 s4 s5 s6 s7 s8 s9 s10 s11 hps hys hdl
      have HTW := Lib.hid (two_S w.heap.size w M D h m s)
      have hVB := Lib.hid (And.intro HV5.out HB5.out)
      have hS := And.intro hVB (And.intro k1 (And.intro k2 (And.intro k3 (And.intro k4 k5))))
      go_upto_region 7 with (fail)
      have hbd : Below w5.heap.size w5 w5.drew := ⟨rfl, rfl, rfl, Nat.le_refl _, fun _ _ => rfl⟩
      have hSd := And.intro (Lib.hid (And.intro (HV5.out.below hbd) (HB5.out.trans (hbd.mono HB5.out.size)))) (And.intro (cell_keep hbd k1) (And.intro (cell_keep hbd k2) (And.intro (cell_keep hbd k3) (And.intro (cell_keep hbd k4) (cell_keep hbd k5)))))
      clear hbd hVB HV5 HB5 hS k1 k2 k3 k4 k5
      go_region_held3 (fun W : World => Hid (VW W ∧ Below w.heap.size w W) ∧ W.cell? ⟨w.heap.size, 1, none⟩ = some (.int .i64 M) ∧ W.cell? ⟨w.heap.size, 2, none⟩ = some (.int .i64 D) ∧ W.cell? ⟨w.heap.size, 3, none⟩ = some (.int .i64 h) ∧ W.cell? ⟨w.heap.size, 4, none⟩ = some (.int .i64 m) ∧ W.cell? ⟨w.heap.size, 5, none⟩ = some (.int .i64 s)) (first | exact hSd | assumption) (first | (go_at_call 26; refine (HTW.out _ _ (by omega) (by omega) (by assumption)).mono ?_; rintro e w6 ⟨rfl, hS6⟩))
      go_wp2_with fail
      go_ret
      exact ⟨congrArg (fun x => Ending.returned (Value.string x)) (HT.out.trans HP.out), hS6.1.out.2⟩
end Go.Proofs.YtkjglhehlkjfgaaDoor.Hand
