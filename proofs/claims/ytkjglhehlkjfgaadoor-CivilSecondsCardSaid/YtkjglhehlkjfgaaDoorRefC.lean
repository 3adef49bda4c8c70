/- The reference's text of a right date. Written by wip/c22/mkrc.py. -/
import Derived.Test.YtkjglhehlkjfgaaDoorRefB
import Derived.Test.YtkjglhehlkjfgaaDoorHandF
set_option linter.unusedVariables false
set_option linter.unusedSimpArgs false
namespace Go.Proofs.YtkjglhehlkjfgaaDoor.Hand
open Go.RowKit Go.Proofs.YtkjglhehlkjfgaaDoor.Civ
/-- The state in which the two digits are asked for. -/
theorem pad_S (b : Nat) (w : World) (M D h m s : Int) (n : Int) (W : World) (h0 : 0 ≤ n) (h1 : n < 100)
    (hS : Hid (Below w.heap.size w W) ∧ W.cell? ⟨b, 1, none⟩ = some (.int .i64 M) ∧ W.cell? ⟨b, 2, none⟩ = some (.int .i64 D) ∧ W.cell? ⟨b, 3, none⟩ = some (.int .i64 h) ∧ W.cell? ⟨b, 4, none⟩ = some (.int .i64 m) ∧ W.cell? ⟨b, 5, none⟩ = some (.int .i64 s)) :
    Calls Tryd.prog 29 #[.int .i64 n, .int .i64 2] W fun e W' => e = .returned (.string (twoS n)) ∧ Hid (Below w.heap.size w W') ∧ W'.cell? ⟨b, 1, none⟩ = some (.int .i64 M) ∧ W'.cell? ⟨b, 2, none⟩ = some (.int .i64 D) ∧ W'.cell? ⟨b, 3, none⟩ = some (.int .i64 h) ∧ W'.cell? ⟨b, 4, none⟩ = some (.int .i64 m) ∧ W'.cell? ⟨b, 5, none⟩ = some (.int .i64 s) := by
  obtain ⟨hv, c1, c2, c3, c4, c5⟩ := hS
  refine (pad_calls n 2 W h0 (by omega) (by decide)).mono ?_
  rintro e W' ⟨rfl, hb⟩
  rw [pad2 n h0 h1]
  exact ⟨rfl, Lib.hid (hv.out.trans (hb.mono hv.out.size)), cell_keep hb c1, cell_keep hb c2, cell_keep hb c3, cell_keep hb c4, cell_keep hb c5⟩
def NegRel (D : List UInt8) (w : World) (n : Nat) (v3 : Value) (wr : World) : Prop :=
  ∃ j : Nat, v3 = .string ⟨(List.replicate j 48 ++ D).toArray⟩ ∧ j + n = 4 - D.length ∧ w = wr
set_option maxRecDepth 100000 in
set_option maxHeartbeats 4000000 in
theorem text22_calls (Y M D h m s : Int) (w : World) (hY0 : -9223372036854775808 ≤ Y) (hY1 : Y ≤ 9223372036854775807) (hr : rightB Y M D h m s = true) : Calls Tryd.prog 17 #[.agg #[.int .i64 Y, .int .i64 M, .int .i64 D, .int .i64 h, .int .i64 m, .int .i64 s]] w (RetB (.string (textV Y M D h m s)) w) := by
  have hR := (rightB_iff Y M D h m s).1 hr
  obtain ⟨⟨a1, a2, a3, a4⟩, b1, b2, b3, b4, b5, b6⟩ := hR
  have hdm := dpm_pos Y M a1 a2
  have HP := Lib.hid (show ⟨(textL Y M D h m s).toArray⟩ = textV Y M D h m s by unfold textV; rw [hr]; rfl)
  have hD31 : D < 100 := by omega
  have hb0 := (Below.refl w.heap.size w).alloc (Nat.le_refl _) (.cells #[.int .i64 Y, .int .i64 M, .int .i64 D, .int .i64 h, .int .i64 m, .int .i64 s] 32)
  have hcl := heap_alloc_new w (.cells #[.int .i64 Y, .int .i64 M, .int .i64 D, .int .i64 h, .int .i64 m, .int .i64 s] 32)
  have HL := Lib.hid (decLen Y hY0 hY1)
  have HB0 := Lib.hid hb0
  have HCL := Lib.hid hcl
  clear hr hdm a4 hb0 hcl
  by_cases hy : Y < 0
  · have dy : decide (Y < 0) = true := decide_eq_true hy
    have hT4 := text04_calls Y (w.alloc (.cells #[.int .i64 Y, .int .i64 M, .int .i64 D, .int .i64 h, .int .i64 m, .int .i64 s] 32)) hY0 hY1
    have hi : Lib.itoa Y = 45 :: Lib.decDigits Y.natAbs := by unfold Lib.itoa; rw [if_pos hy]
    have ht := bs_tail (Lib.itoa Y)
    rw [show (⟨(Lib.itoa Y).tail.toArray⟩ : ByteArray) = ⟨(List.replicate 0 48 ++ Lib.decDigits Y.natAbs).toArray⟩ by rw [hi]; rfl] at ht
    have hl : 1 ≤ (⟨(Lib.itoa Y).toArray⟩ : ByteArray).size := by rw [hi]; simp [ByteArray.size]
    unfold numS at hT4
    generalize (⟨(Lib.itoa Y).toArray⟩ : ByteArray) = S0 at ht hl hT4
    have HYS := Lib.hid (show signL Y ++ absL Y = 45 :: (List.replicate (4 - (Lib.decDigits Y.natAbs).length) 48 ++ Lib.decDigits Y.natAbs) by unfold signL absL; rw [if_pos hy]; rfl)
    have hdl := HL.out
    generalize Lib.decDigits Y.natAbs = DD at ht HYS hdl
    obtain ⟨S1, hS1⟩ : ∃ S1, S1 = (⟨(List.replicate 0 48 ++ DD).toArray⟩ : ByteArray) := ⟨_, rfl⟩
    rw [← hS1] at ht
    have hs : ∀ W : World, (Instr.slice 9 (.string S0) (some (.int .i64 1)) none none).run Tryd.prog W = .ok (.string S1) W := fun W => by
      rw [← ht]
      exact run_slice_string_l W 9 S0 Tryd.underlying9 .i64 1 (by omega) (by omega)
    have HT4 := Lib.hid hT4
    have HS1 := Lib.hid hS1
    clear hT4 hi ht hS1
    go_enter Tryd.func17, Tryd.ntmps17
    go_wp2_with fail
    (with_reducible refine HT4.out.mono ?_)
    rintro e w2 ⟨rfl, hb⟩
    have HC2 := Lib.hid ((hb.block _ (by simp)).trans HCL.out)
    have HB2 := Lib.hid (HB0.out.trans (hb.mono HB0.out.size))
    clear hb HT4
    go_wp2_with fail
    go_loopg [3] (4 - DD.length) (fun n v3 wr => NegRel DD w2 n v3 wr)
    case atStart => exact ⟨0, congrArg Value.string HS1.out, by omega, rfl⟩
    case round =>
      obtain ⟨j, rfl, hj, rfl⟩ := hrel
      have hsz : (⟨(List.replicate j 48 ++ DD).toArray⟩ : ByteArray).size = j + DD.length := by
        show (List.replicate j (48 : UInt8) ++ DD).toArray.size = _
        rw [List.size_toArray, List.length_append, List.length_replicate]
      have hnext := pad_step (List.replicate j 48 ++ DD)
      rw [show (48 :: (List.replicate j 48 ++ DD) : List UInt8) = List.replicate (j + 1) 48 ++ DD by rw [List.replicate_succ]; rfl] at hnext
      have hfin := Lib.hid (show j = 4 - DD.length → (⟨#[45]⟩ : ByteArray) ++ (⟨(List.replicate j 48 ++ DD).toArray⟩ : ByteArray) = ⟨(signL Y ++ absL Y).toArray⟩ from fun h => by
        rw [HYS.out, h, show (⟨#[45]⟩ : ByteArray) = ⟨[45].toArray⟩ from rfl, bs_app]
        rfl)
      generalize hS : (⟨(List.replicate j 48 ++ DD).toArray⟩ : ByteArray) = S at hsz hnext hfin ⊢
      clear hS
      by_cases hlt : S.size < 4
      · have hl1 : decide (S.size < 4) = true := decide_eq_true hlt
        have hl2 : decide ((S.size : Int) < 4) = true := decide_eq_true (by omega)
        obtain ⟨T, hT⟩ : ∃ T, T = (⟨#[48]⟩ : ByteArray) ++ S := ⟨_, rfl⟩
        have hst : ∀ W : World, (Op.stringOp .add ⟨#[48]⟩ S).run Tryd.prog W = .ok (.string T) W := fun W => by rw [hT]; exact run_string_add_sum W _ _ (by rw [show (⟨#[48]⟩ : ByteArray).size = 1 from rfl]; omega)
        have HT := Lib.hid (hT.trans hnext)
        have HSZ := Lib.hid hsz
        clear hT hnext hsz
        go_wp2_with fail
        go_roundg (gk - 1)
        case rel => exact ⟨j + 1, congrArg Value.string HT.out, by have := HSZ.out; omega, rfl⟩
        case measure => have := HSZ.out; omega
      · have hl1 : decide (S.size < 4) = false := decide_eq_false hlt
        have hl2 : decide ((S.size : Int) < 4) = false := decide_eq_false (by omega)
        obtain ⟨yr, hyr⟩ : ∃ yr, yr = (⟨#[45]⟩ : ByteArray) ++ S := ⟨_, rfl⟩
        have hyz : yr.size ≤ 30 := by rw [hyr, ByteArray.size_append, show (⟨#[45]⟩ : ByteArray).size = 1 from rfl]; omega
        have hsy : ∀ W : World, (Op.stringOp .add ⟨#[45]⟩ S).run Tryd.prog W = .ok (.string yr) W := fun W => by rw [hyr]; exact run_string_add_sum W _ _ (by rw [show (⟨#[45]⟩ : ByteArray).size = 1 from rfl]; omega)
        have HYR := Lib.hid (hyr.trans (hfin.out (by omega)))
        have HB4 := HB2
        have HC4 := HC2
        clear hnext hsz hfin hyr
        go_upto_region 8 with (fail)
        have z2 := twoS_size M (by omega) (by omega)
        have z4 := twoS_size D (by omega) (by omega)
        have z6 := twoS_size h (by omega) (by omega)
        have z8 := twoS_size m (by omega) (by omega)
        have z10 := twoS_size s (by omega) (by omega)
        obtain ⟨t1, ht1⟩ : ∃ t : ByteArray, t = (yr : ByteArray) ++ (⟨#[45]⟩ : ByteArray) := ⟨_, rfl⟩
        have s1 : t1.size = (yr : ByteArray).size + 1 := by rw [ht1, ByteArray.size_append] <;> exact congrArg ((yr : ByteArray).size + ·) (rfl)
        have q1 : ∀ W : World, (Op.stringOp .add yr ⟨#[45]⟩).run Tryd.prog W = .ok (.string t1) W := fun W => by rw [ht1]; exact run_string_add_sum W _ _ (by show _ + 1 ≤ _; omega)
        obtain ⟨t2, ht2⟩ : ∃ t : ByteArray, t = (t1 : ByteArray) ++ ((twoS M) : ByteArray) := ⟨_, rfl⟩
        have s2 : t2.size = (t1 : ByteArray).size + 2 := by rw [ht2, ByteArray.size_append] <;> exact congrArg ((t1 : ByteArray).size + ·) (z2)
        have q2 : ∀ W : World, (Op.stringOp .add t1 (twoS M)).run Tryd.prog W = .ok (.string t2) W := fun W => by rw [ht2]; exact run_string_add_sum W _ _ (by first | (rw [z2]; omega) | (show _ + 1 ≤ _; omega))
        obtain ⟨t3, ht3⟩ : ∃ t : ByteArray, t = (t2 : ByteArray) ++ (⟨#[45]⟩ : ByteArray) := ⟨_, rfl⟩
        have s3 : t3.size = (t2 : ByteArray).size + 1 := by rw [ht3, ByteArray.size_append] <;> exact congrArg ((t2 : ByteArray).size + ·) (rfl)
        have q3 : ∀ W : World, (Op.stringOp .add t2 ⟨#[45]⟩).run Tryd.prog W = .ok (.string t3) W := fun W => by rw [ht3]; exact run_string_add_sum W _ _ (by show _ + 1 ≤ _; omega)
        obtain ⟨t4, ht4⟩ : ∃ t : ByteArray, t = (t3 : ByteArray) ++ ((twoS D) : ByteArray) := ⟨_, rfl⟩
        have s4 : t4.size = (t3 : ByteArray).size + 2 := by rw [ht4, ByteArray.size_append] <;> exact congrArg ((t3 : ByteArray).size + ·) (z4)
        have q4 : ∀ W : World, (Op.stringOp .add t3 (twoS D)).run Tryd.prog W = .ok (.string t4) W := fun W => by rw [ht4]; exact run_string_add_sum W _ _ (by first | (rw [z4]; omega) | (show _ + 1 ≤ _; omega))
        obtain ⟨t5, ht5⟩ : ∃ t : ByteArray, t = (t4 : ByteArray) ++ (⟨#[32]⟩ : ByteArray) := ⟨_, rfl⟩
        have s5 : t5.size = (t4 : ByteArray).size + 1 := by rw [ht5, ByteArray.size_append] <;> exact congrArg ((t4 : ByteArray).size + ·) (rfl)
        have q5 : ∀ W : World, (Op.stringOp .add t4 ⟨#[32]⟩).run Tryd.prog W = .ok (.string t5) W := fun W => by rw [ht5]; exact run_string_add_sum W _ _ (by show _ + 1 ≤ _; omega)
        obtain ⟨t6, ht6⟩ : ∃ t : ByteArray, t = (t5 : ByteArray) ++ ((twoS h) : ByteArray) := ⟨_, rfl⟩
        have s6 : t6.size = (t5 : ByteArray).size + 2 := by rw [ht6, ByteArray.size_append] <;> exact congrArg ((t5 : ByteArray).size + ·) (z6)
        have q6 : ∀ W : World, (Op.stringOp .add t5 (twoS h)).run Tryd.prog W = .ok (.string t6) W := fun W => by rw [ht6]; exact run_string_add_sum W _ _ (by first | (rw [z6]; omega) | (show _ + 1 ≤ _; omega))
        obtain ⟨t7, ht7⟩ : ∃ t : ByteArray, t = (t6 : ByteArray) ++ (⟨#[58]⟩ : ByteArray) := ⟨_, rfl⟩
        have s7 : t7.size = (t6 : ByteArray).size + 1 := by rw [ht7, ByteArray.size_append] <;> exact congrArg ((t6 : ByteArray).size + ·) (rfl)
        have q7 : ∀ W : World, (Op.stringOp .add t6 ⟨#[58]⟩).run Tryd.prog W = .ok (.string t7) W := fun W => by rw [ht7]; exact run_string_add_sum W _ _ (by show _ + 1 ≤ _; omega)
        obtain ⟨t8, ht8⟩ : ∃ t : ByteArray, t = (t7 : ByteArray) ++ ((twoS m) : ByteArray) := ⟨_, rfl⟩
        have s8 : t8.size = (t7 : ByteArray).size + 2 := by rw [ht8, ByteArray.size_append] <;> exact congrArg ((t7 : ByteArray).size + ·) (z8)
        have q8 : ∀ W : World, (Op.stringOp .add t7 (twoS m)).run Tryd.prog W = .ok (.string t8) W := fun W => by rw [ht8]; exact run_string_add_sum W _ _ (by first | (rw [z8]; omega) | (show _ + 1 ≤ _; omega))
        obtain ⟨t9, ht9⟩ : ∃ t : ByteArray, t = (t8 : ByteArray) ++ (⟨#[58]⟩ : ByteArray) := ⟨_, rfl⟩
        have s9 : t9.size = (t8 : ByteArray).size + 1 := by rw [ht9, ByteArray.size_append] <;> exact congrArg ((t8 : ByteArray).size + ·) (rfl)
        have q9 : ∀ W : World, (Op.stringOp .add t8 ⟨#[58]⟩).run Tryd.prog W = .ok (.string t9) W := fun W => by rw [ht9]; exact run_string_add_sum W _ _ (by show _ + 1 ≤ _; omega)
        obtain ⟨t10, ht10⟩ : ∃ t : ByteArray, t = (t9 : ByteArray) ++ ((twoS s) : ByteArray) := ⟨_, rfl⟩
        have s10 : t10.size = (t9 : ByteArray).size + 2 := by rw [ht10, ByteArray.size_append] <;> exact congrArg ((t9 : ByteArray).size + ·) (z10)
        have q10 : ∀ W : World, (Op.stringOp .add t9 (twoS s)).run Tryd.prog W = .ok (.string t10) W := fun W => by rw [ht10]; exact run_string_add_sum W _ _ (by first | (rw [z10]; omega) | (show _ + 1 ≤ _; omega))
        have HT := Lib.hid (show t10 = ⟨(textL Y M D h m s).toArray⟩ by
          rw [ht10, ht9, ht8, ht7, ht6, ht5, ht4, ht3, ht2, ht1, HYR.out]
          unfold textL twoS
          rw [show (⟨#[45]⟩ : ByteArray) = ⟨[45].toArray⟩ from rfl, show (⟨#[32]⟩ : ByteArray) = ⟨[32].toArray⟩ from rfl, show (⟨#[58]⟩ : ByteArray) = ⟨[58].toArray⟩ from rfl]
          simp only [bs_app])
        clear ht1 s1 ht2 s2 ht3 s3 ht4 s4 ht5 s5 ht6 s6 ht7 s7 ht8 s8 ht9 s9 ht10 s10 z2 z4 z6 z8 z10
        have HTW := Lib.hid (pad_S w.heap.size w M D h m s)
        have hbd : Below w2.heap.size w2 w2.drew := ⟨rfl, rfl, rfl, Nat.le_refl _, fun _ _ => rfl⟩
        obtain ⟨k0, k1, k2, k3, k4, k5⟩ := six_cells HC4.out
        have hSd := And.intro (Lib.hid (HB4.out.trans (hbd.mono HB4.out.size))) (And.intro (cell_keep hbd k1) (And.intro (cell_keep hbd k2) (And.intro (cell_keep hbd k3) (And.intro (cell_keep hbd k4) (cell_keep hbd k5)))))
        clear hbd HB4 HC4 k0 k1 k2 k3 k4 k5 hyz
        go_region_held3 (fun W : World => Hid (Below w.heap.size w W) ∧ W.cell? ⟨w.heap.size, 1, none⟩ = some (.int .i64 M) ∧ W.cell? ⟨w.heap.size, 2, none⟩ = some (.int .i64 D) ∧ W.cell? ⟨w.heap.size, 3, none⟩ = some (.int .i64 h) ∧ W.cell? ⟨w.heap.size, 4, none⟩ = some (.int .i64 m) ∧ W.cell? ⟨w.heap.size, 5, none⟩ = some (.int .i64 s)) (first | exact hSd | assumption) (first | (go_at_call 29; (with_reducible refine (HTW.out _ _ (by omega) (by omega) (by assumption)).mono ?_); rintro e w6 ⟨rfl, hS6⟩))
        go_wp2_with fail
        go_ret
        exact ⟨congrArg (fun x => Ending.returned (Value.string x)) (HT.out.trans HP.out), hS6.1.out⟩
  · have dy : decide (Y < 0) = false := decide_eq_false hy
    have hpc : Calls Tryd.prog 29 #[.int .i64 Y, .int .i64 4] (w.alloc (.cells #[.int .i64 Y, .int .i64 M, .int .i64 D, .int .i64 h, .int .i64 m, .int .i64 s] 32)) (RetB (.string ⟨(padL Y 4).toArray⟩) (w.alloc (.cells #[.int .i64 Y, .int .i64 M, .int .i64 D, .int .i64 h, .int .i64 m, .int .i64 s] 32))) := pad_calls Y 4 _ (by omega) hY1 (by decide)
    have hys : signL Y ++ absL Y = padL Y 4 := by unfold signL absL padL; rw [if_neg hy, show Y.natAbs = Y.toNat by omega]; rfl
    obtain ⟨yr, hyr⟩ : ∃ yr, yr = (⟨(padL Y 4).toArray⟩ : ByteArray) := ⟨_, rfl⟩
    have hyz : yr.size ≤ 30 := by
      rw [hyr]
      show (padL Y 4).toArray.size ≤ 30
      rw [List.size_toArray]
      unfold padL
      rw [List.length_append, List.length_replicate]
      have := HL.out
      rw [show Y.natAbs = Y.toNat by omega] at this
      omega
    rw [← hyr] at hpc
    have HPC := Lib.hid hpc
    have HYR := Lib.hid (show yr = ⟨(signL Y ++ absL Y).toArray⟩ by rw [hyr, hys])
    clear hpc hys hyr
    go_enter Tryd.func17, Tryd.ntmps17
    go_wp2_with fail
    (with_reducible refine HPC.out.mono ?_)
    rintro e w2 ⟨rfl, hb⟩
    have HC4 := Lib.hid ((hb.block _ (by simp)).trans HCL.out)
    have HB4 := Lib.hid (HB0.out.trans (hb.mono HB0.out.size))
    clear hb HPC
    go_upto_region 8 with (fail)
    have z2 := twoS_size M (by omega) (by omega)
    have z4 := twoS_size D (by omega) (by omega)
    have z6 := twoS_size h (by omega) (by omega)
    have z8 := twoS_size m (by omega) (by omega)
    have z10 := twoS_size s (by omega) (by omega)
    obtain ⟨t1, ht1⟩ : ∃ t : ByteArray, t = (yr : ByteArray) ++ (⟨#[45]⟩ : ByteArray) := ⟨_, rfl⟩
    have s1 : t1.size = (yr : ByteArray).size + 1 := by rw [ht1, ByteArray.size_append] <;> exact congrArg ((yr : ByteArray).size + ·) (rfl)
    have q1 : ∀ W : World, (Op.stringOp .add yr ⟨#[45]⟩).run Tryd.prog W = .ok (.string t1) W := fun W => by rw [ht1]; exact run_string_add_sum W _ _ (by show _ + 1 ≤ _; omega)
    obtain ⟨t2, ht2⟩ : ∃ t : ByteArray, t = (t1 : ByteArray) ++ ((twoS M) : ByteArray) := ⟨_, rfl⟩
    have s2 : t2.size = (t1 : ByteArray).size + 2 := by rw [ht2, ByteArray.size_append] <;> exact congrArg ((t1 : ByteArray).size + ·) (z2)
    have q2 : ∀ W : World, (Op.stringOp .add t1 (twoS M)).run Tryd.prog W = .ok (.string t2) W := fun W => by rw [ht2]; exact run_string_add_sum W _ _ (by first | (rw [z2]; omega) | (show _ + 1 ≤ _; omega))
    obtain ⟨t3, ht3⟩ : ∃ t : ByteArray, t = (t2 : ByteArray) ++ (⟨#[45]⟩ : ByteArray) := ⟨_, rfl⟩
    have s3 : t3.size = (t2 : ByteArray).size + 1 := by rw [ht3, ByteArray.size_append] <;> exact congrArg ((t2 : ByteArray).size + ·) (rfl)
    have q3 : ∀ W : World, (Op.stringOp .add t2 ⟨#[45]⟩).run Tryd.prog W = .ok (.string t3) W := fun W => by rw [ht3]; exact run_string_add_sum W _ _ (by show _ + 1 ≤ _; omega)
    obtain ⟨t4, ht4⟩ : ∃ t : ByteArray, t = (t3 : ByteArray) ++ ((twoS D) : ByteArray) := ⟨_, rfl⟩
    have s4 : t4.size = (t3 : ByteArray).size + 2 := by rw [ht4, ByteArray.size_append] <;> exact congrArg ((t3 : ByteArray).size + ·) (z4)
    have q4 : ∀ W : World, (Op.stringOp .add t3 (twoS D)).run Tryd.prog W = .ok (.string t4) W := fun W => by rw [ht4]; exact run_string_add_sum W _ _ (by first | (rw [z4]; omega) | (show _ + 1 ≤ _; omega))
    obtain ⟨t5, ht5⟩ : ∃ t : ByteArray, t = (t4 : ByteArray) ++ (⟨#[32]⟩ : ByteArray) := ⟨_, rfl⟩
    have s5 : t5.size = (t4 : ByteArray).size + 1 := by rw [ht5, ByteArray.size_append] <;> exact congrArg ((t4 : ByteArray).size + ·) (rfl)
    have q5 : ∀ W : World, (Op.stringOp .add t4 ⟨#[32]⟩).run Tryd.prog W = .ok (.string t5) W := fun W => by rw [ht5]; exact run_string_add_sum W _ _ (by show _ + 1 ≤ _; omega)
    obtain ⟨t6, ht6⟩ : ∃ t : ByteArray, t = (t5 : ByteArray) ++ ((twoS h) : ByteArray) := ⟨_, rfl⟩
    have s6 : t6.size = (t5 : ByteArray).size + 2 := by rw [ht6, ByteArray.size_append] <;> exact congrArg ((t5 : ByteArray).size + ·) (z6)
    have q6 : ∀ W : World, (Op.stringOp .add t5 (twoS h)).run Tryd.prog W = .ok (.string t6) W := fun W => by rw [ht6]; exact run_string_add_sum W _ _ (by first | (rw [z6]; omega) | (show _ + 1 ≤ _; omega))
    obtain ⟨t7, ht7⟩ : ∃ t : ByteArray, t = (t6 : ByteArray) ++ (⟨#[58]⟩ : ByteArray) := ⟨_, rfl⟩
    have s7 : t7.size = (t6 : ByteArray).size + 1 := by rw [ht7, ByteArray.size_append] <;> exact congrArg ((t6 : ByteArray).size + ·) (rfl)
    have q7 : ∀ W : World, (Op.stringOp .add t6 ⟨#[58]⟩).run Tryd.prog W = .ok (.string t7) W := fun W => by rw [ht7]; exact run_string_add_sum W _ _ (by show _ + 1 ≤ _; omega)
    obtain ⟨t8, ht8⟩ : ∃ t : ByteArray, t = (t7 : ByteArray) ++ ((twoS m) : ByteArray) := ⟨_, rfl⟩
    have s8 : t8.size = (t7 : ByteArray).size + 2 := by rw [ht8, ByteArray.size_append] <;> exact congrArg ((t7 : ByteArray).size + ·) (z8)
    have q8 : ∀ W : World, (Op.stringOp .add t7 (twoS m)).run Tryd.prog W = .ok (.string t8) W := fun W => by rw [ht8]; exact run_string_add_sum W _ _ (by first | (rw [z8]; omega) | (show _ + 1 ≤ _; omega))
    obtain ⟨t9, ht9⟩ : ∃ t : ByteArray, t = (t8 : ByteArray) ++ (⟨#[58]⟩ : ByteArray) := ⟨_, rfl⟩
    have s9 : t9.size = (t8 : ByteArray).size + 1 := by rw [ht9, ByteArray.size_append] <;> exact congrArg ((t8 : ByteArray).size + ·) (rfl)
    have q9 : ∀ W : World, (Op.stringOp .add t8 ⟨#[58]⟩).run Tryd.prog W = .ok (.string t9) W := fun W => by rw [ht9]; exact run_string_add_sum W _ _ (by show _ + 1 ≤ _; omega)
    obtain ⟨t10, ht10⟩ : ∃ t : ByteArray, t = (t9 : ByteArray) ++ ((twoS s) : ByteArray) := ⟨_, rfl⟩
    have s10 : t10.size = (t9 : ByteArray).size + 2 := by rw [ht10, ByteArray.size_append] <;> exact congrArg ((t9 : ByteArray).size + ·) (z10)
    have q10 : ∀ W : World, (Op.stringOp .add t9 (twoS s)).run Tryd.prog W = .ok (.string t10) W := fun W => by rw [ht10]; exact run_string_add_sum W _ _ (by first | (rw [z10]; omega) | (show _ + 1 ≤ _; omega))
    have HT := Lib.hid (show t10 = ⟨(textL Y M D h m s).toArray⟩ by
      rw [ht10, ht9, ht8, ht7, ht6, ht5, ht4, ht3, ht2, ht1, HYR.out]
      unfold textL twoS
      rw [show (⟨#[45]⟩ : ByteArray) = ⟨[45].toArray⟩ from rfl, show (⟨#[32]⟩ : ByteArray) = ⟨[32].toArray⟩ from rfl, show (⟨#[58]⟩ : ByteArray) = ⟨[58].toArray⟩ from rfl]
      simp only [bs_app])
    clear ht1 s1 ht2 s2 ht3 s3 ht4 s4 ht5 s5 ht6 s6 ht7 s7 ht8 s8 ht9 s9 ht10 s10 z2 z4 z6 z8 z10
    have HTW := Lib.hid (pad_S w.heap.size w M D h m s)
    have hbd : Below w2.heap.size w2 w2.drew := ⟨rfl, rfl, rfl, Nat.le_refl _, fun _ _ => rfl⟩
    obtain ⟨k0, k1, k2, k3, k4, k5⟩ := six_cells HC4.out
    have hSd := And.intro (Lib.hid (HB4.out.trans (hbd.mono HB4.out.size))) (And.intro (cell_keep hbd k1) (And.intro (cell_keep hbd k2) (And.intro (cell_keep hbd k3) (And.intro (cell_keep hbd k4) (cell_keep hbd k5)))))
    clear hbd HB4 HC4 k0 k1 k2 k3 k4 k5 hyz
    go_region_held3 (fun W : World => Hid (Below w.heap.size w W) ∧ W.cell? ⟨w.heap.size, 1, none⟩ = some (.int .i64 M) ∧ W.cell? ⟨w.heap.size, 2, none⟩ = some (.int .i64 D) ∧ W.cell? ⟨w.heap.size, 3, none⟩ = some (.int .i64 h) ∧ W.cell? ⟨w.heap.size, 4, none⟩ = some (.int .i64 m) ∧ W.cell? ⟨w.heap.size, 5, none⟩ = some (.int .i64 s)) (first | exact hSd | assumption) (first | (go_at_call 29; (with_reducible refine (HTW.out _ _ (by omega) (by omega) (by assumption)).mono ?_); rintro e w6 ⟨rfl, hS6⟩))
    go_wp2_with fail
    go_ret
    exact ⟨congrArg (fun x => Ending.returned (Value.string x)) (HT.out.trans HP.out), hS6.1.out⟩
end Go.Proofs.YtkjglhehlkjfgaaDoor.Hand
