/- The chapter's example: alive. -/
import Derived.Test.YtkjglhehlkjfgaaDoorHandF
set_option linter.unusedVariables false
set_option linter.unusedSimpArgs false
namespace Go.Proofs.YtkjglhehlkjfgaaDoor.Hand
open Go.RowKit Go.Proofs.YtkjglhehlkjfgaaDoor.Civ
def litS : ByteArray := ⟨#[50, 48, 48, 48, 45, 48, 50, 45, 50, 57, 32, 48, 48, 58, 48, 48, 58, 48, 48]⟩
theorem Parsed.inj {s : ByteArray} {Y Y' : Int} {a b c d e a' b' c' d' e' : Nat} (h : Parsed s Y a b c d e) (h' : Parsed s Y' a' b' c' d' e') : Y = Y' ∧ a = a' ∧ b = b' ∧ c = c' ∧ d = d' ∧ e = e' := by
  obtain ⟨_, h1, h2, h3, h4, h5, h6, _⟩ := h
  obtain ⟨_, k1, k2, k3, k4, k5, k6, _⟩ := h'
  exact ⟨Option.some.inj (h1.symm.trans k1), Option.some.inj (h2.symm.trans k2), Option.some.inj (h3.symm.trans k3), Option.some.inj (h4.symm.trans k4), Option.some.inj (h5.symm.trans k5), Option.some.inj (h6.symm.trans k6)⟩
theorem dd2000 : Lib.decDigits 2000 = [50, 48, 48, 48] := by simp [Lib.decDigits]
theorem dd1970 : Lib.decDigits 1970 = [49, 57, 55, 48] := by simp [Lib.decDigits]
theorem text2000 : textV 2000 2 29 0 0 0 = litS := by
  have hr : rightB 2000 2 29 0 0 0 = true := by decide
  unfold textV
  rw [hr, if_pos rfl]
  unfold textL signL absL
  rw [show ((2000 : Int).natAbs) = 2000 from rfl, dd2000, twoL_eq 2 (by decide) (by decide), twoL_eq 29 (by decide) (by decide), twoL_eq 0 (by decide) (by decide)]
  rfl
theorem text1970 : textV 1970 1 1 0 0 0 = ⟨#[49, 57, 55, 48, 45, 48, 49, 45, 48, 49, 32, 48, 48, 58, 48, 48, 58, 48, 48]⟩ := by
  have hr : rightB 1970 1 1 0 0 0 = true := by decide
  unfold textV
  rw [hr, if_pos rfl]
  unfold textL signL absL
  rw [show ((1970 : Int).natAbs) = 1970 from rfl, dd1970, twoL_eq 1 (by decide) (by decide), twoL_eq 0 (by decide) (by decide)]
  rfl
theorem parsed2000 : Parsed litS 2000 2 29 0 0 0 := ⟨by decide, by decide +kernel, by decide +kernel, by decide +kernel, by decide +kernel, by decide +kernel, by decide +kernel, text2000⟩
theorem sec2000 : secV 2000 2 29 0 0 0 = .tuple #[.int .i64 951782400, .int .u8 0] := by
  have hr : rightB 2000 2 29 0 0 0 = true := by decide
  have ht : totalS 2000 2 29 0 0 0 = 951782400 := by decide
  unfold secV
  rw [if_neg (by simp [hr]), ht, if_pos (by decide)]
theorem of1970 : dateOf 0 = .agg #[.int .i64 1970, .int .i64 1, .int .i64 1, .int .i64 0, .int .i64 0, .int .i64 0] := by
  have h1 : ofY (0 / 86400) = 1970 := by decide
  have h2 : ofM (0 / 86400) = 1 := by decide
  have h3 : ofD (0 / 86400) = 1 := by decide
  unfold dateOf
  rw [h1, h2, h3]
  rfl
theorem parse_lit (w : World) (hV : VW w) : Calls Tryd.prog 18 #[.string litS] w (RetB (.tuple #[.agg #[.int .i64 2000, .int .i64 2, .int .i64 29, .int .i64 0, .int .i64 0, .int .i64 0], .int .u8 0]) w) := by
  refine (parse_calls litS (by decide) w hV).mono ?_
  rintro e w' ⟨hb, ⟨Y, a, b, c, d, f, hp, rfl⟩ | ⟨hno, _⟩⟩
  · obtain ⟨rfl, rfl, rfl, rfl, rfl, rfl⟩ := hp.inj parsed2000
    exact ⟨rfl, hb⟩
  · exact absurd parsed2000 (hno _ _ _ _ _ _)
set_option maxRecDepth 100000 in
set_option maxHeartbeats 4000000 in
theorem alive_calls (w : World) (hV : VW w) : Calls Tryd.prog 7 #[] w (RetB (.bool true) w) := by
  have HC := Lib.hid (parse_lit w hV)
  unfold litS at HC
  have HV := Lib.hid hV
  clear hV
  go_enter Tryd.func7, Tryd.ntmps7
  go_wp2_with fail
  (with_reducible refine HC.out.mono ?_)
  rintro e w1 ⟨rfl, hb1⟩
  have HB1 := Lib.hid (hb1.trans ((Below.refl w1.heap.size w1).alloc (Nat.le_refl _) (.cells #[.int .i64 2000, .int .i64 2, .int .i64 29, .int .i64 0, .int .i64 0, .int .i64 0] 23) |>.mono hb1.size))
  clear HC hb1
  have hs := seconds_calls 2000 2 29 0 0 0 (w1.alloc (.cells #[.int .i64 2000, .int .i64 2, .int .i64 29, .int .i64 0, .int .i64 0, .int .i64 0] 23)) (by decide) (by decide)
  rw [sec2000] at hs
  have HS := Lib.hid hs
  clear hs
  go_wp2_with fail
  (with_reducible refine HS.out.mono ?_)
  rintro e w2 ⟨rfl, hb2⟩
  have HB2 := Lib.hid (HB1.out.trans (hb2.mono HB1.out.size))
  have HO := of_calls 0 w2 (by decide) (by decide)
  rw [of1970] at HO
  have HO := Lib.hid HO
  clear hb2 HB1 HS
  go_wp2_with fail
  (with_reducible refine HO.out.mono ?_)
  rintro e w3 ⟨rfl, hb3⟩
  have HB3 := Lib.hid (HB2.out.trans (hb3.mono HB2.out.size))
  have ht := text_calls 1970 1 1 0 0 0 w3 (HV.out.below HB3.out) (by decide) (by decide)
  rw [text1970] at ht
  have HT := Lib.hid ht
  clear ht hb3 HB2 HO
  go_wp2_with fail
  (with_reducible refine HT.out.mono ?_)
  rintro e w4 ⟨rfl, hb4⟩
  have HB4 := Lib.hid (HB3.out.trans (hb4.mono HB3.out.size))
  clear hb4 HB3 HT
  go_wp2_with fail
  go_ret
  exact ⟨rfl, HB4.out⟩
end Go.Proofs.YtkjglhehlkjfgaaDoor.Hand
