/- A second's date, by its day and its rest. -/
import Derived.Test.YtkjglhehlkjfgaaDoorHandD
set_option linter.unusedVariables false
set_option linter.unusedSimpArgs false
namespace Go.Proofs.YtkjglhehlkjfgaaDoor.Hand
open Go.RowKit Go.Proofs.YtkjglhehlkjfgaaDoor.Civ
/-- The date of a second, piece by piece. -/
structure IsDate (sec Y M D h m s : Int) : Prop where
  date : dateOf sec = .agg #[.int .i64 Y, .int .i64 M, .int .i64 D, .int .i64 h, .int .i64 m, .int .i64 s]
  r3 : Right3 Y M D
  day : dayNo Y M D = sec / 86400
  rest : h * 3600 + m * 60 + s = sec % 86400
  h0 : 0 ≤ h
  h1 : h < 24
  m0 : 0 ≤ m
  m1 : m < 60
  s0 : 0 ≤ s
  s1 : s < 60
theorem isDate (sec : Int) : ∃ Y M D h m s, IsDate sec Y M D h m s := by
  have := of_day (sec / 86400)
  refine ⟨ofY (sec / 86400), ofM (sec / 86400), ofD (sec / 86400), sec % 86400 / 3600, sec % 86400 / 60 % 60, sec % 86400 % 60, rfl, this.1, this.2, ?_, ?_, ?_, ?_, ?_, ?_, ?_⟩ <;> omega
/-- What has a second's day and rest is its date. -/
theorem isDate_of {sec Y M D h m s : Int} (r3 : Right3 Y M D) (hd : dayNo Y M D = sec / 86400) (hr : h * 3600 + m * 60 + s = sec % 86400) (h0 : 0 ≤ h) (h1 : h < 24) (m0 : 0 ≤ m) (m1 : m < 60) (s0 : 0 ≤ s) (s1 : s < 60) : IsDate sec Y M D h m s := by
  obtain ⟨k1, k2⟩ := of_day (sec / 86400)
  obtain ⟨e1, e2, e3⟩ := day_inj r3 k1 (hd.trans k2.symm)
  refine ⟨?_, r3, hd, hr, h0, h1, m0, m1, s0, s1⟩
  unfold dateOf dateV
  rw [← e1, ← e2, ← e3, ← hr]
  congr 1
  rw [show (h * 3600 + m * 60 + s) / 3600 = h by omega, show (h * 3600 + m * 60 + s) / 60 % 60 = m by omega, show (h * 3600 + m * 60 + s) % 60 = s by omega]
theorem IsDate.right {sec Y M D h m s : Int} (hd : IsDate sec Y M D h m s) : rightB Y M D h m s = true := (rightB_iff ..).2 ⟨hd.r3, hd.h0, hd.h1, hd.m0, hd.m1, hd.s0, hd.s1⟩
theorem IsDate.total {sec Y M D h m s : Int} (hd : IsDate sec Y M D h m s) : totalS Y M D h m s = sec := by
  unfold totalS
  rw [hd.day, hd.rest]
  omega
theorem IsDate.sec {sec Y M D h m s : Int} (hd : IsDate sec Y M D h m s) (h0 : -9223372036854775808 ≤ sec) (h1 : sec ≤ 9223372036854775807) : secV Y M D h m s = .tuple #[.int .i64 sec, .int .u8 0] := by
  unfold secV
  rw [if_neg (by simp [hd.right]), hd.total, if_pos ⟨h0, h1⟩]
theorem IsDate.year {sec Y M D h m s : Int} (hd : IsDate sec Y M D h m s) (h0 : -9223372036854775808 ≤ sec) (h1 : sec ≤ 9223372036854775807) : -292277026597 ≤ Y ∧ Y ≤ 292277026597 := by
  have h2 := hd.day
  have hf := first_bd (Y := Y) hd.r3.1 hd.r3.2.1
  have h3 := hd.r3.2.2.1
  have h4 := hd.r3.2.2.2
  have h5 := dpm_pos Y M hd.r3.1 hd.r3.2.1
  unfold dayNo at h2
  have : -106751991167301 ≤ sec / 86400 ∧ sec / 86400 ≤ 106751991167300 := by omega
  generalize sec / 86400 = n at h2 this
  constructor <;> omega
end Go.Proofs.YtkjglhehlkjfgaaDoor.Hand
