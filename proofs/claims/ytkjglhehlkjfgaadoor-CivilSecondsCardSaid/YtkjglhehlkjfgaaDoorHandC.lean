/- The date of a second: Of. -/
import Derived.Test.YtkjglhehlkjfgaaDoorHandA
import Derived.Deep.Cut
import Derived.Laws.Rows
import Derived.Lib.SmallJoins
import Derived.Deep.CutRange
set_option linter.unusedVariables false
set_option linter.unusedSimpArgs false
namespace Go.Proofs.YtkjglhehlkjfgaaDoor.Hand
open Go.RowKit Go.Proofs.YtkjglhehlkjfgaaDoor.Civ
theorem six_set {W : World} {g : Nat} {v0 v1 v2 v3 v4 v5 : Value} {t : TypeId} (h : W.heap[g]? = some (.cells #[v0, v1, v2, v3, v4, v5] t (0, 0))) (u0 u1 u2 u3 u4 u5 : Value) :
    ((((((W.setCell ⟨g, 0, none⟩ u0).setCell ⟨g, 1, none⟩ u1).setCell ⟨g, 2, none⟩ u2).setCell ⟨g, 3, none⟩ u3).setCell ⟨g, 4, none⟩ u4).setCell ⟨g, 5, none⟩ u5).heap[g]? = some (.cells #[u0, u1, u2, u3, u4, u5] t (0, 0)) := by
  have h0 := Go.Joins.block_setCell (i := 0) h u0
  have h1 := Go.Joins.block_setCell (i := 1) h0 u1
  have h2 := Go.Joins.block_setCell (i := 2) h1 u2
  have h3 := Go.Joins.block_setCell (i := 3) h2 u3
  have h4 := Go.Joins.block_setCell (i := 4) h3 u4
  have h5 := Go.Joins.block_setCell (i := 5) h4 u5
  simpa using h5
theorem six_below {B : Nat} {w W : World} {g : Nat} (h : Below B w W) (hg : B ≤ g) (u0 u1 u2 u3 u4 u5 : Value) :
    Below B w ((((((W.setCell ⟨g, 0, none⟩ u0).setCell ⟨g, 1, none⟩ u1).setCell ⟨g, 2, none⟩ u2).setCell ⟨g, 3, none⟩ u3).setCell ⟨g, 4, none⟩ u4).setCell ⟨g, 5, none⟩ u5) :=
  (((((h.setCell hg _).setCell hg _).setCell hg _).setCell hg _).setCell hg _).setCell hg _
/-- A date's value. -/
def dateV (Y M D h m s : Int) : Value := .agg #[.int .i64 Y, .int .i64 M, .int .i64 D, .int .i64 h, .int .i64 m, .int .i64 s]
/-- The date of a second. -/
def dateOf (sec : Int) : Value := dateV (ofY (sec / 86400)) (ofM (sec / 86400)) (ofD (sec / 86400)) (sec % 86400 / 3600) (sec % 86400 / 60 % 60) (sec % 86400 % 60)
set_option maxRecDepth 100000 in
set_option maxHeartbeats 4000000 in
theorem of_calls (sec : Int) (w : World) (h0 : -9223372036854775808 ≤ sec) (h1 : sec ≤ 9223372036854775807) : Calls Tryd.prog 19 #[.int .i64 sec] w (RetB (dateOf sec) w) := by
  have hf := Lib.hid (floor_calls sec 86400 (w.alloc (.cells #[.int .i64 0, .int .i64 0, .int .i64 0, .int .i64 0, .int .i64 0, .int .i64 0] 23)) h0 h1 (by decide) (by decide))
  go_enter Tryd.func19, Tryd.ntmps19
  go_wp2_with fail
  (with_reducible refine hf.out.mono ?_)
  rintro e w1 ⟨rfl, n1, rfl⟩
  have hn : -106751991167301 ≤ sec / 86400 ∧ sec / 86400 ≤ 106751991167300 := by omega
  have hr : 0 ≤ sec % 86400 ∧ sec % 86400 < 86400 := by omega
  have HS := Lib.hid (show sec / 86400 = sec / 86400 ∧ sec % 86400 = sec % 86400 from ⟨rfl, rfl⟩)
  obtain ⟨n, hen⟩ : ∃ n, n = sec / 86400 := ⟨_, rfl⟩
  obtain ⟨r, her⟩ : ∃ r, r = sec % 86400 := ⟨_, rfl⟩
  simp only [← hen, ← her] at hn hr ⊢
  have HE := Lib.hid (And.intro hen her)
  clear hen her HS
  obtain ⟨hn0, hn1⟩ := hn
  obtain ⟨hr0, hr1⟩ := hr
  clear hf
  go_wp2_with fail
  (with_reducible refine (floor_calls (n + 719468) 146097 _ (by omega) (by omega) (by decide) (by decide)).mono ?_)
  rintro e w2 ⟨rfl, n2, rfl⟩
  have hd : 0 ≤ (n + 719468) % 146097 ∧ (n + 719468) % 146097 ≤ 146096 := by omega
  have hR : -730692564 ≤ (n + 719468) / 146097 ∧ (n + 719468) / 146097 ≤ 730702404 := by omega
  have HR := Lib.hid (show (n + 719468) / 146097 = rnd n from rfl)
  have HD := Lib.hid (show (n + 719468) % 146097 = din n from rfl)
  generalize (n + 719468) / 146097 = R at hR HR ⊢
  generalize (n + 719468) % 146097 = d at hd HD ⊢
  obtain ⟨hd0, hd1⟩ := hd
  obtain ⟨hR0, hR1⟩ := hR
  go_upto_region 4 with (fail)
  have hy : (d - d / 1460 + d / 36524 - d / 146096) / 365 = yin n := by unfold yin gg; rw [HD.out]
  obtain ⟨hy0, hy1, hd2, hd3, _⟩ := round_year (din n) (by rw [← HD.out]; omega) (by rw [← HD.out]; omega)
  rw [show gg (din n) / 365 = yin n from rfl] at hy0 hy1 hd2 hd3
  have HD2 := Lib.hid (show d - (365 * yin n + yin n / 4 - yin n / 100) = dyr n by unfold dyr Civ.start; rw [HD.out])
  rw [← HD.out] at hd2 hd3
  unfold Civ.start at hd2 hd3
  simp only [hy]
  obtain ⟨y, ey⟩ : ∃ y, y = yin n := ⟨_, rfl⟩
  simp only [← ey] at hy0 hy1 hd2 hd3 HD2 ⊢
  have HEY := Lib.hid ey
  clear hy ey
  go_upto_region 5 with (fail)
  have HN := Lib.hid (And.intro HD2.out HEY.out)
  generalize d - (365 * y + y / 4 - y / 100) = d2 at hd2 hd3 HD2 ⊢
  have hm : (5 * d2 + 2) / 153 = mon n := by unfold mon; rw [HD2.out]
  have hm0 : 0 ≤ (5 * d2 + 2) / 153 ∧ (5 * d2 + 2) / 153 ≤ 11 := by omega
  go_upto_region 6 with (fail)
  obtain ⟨mp, emp⟩ : ∃ mp, mp = (5 * d2 + 2) / 153 := ⟨_, rfl⟩
  simp only [← emp] at hm hm0 ⊢
  obtain ⟨hm1, hm2⟩ := hm0
  have HM := Lib.hid hm
  have hq : 0 ≤ d2 - (153 * mp + 2) / 5 ∧ d2 - (153 * mp + 2) / 5 ≤ 400 := by omega
  have HV := Lib.hid (And.intro HR.out (And.intro HD2.out (And.intro HEY.out HM.out)))
  clear hm emp HN
  have HP : ∀ (Y M D : Int) (W : World), Y = ofY n → M = ofM n → D = ofD n → Below w.heap.size w W → RetB (dateOf sec) w (.returned (.agg #[.int .i64 Y, .int .i64 M, .int .i64 D, .int .i64 (r / 3600), .int .i64 (r / 60 % 60), .int .i64 (r % 60)])) W := by
    rintro Y M D W rfl rfl rfl hB
    unfold dateOf
    rw [← HE.out.1, ← HE.out.2]
    exact ⟨rfl, hB⟩
  have HPP := Lib.hid HP
  clear HP
  by_cases h12 : mp + 3 > 12
  · have d12 : decide (12 < mp + 3) = true := decide_eq_true h12
    go_wp2_with fail
    have hb := six_below (g := w.heap.size) (((Below.refl w.heap.size w).alloc (Nat.le_refl _) (.cells #[.int .i64 0, .int .i64 0, .int .i64 0, .int .i64 0, .int .i64 0, .int .i64 0] 23)).trans ⟨rfl, rfl, rfl, Nat.le_refl _, fun _ _ => rfl⟩ : Below w.heap.size w ((w.alloc (.cells #[.int .i64 0, .int .i64 0, .int .i64 0, .int .i64 0, .int .i64 0, .int .i64 0] 23)).drewN (n1 + n2))) (Nat.le_refl _)
    have h6 := six_set (W := (w.alloc (.cells #[.int .i64 0, .int .i64 0, .int .i64 0, .int .i64 0, .int .i64 0, .int .i64 0] 23)).drewN (n1 + n2)) (g := w.heap.size) (heap_alloc_new w _)
    refine bodyPost_ret (results_cell_row rfl _ _ w.heap.size 23 _ (0, 0) _ rfl ((heap_alloc_old _ _ (by simp)).trans (h6 _ _ _ _ _ _)) Tryd.underlying23 rfl (by kernel_rfl)) rfl ?_
    refine HPP.out _ _ _ _ ?_ ?_ ?_ ?_
    · obtain ⟨e1, e2, e3, e4⟩ := HV.out; unfold ofY; rw [← e4, ← e1, ← e3]; split <;> omega
    · obtain ⟨e1, e2, e3, e4⟩ := HV.out; unfold ofM; rw [← e4]; split <;> omega
    · obtain ⟨e1, e2, e3, e4⟩ := HV.out; unfold ofD; rw [← e4, ← e2]
    · exact (hb _ _ _ _ _ _).alloc (by simp) _
  · have d12 : decide (12 < mp + 3) = false := decide_eq_false (by omega)
    go_wp2_with fail
    have hb := six_below (g := w.heap.size) (((Below.refl w.heap.size w).alloc (Nat.le_refl _) (.cells #[.int .i64 0, .int .i64 0, .int .i64 0, .int .i64 0, .int .i64 0, .int .i64 0] 23)).trans ⟨rfl, rfl, rfl, Nat.le_refl _, fun _ _ => rfl⟩ : Below w.heap.size w ((w.alloc (.cells #[.int .i64 0, .int .i64 0, .int .i64 0, .int .i64 0, .int .i64 0, .int .i64 0] 23)).drewN (n1 + n2))) (Nat.le_refl _)
    have h6 := six_set (W := (w.alloc (.cells #[.int .i64 0, .int .i64 0, .int .i64 0, .int .i64 0, .int .i64 0, .int .i64 0] 23)).drewN (n1 + n2)) (g := w.heap.size) (heap_alloc_new w _)
    refine bodyPost_ret (results_cell_row rfl _ _ w.heap.size 23 _ (0, 0) _ rfl ((heap_alloc_old _ _ (by simp)).trans (h6 _ _ _ _ _ _)) Tryd.underlying23 rfl (by kernel_rfl)) rfl ?_
    refine HPP.out _ _ _ _ ?_ ?_ ?_ ?_
    · obtain ⟨e1, e2, e3, e4⟩ := HV.out; unfold ofY; rw [← e4, ← e1, ← e3]; split <;> omega
    · obtain ⟨e1, e2, e3, e4⟩ := HV.out; unfold ofM; rw [← e4]; split <;> omega
    · obtain ⟨e1, e2, e3, e4⟩ := HV.out; unfold ofD; rw [← e4, ← e2]
    · exact (hb _ _ _ _ _ _).alloc (by simp) _
end Go.Proofs.YtkjglhehlkjfgaaDoor.Hand
