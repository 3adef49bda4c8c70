/- The reference's order of dates: Less. -/
import Derived.Test.YtkjglhehlkjfgaaDoorDates
import Derived.Test.YtkjglhehlkjfgaaDoorHandF
import Derived.Deep.LoopGhost
set_option linter.unusedVariables false
set_option linter.unusedSimpArgs false
namespace Go.Proofs.YtkjglhehlkjfgaaDoor.Hand
open Go.RowKit Go.Proofs.YtkjglhehlkjfgaaDoor.Civ
/-- The first that differs decides. -/
def lexB : List Int → List Int → Bool
  | x :: xs, y :: ys => if x = y then lexB xs ys else decide (x < y)
  | _, _ => false
theorem lexB_eq (x : Int) (xs ys : List Int) : lexB (x :: xs) (x :: ys) = lexB xs ys := by simp [lexB]
theorem lexB_ne {x y : Int} (h : ¬ x = y) (xs ys : List Int) : lexB (x :: xs) (y :: ys) = decide (x < y) := by simp [lexB, h]
def LessRel (xs ys : List Int) (w1 : World) (m : Nat) (v5 : Value) (w : World) : Prop := ∃ i : Nat, v5 = .int .i64 (i : Int) ∧ i + m = 6 ∧ lexB xs ys = lexB (xs.drop i) (ys.drop i) ∧ ∃ dn, w = w1.drewN dn
theorem sixI {W : World} {g : Nat} {t : TypeId} {a0 a1 a2 a3 a4 a5 : Int} (h : W.heap[g]? = some (.cells #[.int .i64 a0, .int .i64 a1, .int .i64 a2, .int .i64 a3, .int .i64 a4, .int .i64 a5] t (0, 0))) (i : Nat) (u : Int) (hi : ([a0, a1, a2, a3, a4, a5] : List Int)[i]? = some u) : W.cell? ⟨g, i, none⟩ = some (.int .i64 u) := by
  obtain ⟨c0, c1, c2, c3, c4, c5⟩ := six_cells h
  match i with
  | 0 => simp at hi; subst hi; exact c0
  | 1 => simp at hi; subst hi; exact c1
  | 2 => simp at hi; subst hi; exact c2
  | 3 => simp at hi; subst hi; exact c3
  | 4 => simp at hi; subst hi; exact c4
  | 5 => simp at hi; subst hi; exact c5
  | k + 6 => simp at hi
set_option maxRecDepth 100000 in
set_option maxHeartbeats 4000000 in
theorem less_calls (a0 a1 a2 a3 a4 a5 b0 b1 b2 b3 b4 b5 : Int) (w : World) : Calls Tryd.prog 27 #[.agg #[.int .i64 a0, .int .i64 a1, .int .i64 a2, .int .i64 a3, .int .i64 a4, .int .i64 a5], .agg #[.int .i64 b0, .int .i64 b1, .int .i64 b2, .int .i64 b3, .int .i64 b4, .int .i64 b5]] w (RetB (.bool (lexB [a0, a1, a2, a3, a4, a5] [b0, b1, b2, b3, b4, b5])) w) := by
  have hA := heap_alloc2_old w (.cells #[.int .i64 a0, .int .i64 a1, .int .i64 a2, .int .i64 a3, .int .i64 a4, .int .i64 a5] 32) (.cells #[.int .i64 b0, .int .i64 b1, .int .i64 b2, .int .i64 b3, .int .i64 b4, .int .i64 b5] 32)
  have hB := heap_alloc2_new w (.cells #[.int .i64 a0, .int .i64 a1, .int .i64 a2, .int .i64 a3, .int .i64 a4, .int .i64 a5] 32) (.cells #[.int .i64 b0, .int .i64 b1, .int .i64 b2, .int .i64 b3, .int .i64 b4, .int .i64 b5] 32)
  have hb := ((Below.refl w.heap.size w).alloc (Nat.le_refl _) (.cells #[.int .i64 a0, .int .i64 a1, .int .i64 a2, .int .i64 a3, .int .i64 a4, .int .i64 a5] 32)).alloc (by simp) (.cells #[.int .i64 b0, .int .i64 b1, .int .i64 b2, .int .i64 b3, .int .i64 b4, .int .i64 b5] 32)
  have HA := Lib.hid (fun i u hi => sixI hA i u hi)
  have HB := Lib.hid (fun i u hi => sixI hB i u hi)
  have HBL := Lib.hid hb
  have hlx : ([a0, a1, a2, a3, a4, a5] : List Int).length = 6 := rfl
  have hly : ([b0, b1, b2, b3, b4, b5] : List Int).length = 6 := rfl
  clear hA hB hb
  go_enter Tryd.func27, Tryd.ntmps27
  go_upto_region 1 with (fail)
  generalize ((w.alloc (.cells #[.int .i64 a0, .int .i64 a1, .int .i64 a2, .int .i64 a3, .int .i64 a4, .int .i64 a5] 32)).alloc (.cells #[.int .i64 b0, .int .i64 b1, .int .i64 b2, .int .i64 b3, .int .i64 b4, .int .i64 b5] 32)) = w1 at HA HB HBL ⊢
  have HLX := Lib.hid hlx
  have HLY := Lib.hid hly
  clear hlx hly
  obtain ⟨xs, hxs⟩ : ∃ xs : List Int, xs = [a0, a1, a2, a3, a4, a5] := ⟨_, rfl⟩
  obtain ⟨ys, hys⟩ : ∃ ys : List Int, ys = [b0, b1, b2, b3, b4, b5] := ⟨_, rfl⟩
  simp only [← hxs, ← hys] at HA HB HLX HLY
  have HX := Lib.hid (And.intro hxs hys)
  clear hxs hys
  go_wp2_with fail
  go_loopg [5] 6 (fun m v5 wr => LessRel xs ys w1 m v5 wr)
  case atStart => exact ⟨0, rfl, rfl, rfl, 0, rfl⟩
  case round =>
    obtain ⟨i, rfl, hi, hlex, dn, rfl⟩ := hrel
    by_cases hlt : i < 6
    · have di : decide ((i : Int) < 6) = true := decide_eq_true (by omega)
      have hx := HA.out i (xs[i]'(by rw [HLX.out]; exact hlt)) (List.getElem?_eq_getElem _)
      have hy := HB.out i (ys[i]'(by rw [HLY.out]; exact hlt)) (List.getElem?_eq_getElem _)
      have dx := List.drop_eq_getElem_cons (l := xs) (i := i) (by rw [HLX.out]; exact hlt)
      have dy := List.drop_eq_getElem_cons (l := ys) (i := i) (by rw [HLY.out]; exact hlt)
      rw [dx, dy] at hlex
      have hi6 : (i : Int) < 6 := by omega
      generalize (xs[i]'(by rw [HLX.out]; exact hlt)) = x at hx hlex
      generalize (ys[i]'(by rw [HLY.out]; exact hlt)) = y at hy hlex
      by_cases hxy : x = y
      · subst hxy
        rw [lexB_eq] at hlex
        have HL := Lib.hid hlex
        clear dx dy hlex
        go_wp2_with fail
        go_quiet (fail)
        go_wp2_with fail
        go_roundg (gk - 1)
        case rel => exact ⟨i + 1, by go_num, by omega, HL.out, _, rfl⟩
        case measure => omega
      · rw [lexB_ne hxy] at hlex
        have HL := Lib.hid hlex
        have hn : (x == y) = false := by simpa using hxy
        clear dx dy hlex
        go_wp2_with fail
        go_quiet (fail)
        go_wp2_with fail
        go_quiet (fail)
        go_wp2_with fail
        go_ret
        refine ⟨?_, HBL.out.trans ⟨rfl, rfl, rfl, Nat.le_refl _, fun _ _ => rfl⟩⟩
        obtain ⟨h1, h2⟩ := HX.out
        rw [← h1, ← h2, HL.out]
        rfl
    · have di : decide ((i : Int) < 6) = false := decide_eq_false (by omega)
      obtain rfl : i = 6 := by omega
      have HL := Lib.hid (show lexB xs ys = false by rw [hlex, List.drop_of_length_le (by rw [HLX.out]; exact Nat.le_refl _)]; rfl)
      clear hlex
      go_wp2_with fail
      go_ret
      refine ⟨?_, HBL.out.trans ⟨rfl, rfl, rfl, Nat.le_refl _, fun _ _ => rfl⟩⟩
      obtain ⟨h1, h2⟩ := HX.out
      rw [← h1, ← h2, HL.out]
      rfl
/-- An earlier date is an earlier second. -/
theorem lex_total {Y M D h m s Y' M' D' h' m' s' : Int} (hr : rightB Y M D h m s = true) (hr' : rightB Y' M' D' h' m' s' = true) : lexB [Y, M, D, h, m, s] [Y', M', D', h', m', s'] = decide (totalS Y M D h m s < totalS Y' M' D' h' m' s') := by
  obtain ⟨r, b1, b2, b3, b4, b5, b6⟩ := (rightB_iff ..).1 hr
  obtain ⟨r', c1, c2, c3, c4, c5, c6⟩ := (rightB_iff ..).1 hr'
  have key : ∀ {Y M D h m s Y' M' D' h' m' s' : Int}, Right3 Y M D → Right3 Y' M' D' → 0 ≤ h → h < 24 → 0 ≤ m → m < 60 → 0 ≤ s → s < 60 → 0 ≤ h' → h' < 24 → 0 ≤ m' → m' < 60 → 0 ≤ s' → s' < 60 → lexB [Y, M, D, h, m, s] [Y', M', D', h', m', s'] = true → totalS Y M D h m s < totalS Y' M' D' h' m' s' := by
    intro Y M D h m s Y' M' D' h' m' s' r r' b1 b2 b3 b4 b5 b6 c1 c2 c3 c4 c5 c6 hl
    unfold totalS
    simp only [lexB] at hl
    by_cases e1 : Y = Y'
    · by_cases e2 : M = M'
      · by_cases e3 : D = D'
        · subst e1 e2 e3
          simp only [if_true] at hl
          repeat' split at hl
          all_goals first | (simp at hl; done) | (simp at hl; omega) | omega
        · have := day_lt r r' (.inr ⟨e1, .inr ⟨e2, by subst e1 e2; simpa [e3] using hl⟩⟩)
          omega
      · have := day_lt r r' (.inr ⟨e1, .inl (by subst e1; simpa [e2] using hl)⟩)
        omega
    · have := day_lt r r' (.inl (by simpa [e1] using hl))
      omega
  cases hl : lexB [Y, M, D, h, m, s] [Y', M', D', h', m', s']
  · symm
    apply decide_eq_false
    intro hlt
    cases hl2 : lexB [Y', M', D', h', m', s'] [Y, M, D, h, m, s]
    · -- neither is earlier: they are one
      have : Y = Y' ∧ M = M' ∧ D = D' ∧ h = h' ∧ m = m' ∧ s = s' := by
        simp only [lexB] at hl hl2
        by_cases e1 : Y = Y'
        · by_cases e2 : M = M'
          · by_cases e3 : D = D'
            · by_cases e4 : h = h'
              · by_cases e5 : m = m'
                · by_cases e6 : s = s'
                  · exact ⟨e1, e2, e3, e4, e5, e6⟩
                  · exfalso; subst e1 e2 e3 e4 e5; simp [e6, Ne.symm e6] at hl hl2; omega
                · exfalso; subst e1 e2 e3 e4; simp [e5, Ne.symm e5] at hl hl2; omega
              · exfalso; subst e1 e2 e3; simp [e4, Ne.symm e4] at hl hl2; omega
            · exfalso; subst e1 e2; simp [e3, Ne.symm e3] at hl hl2; omega
          · exfalso; subst e1; simp [e2, Ne.symm e2] at hl hl2; omega
        · exfalso; simp [e1, Ne.symm e1] at hl hl2; omega
      obtain ⟨rfl, rfl, rfl, rfl, rfl, rfl⟩ := this
      omega
    · have := key r' r c1 c2 c3 c4 c5 c6 b1 b2 b3 b4 b5 b6 hl2
      omega
  · exact (decide_eq_true (key r r' b1 b2 b3 b4 b5 b6 c1 c2 c3 c4 c5 c6 hl)).symm
end Go.Proofs.YtkjglhehlkjfgaaDoor.Hand
