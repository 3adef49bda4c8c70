/- The reference's second of a right date. Written by wip/c22/mkrg.py. -/
import Derived.Test.YtkjglhehlkjfgaaDoorRefD
import Derived.Test.YtkjglhehlkjfgaaDoorRefF
import Derived.Deep.DeepCutAuto
import Derived.Deep.CutRange
set_option linter.unusedVariables false
set_option linter.unusedSimpArgs false
namespace Go.Proofs.YtkjglhehlkjfgaaDoor.Hand
open Go.RowKit Go.Proofs.YtkjglhehlkjfgaaDoor.Civ
/-- A call in a state in which a block of six cells is known leaves it so. -/
theorem one_block {f : FuncId} {args : Array Value} {v : Value} {w : World} (b : Nat) {a0 a1 a2 a3 a4 a5 : Value} (h : ∀ W : World, Calls Tryd.prog f args W (RetB v W)) (W : World) (hS : Hid (Below w.heap.size w W) ∧ W.cell? ⟨b, 0, none⟩ = some a0 ∧ W.cell? ⟨b, 1, none⟩ = some a1 ∧ W.cell? ⟨b, 2, none⟩ = some a2 ∧ W.cell? ⟨b, 3, none⟩ = some a3 ∧ W.cell? ⟨b, 4, none⟩ = some a4 ∧ W.cell? ⟨b, 5, none⟩ = some a5) :
    Calls Tryd.prog f args W fun e W' => e = .returned v ∧ Hid (Below w.heap.size w W') ∧ W'.cell? ⟨b, 0, none⟩ = some a0 ∧ W'.cell? ⟨b, 1, none⟩ = some a1 ∧ W'.cell? ⟨b, 2, none⟩ = some a2 ∧ W'.cell? ⟨b, 3, none⟩ = some a3 ∧ W'.cell? ⟨b, 4, none⟩ = some a4 ∧ W'.cell? ⟨b, 5, none⟩ = some a5 := by
  obtain ⟨hv, p0, p1, p2, p3, p4, p5⟩ := hS
  refine (h W).mono ?_
  rintro e W' ⟨rfl, hb⟩
  exact ⟨rfl, Lib.hid (hv.out.trans (hb.mono hv.out.size)), cell_keep hb p0, cell_keep hb p1, cell_keep hb p2, cell_keep hb p3, cell_keep hb p4, cell_keep hb p5⟩
/-- What the document's Seconds tells of a right date. -/
def rsecV (T : Int) : Value := if -9223372036854775808 ≤ T ∧ T ≤ 9223372036854775807 then .tuple #[.int .i64 T, .bool true] else .tuple #[.int .i64 0, .bool false]
theorem of_agg {sec Y M D h m s : Int} (hd : IsDate sec Y M D h m s) (h0 : -9223372036854775808 ≤ sec) (h1 : sec ≤ 9223372036854775807) (W : World) : Calls Tryd.prog 20 #[.int .i64 sec] W (RetB (.agg #[.int .i64 Y, .int .i64 M, .int .i64 D, .int .i64 h, .int .i64 m, .int .i64 s]) W) := by
  have := rof_calls sec W h0 h1
  rwa [hd.date] at this
theorem less_of {a b Y M D h m s Y' M' D' h' m' s' : Int} (hr : rightB Y M D h m s = true) (hr' : rightB Y' M' D' h' m' s' = true) (ha : totalS Y M D h m s = a) (hb : totalS Y' M' D' h' m' s' = b) (W : World) :
    Calls Tryd.prog 27 #[.agg #[.int .i64 Y, .int .i64 M, .int .i64 D, .int .i64 h, .int .i64 m, .int .i64 s], .agg #[.int .i64 Y', .int .i64 M', .int .i64 D', .int .i64 h', .int .i64 m', .int .i64 s']] W (RetB (.bool (decide (a < b))) W) := by
  have := less_calls Y M D h m s Y' M' D' h' m' s' W
  rwa [lex_total hr hr', ha, hb] at this
def SecRel (T : Int) (w : World) (Y M D h m s : Int) (k : Nat) (v4 v5 : Value) (wr : World) : Prop :=
  ∃ lo hi : Int, v4 = .int .i64 lo ∧ v5 = .int .i64 hi ∧ -9223372036854775808 ≤ lo ∧ hi ≤ 9223372036854775807 ∧ lo ≤ T ∧ T ≤ hi ∧ (hi - lo).toNat ≤ k ∧ Hid (Below w.heap.size w wr) ∧ wr.cell? ⟨w.heap.size, 0, none⟩ = some (.int .i64 Y) ∧ wr.cell? ⟨w.heap.size, 1, none⟩ = some (.int .i64 M) ∧ wr.cell? ⟨w.heap.size, 2, none⟩ = some (.int .i64 D) ∧ wr.cell? ⟨w.heap.size, 3, none⟩ = some (.int .i64 h) ∧ wr.cell? ⟨w.heap.size, 4, none⟩ = some (.int .i64 m) ∧ wr.cell? ⟨w.heap.size, 5, none⟩ = some (.int .i64 s)
def BoolCut (wr : World) (v : Value) (wx : World) : Prop := ∃ b : Bool, v = .bool b ∧ wx = wr
def IntCut (wr : World) (v : Value) (wx : World) : Prop := ∃ n : Int, v = .int .i64 n ∧ -9223372036854775808 ≤ n ∧ n ≤ 9223372036854775807 ∧ wx = wr
def TestCut (lo hi n : Int) (wr : World) (v : Value) (wx : World) : Prop := ∃ b : Bool, v = .bool b ∧ (b = false → lo ≤ n ∧ n < hi) ∧ wx = wr
theorem wrap64_bd (n : Int) : -9223372036854775808 ≤ wrap64 n ∧ wrap64 n ≤ 9223372036854775807 := by unfold wrap64; omega
def MidCut (lo hi : Int) (wr : World) (s6 : Value) (wx : World) : Prop := ∃ mid : Int, s6 = .int .i64 mid ∧ lo ≤ mid ∧ mid < hi ∧ wx = wr
set_option maxRecDepth 100000 in
set_option maxHeartbeats 4000000 in
theorem rsec_calls (Y M D h m s : Int) (w : World) (hr : rightB Y M D h m s = true) : Calls Tryd.prog 16 #[.agg #[.int .i64 Y, .int .i64 M, .int .i64 D, .int .i64 h, .int .i64 m, .int .i64 s]] w (RetB (rsecV (totalS Y M D h m s)) w) := by
  obtain ⟨T, hT⟩ : ∃ T, totalS Y M D h m s = T := ⟨_, rfl⟩
  rw [hT]
  have hal := (Below.refl w.heap.size w).alloc (Nat.le_refl _) (.cells #[.int .i64 Y, .int .i64 M, .int .i64 D, .int .i64 h, .int .i64 m, .int .i64 s] 32)
  have hcl := heap_alloc_new w (.cells #[.int .i64 Y, .int .i64 M, .int .i64 D, .int .i64 h, .int .i64 m, .int .i64 s] 32)
  have HAL := Lib.hid hal
  have HCL := Lib.hid hcl
  obtain ⟨ly, lm, ld, lh, li, ls, hlo⟩ := isDate (-9223372036854775808)
  obtain ⟨gy, gm, gd, gh, gi, gs, hhi⟩ := isDate 9223372036854775807
  have CLO := Lib.hid (one_block (a0 := .int .i64 Y) (a1 := .int .i64 M) (a2 := .int .i64 D) (a3 := .int .i64 h) (a4 := .int .i64 m) (a5 := .int .i64 s) (w := w) w.heap.size (of_agg hlo (by decide) (by decide)))
  have CHI := Lib.hid (one_block (a0 := .int .i64 Y) (a1 := .int .i64 M) (a2 := .int .i64 D) (a3 := .int .i64 h) (a4 := .int .i64 m) (a5 := .int .i64 s) (w := w) w.heap.size (of_agg hhi (by decide) (by decide)))
  have L1 := one_block (a0 := .int .i64 Y) (a1 := .int .i64 M) (a2 := .int .i64 D) (a3 := .int .i64 h) (a4 := .int .i64 m) (a5 := .int .i64 s) (w := w) w.heap.size (less_of hr hlo.right hT hlo.total)
  have L2 := one_block (a0 := .int .i64 Y) (a1 := .int .i64 M) (a2 := .int .i64 D) (a3 := .int .i64 h) (a4 := .int .i64 m) (a5 := .int .i64 s) (w := w) w.heap.size (less_of hhi.right hr hhi.total hT)
  have HT := Lib.hid hT
  have HR := Lib.hid hr
  have hbd : Below w.heap.size (w.alloc (.cells #[.int .i64 Y, .int .i64 M, .int .i64 D, .int .i64 h, .int .i64 m, .int .i64 s] 32)) (w.alloc (.cells #[.int .i64 Y, .int .i64 M, .int .i64 D, .int .i64 h, .int .i64 m, .int .i64 s] 32)).drew := ⟨rfl, rfl, rfl, Nat.le_refl _, fun _ _ => rfl⟩
  obtain ⟨p0, p1, p2, p3, p4, p5⟩ := six_cells (W := (w.alloc (.cells #[.int .i64 Y, .int .i64 M, .int .i64 D, .int .i64 h, .int .i64 m, .int .i64 s] 32)).drew) (g := w.heap.size) hcl
  have hSd := And.intro (Lib.hid (hal.trans hbd)) (And.intro p0 (And.intro p1 (And.intro p2 (And.intro p3 (And.intro p4 p5)))))
  have HSD := Lib.hid hSd
  clear hal hcl hlo hhi hr hT hbd p0 p1 p2 p3 p4 p5 hSd
  by_cases hlt : T < -9223372036854775808
  · have HF := Lib.hid (show rsecV T = .tuple #[.int .i64 0, .bool false] by unfold rsecV; rw [if_neg (by omega)])
    rw [decide_eq_true hlt] at L1
    have CL1 := Lib.hid L1
    clear L1 L2
    go_enter Tryd.func16, Tryd.ntmps16
    go_upto_region 2 with (fail)
    have hSd := HSD.out
    refine wp_region_held_drew (S := fun W : World => Hid (Below w.heap.size w W) ∧ W.cell? ⟨w.heap.size, 0, none⟩ = some (.int .i64 Y) ∧ W.cell? ⟨w.heap.size, 1, none⟩ = some (.int .i64 M) ∧ W.cell? ⟨w.heap.size, 2, none⟩ = some (.int .i64 D) ∧ W.cell? ⟨w.heap.size, 3, none⟩ = some (.int .i64 h) ∧ W.cell? ⟨w.heap.size, 4, none⟩ = some (.int .i64 m) ∧ W.cell? ⟨w.heap.size, 5, none⟩ = some (.int .i64 s)) (by kernel_rfl) hSd (fun hHeld => ?_)
    refine wpAnyH_take (i := 0) (v := ?_) rfl (by kernel_rfl) (by kernel_rfl) (by kernel_rfl) (fun _ _ _ h => h) (Or.inl ⟨by rfl, ?_⟩) (by assumption) ?_; rotate_left; focus (intro w hSw; (try dsimp only at hSw); simp only [List.getElem_toArray, List.getElem_cons_succ, List.getElem_cons_zero]; go_simp; (try (with_reducible rfl)))
    simp only [List.getElem_toArray, List.getElem_cons_succ, List.getElem_cons_zero, Act.put, List.setIfInBounds_toArray, List.set_cons_zero, List.set_cons_succ]
    refine wpAnyH_take (i := 1) (v := ?_) rfl (by kernel_rfl) (by kernel_rfl) (by kernel_rfl) (fun _ _ _ h => h) (Or.inl ⟨by rfl, ?_⟩) (by assumption) ?_; rotate_left; focus (intro w hSw; (try dsimp only at hSw); simp only [List.getElem_toArray, List.getElem_cons_succ, List.getElem_cons_zero]; go_simp; (try (with_reducible rfl)))
    simp only [List.getElem_toArray, List.getElem_cons_succ, List.getElem_cons_zero, Act.put, List.setIfInBounds_toArray, List.set_cons_zero, List.set_cons_succ]
    refine wpAnyH_ready (rs := [2]) (by kernel_rfl) (by simp) ?_
    refine AllReadyH.cons rfl (fun K hK => ?_) AllReadyH.nil
    go_simp
    (with_reducible refine (CLO.out _ (by assumption)).mono ?_)
    rintro e w5 ⟨rfl, hS6⟩
    refine hK.out _ _ hS6 (fun hHeld => ?_)
    clear hK K
    try simp only [Act.put, List.setIfInBounds_toArray, List.set_cons_zero, List.set_cons_succ]
    refine wpAnyH_ready (rs := [3]) (by kernel_rfl) (by simp) ?_
    refine AllReadyH.cons rfl (fun K hK => ?_) AllReadyH.nil
    go_simp
    (with_reducible refine (CL1.out _ (by assumption)).mono ?_)
    rintro e w6 ⟨rfl, hS6⟩
    refine hK.out _ _ hS6 (fun hHeld => ?_)
    clear hK K
    try simp only [Act.put, List.setIfInBounds_toArray, List.set_cons_zero, List.set_cons_succ]
    refine wpAnyH_take (i := 4) (v := ?_) rfl (by kernel_rfl) (by kernel_rfl) (by kernel_rfl) (fun _ _ _ h => h) (Or.inl ⟨by rfl, ?_⟩) (by assumption) ?_; rotate_left; focus (intro w hSw; (try dsimp only at hSw); simp only [List.getElem_toArray, List.getElem_cons_succ, List.getElem_cons_zero]; go_simp; (try (with_reducible rfl)))
    simp only [List.getElem_toArray, List.getElem_cons_succ, List.getElem_cons_zero, Act.put, List.setIfInBounds_toArray, List.set_cons_zero, List.set_cons_succ]
    refine wpAnyH_take (i := 5) (v := undef) rfl (by kernel_rfl) (by kernel_rfl) (by kernel_rfl) (fun _ _ _ h => h) (Or.inr ⟨by rfl, rfl⟩) (by assumption) ?_
    simp only [List.getElem_toArray, List.getElem_cons_succ, List.getElem_cons_zero, Act.put, List.setIfInBounds_toArray, List.set_cons_zero, List.set_cons_succ]
    refine wpAnyH_take (i := 6) (v := undef) rfl (by kernel_rfl) (by kernel_rfl) (by kernel_rfl) (fun _ _ _ h => h) (Or.inr ⟨by rfl, rfl⟩) (by assumption) ?_
    simp only [List.getElem_toArray, List.getElem_cons_succ, List.getElem_cons_zero, Act.put, List.setIfInBounds_toArray, List.set_cons_zero, List.set_cons_succ]
    refine wpAnyH_take (i := 7) (v := undef) rfl (by kernel_rfl) (by kernel_rfl) (by kernel_rfl) (fun _ _ _ h => h) (Or.inr ⟨by rfl, rfl⟩) (by assumption) ?_
    simp only [List.getElem_toArray, List.getElem_cons_succ, List.getElem_cons_zero, Act.put, List.setIfInBounds_toArray, List.set_cons_zero, List.set_cons_succ]
    refine wpAnyH_take (i := 8) (v := undef) rfl (by kernel_rfl) (by kernel_rfl) (by kernel_rfl) (fun _ _ _ h => h) (Or.inr ⟨by rfl, rfl⟩) (by assumption) ?_
    simp only [List.getElem_toArray, List.getElem_cons_succ, List.getElem_cons_zero, Act.put, List.setIfInBounds_toArray, List.set_cons_zero, List.set_cons_succ]
    refine wpAnyH_take (i := 9) (v := ?_) rfl (by kernel_rfl) (by kernel_rfl) (by kernel_rfl) (fun _ _ _ h => h) (Or.inl ⟨by rfl, ?_⟩) (by assumption) ?_; rotate_left; focus (intro w hSw; (try dsimp only at hSw); simp only [List.getElem_toArray, List.getElem_cons_succ, List.getElem_cons_zero]; go_simp; (try (with_reducible rfl)))
    simp only [List.getElem_toArray, List.getElem_cons_succ, List.getElem_cons_zero, Act.put, List.setIfInBounds_toArray, List.set_cons_zero, List.set_cons_succ]
    refine wpAnyH_done (by kernel_rfl) ?_ _
    go_wp2_with fail
    go_ret2
    exact ⟨congrArg Ending.returned HF.out.symm, hS6.1.out⟩
  · rw [decide_eq_false hlt] at L1
    have CL1 := Lib.hid L1
    by_cases hgt : 9223372036854775807 < T
    · have HF := Lib.hid (show rsecV T = .tuple #[.int .i64 0, .bool false] by unfold rsecV; rw [if_neg (by omega)])
      rw [decide_eq_true hgt] at L2
      have CL2 := Lib.hid L2
      clear L1 L2
      go_enter Tryd.func16, Tryd.ntmps16
      go_upto_region 2 with (fail)
      have hSd := HSD.out
      go_region_held3 (fun W : World => Hid (Below w.heap.size w W) ∧ W.cell? ⟨w.heap.size, 0, none⟩ = some (.int .i64 Y) ∧ W.cell? ⟨w.heap.size, 1, none⟩ = some (.int .i64 M) ∧ W.cell? ⟨w.heap.size, 2, none⟩ = some (.int .i64 D) ∧ W.cell? ⟨w.heap.size, 3, none⟩ = some (.int .i64 h) ∧ W.cell? ⟨w.heap.size, 4, none⟩ = some (.int .i64 m) ∧ W.cell? ⟨w.heap.size, 5, none⟩ = some (.int .i64 s)) (first | exact hSd | assumption) (first | (go_at_call 20; (with_reducible refine (CLO.out _ (by assumption)).mono ?_); rintro e w6 ⟨rfl, hS6⟩) | (go_at_call 20; (with_reducible refine (CHI.out _ (by assumption)).mono ?_); rintro e w6 ⟨rfl, hS6⟩) | (go_at_call 27; (with_reducible refine (CL1.out _ (by assumption)).mono ?_); rintro e w6 ⟨rfl, hS6⟩) | (go_at_call 27; (with_reducible refine (CL2.out _ (by assumption)).mono ?_); rintro e w6 ⟨rfl, hS6⟩))
      go_wp2_with fail
      go_ret2
      exact ⟨congrArg Ending.returned HF.out.symm, hS6.1.out⟩
    · have HF := Lib.hid (show rsecV T = .tuple #[.int .i64 T, .bool true] by unfold rsecV; rw [if_pos (by omega)])
      rw [decide_eq_false hgt] at L2
      have CL2 := Lib.hid L2
      clear L1 L2
      go_enter Tryd.func16, Tryd.ntmps16
      go_upto_region 2 with (fail)
      have hSd := HSD.out
      go_region_held3 (fun W : World => Hid (Below w.heap.size w W) ∧ W.cell? ⟨w.heap.size, 0, none⟩ = some (.int .i64 Y) ∧ W.cell? ⟨w.heap.size, 1, none⟩ = some (.int .i64 M) ∧ W.cell? ⟨w.heap.size, 2, none⟩ = some (.int .i64 D) ∧ W.cell? ⟨w.heap.size, 3, none⟩ = some (.int .i64 h) ∧ W.cell? ⟨w.heap.size, 4, none⟩ = some (.int .i64 m) ∧ W.cell? ⟨w.heap.size, 5, none⟩ = some (.int .i64 s)) (first | exact hSd | assumption) (first | (go_at_call 20; (with_reducible refine (CLO.out _ (by assumption)).mono ?_); rintro e w6 ⟨rfl, hS6⟩) | (go_at_call 20; (with_reducible refine (CHI.out _ (by assumption)).mono ?_); rintro e w6 ⟨rfl, hS6⟩) | (go_at_call 27; (with_reducible refine (CL1.out _ (by assumption)).mono ?_); rintro e w6 ⟨rfl, hS6⟩) | (go_at_call 27; (with_reducible refine (CL2.out _ (by assumption)).mono ?_); rintro e w6 ⟨rfl, hS6⟩))
      have H6 := Lib.hid hS6
      clear CLO CHI CL1 CL2 HSD
      obtain ⟨N, hN⟩ : ∃ N : Nat, N = ((9223372036854775807 : Int) - (-9223372036854775808)).toNat := ⟨_, rfl⟩
      have HN := Lib.hid hN
      clear hN
      go_wp2_with fail
      go_loopg [4, 5] N (fun k v4 v5 wr => SecRel T w Y M D h m s k v4 v5 wr)
      case atStart => exact ⟨_, _, rfl, rfl, by decide, by decide, by omega, by omega, by rw [HN.out]; exact Nat.le_refl _, H6.out⟩
      case round =>
        clear H6 hS6
        obtain ⟨lo, hi, rfl, rfl, hl0, hh1, hlT, hTh, hk, hS⟩ := hrel
        have HS := Lib.hid hS
        clear hS
        by_cases hlh : lo < hi
        · have dlh : decide (lo < hi) = true := decide_eq_true hlh
          have e1 : -4611686018427387904 ≤ lo.tdiv 2 ∧ lo.tdiv 2 ≤ 4611686018427387903 := by
            have := Int.tdiv_eq_ediv (a := lo) (b := 2)
            rw [show Int.sign 2 = 1 from rfl] at this
            split at this <;> omega
          have e2 : -4611686018427387904 ≤ hi.tdiv 2 ∧ hi.tdiv 2 ≤ 4611686018427387903 := by
            have := Int.tdiv_eq_ediv (a := hi) (b := 2)
            rw [show Int.sign 2 = 1 from rfl] at this
            split at this <;> omega
          obtain ⟨e10, e11⟩ := e1
          obtain ⟨e20, e21⟩ := e2
          obtain ⟨q1, hq1⟩ : ∃ q, lo.tdiv 2 = q := ⟨_, rfl⟩
          obtain ⟨q2, hq2⟩ : ∃ q, hi.tdiv 2 = q := ⟨_, rfl⟩
          rw [hq1] at e10 e11
          rw [hq2] at e20 e21
          go_upto_region 6 with (fail)
          obtain ⟨m0, hm0⟩ : ∃ m0, m0 = q1 + q2 := ⟨_, rfl⟩
          have hmb : -9223372036854775808 ≤ m0 ∧ m0 ≤ 9223372036854775806 := by omega
          simp only [← hm0]
          obtain ⟨hmb0, hmb1⟩ := hmb
          clear hm0 hq1 hq2 e10 e11 e20 e21
          go_cut [39] from 25 to 39 (fun s39 wx => BoolCut wr s39 wx)
          case first =>
            go_wp2_with fail
            all_goals go_meet
            all_goals exact ⟨_, rfl, rfl⟩
          case rest =>
          obtain ⟨b39, rfl, hwc⟩ := hcut
          subst hwc
          go_upto_if 39 with (fail)
          go_cut [6] from 40 to 45 (fun s6 wx => IntCut wc s6 wx)
          case first =>
            cases b39 with
            | false =>
              go_wp2_with fail
              go_meet
              exact ⟨m0, rfl, by omega, by omega, rfl⟩
            | true =>
              go_wp2_with fail
              all_goals go_meet
              all_goals first | exact ⟨_, rfl, by omega, by omega, rfl⟩ | exact ⟨_, rfl, (wrap64_bd _).1, (wrap64_bd _).2, rfl⟩
          case rest =>
          obtain ⟨m1, rfl, hm10, hm11, hwc⟩ := hcut
          subst hwc
          go_upto_region 10 with (fail)
          go_cut [53] from 46 to 53 (fun s53 wx => TestCut lo hi m1 wc s53 wx)
          case first =>
            by_cases t1 : m1 < lo
            · have dt1 : decide (m1 < lo) = true := decide_eq_true t1
              go_wp2_with fail
              go_meet
              exact ⟨true, rfl, (fun h => by cases h), rfl⟩
            · have dt1 : decide (m1 < lo) = false := decide_eq_false t1
              by_cases t2 : hi ≤ m1
              · have dt2 : decide (hi ≤ m1) = true := decide_eq_true t2
                go_wp2_with fail
                go_meet
                exact ⟨true, rfl, (fun h => by cases h), rfl⟩
              · have dt2 : decide (hi ≤ m1) = false := decide_eq_false t2
                go_wp2_with fail
                go_meet
                exact ⟨false, rfl, (fun _ => ⟨by omega, by omega⟩), rfl⟩
          case rest =>
          obtain ⟨b53, rfl, hb53, hwc⟩ := hcut
          subst hwc
          go_upto_if 53 with (fail)
          go_cut [6] from 54 to 54 (fun s6 wx => MidCut lo hi wc s6 wx)
          case first =>
            cases b53 with
            | false =>
              obtain ⟨hc0, hc1⟩ := hb53 rfl
              go_wp2_with fail
              go_meet
              exact ⟨m1, rfl, hc0, hc1, rfl⟩
            | true =>
              clear hb53
              go_wp2_with fail
              go_meet
              exact ⟨lo, rfl, Int.le_refl _, hlh, rfl⟩
          case rest =>
            obtain ⟨mid, rfl, hm0, hm1, hwc⟩ := hcut
            subst hwc
            clear hb53 hm10 hm11 hmb0 hmb1
            obtain ⟨my, mm, md, mh, mi, ms, hmd⟩ := isDate mid
            have CM := Lib.hid (one_block (a0 := .int .i64 Y) (a1 := .int .i64 M) (a2 := .int .i64 D) (a3 := .int .i64 h) (a4 := .int .i64 m) (a5 := .int .i64 s) (w := w) w.heap.size (of_agg hmd (by omega) (by omega)))
            have LM := one_block (a0 := .int .i64 Y) (a1 := .int .i64 M) (a2 := .int .i64 D) (a3 := .int .i64 h) (a4 := .int .i64 m) (a5 := .int .i64 s) (w := w) w.heap.size (less_of hmd.right HR.out hmd.total HT.out)
            clear hmd
            obtain ⟨k0, k1, k2, k3, k4, k5, k6⟩ := HS.out
            have hbd : Below wc.heap.size wc wc.drew := ⟨rfl, rfl, rfl, Nat.le_refl _, fun _ _ => rfl⟩
            have hSd := And.intro (Lib.hid (k0.out.trans (hbd.mono k0.out.size))) (And.intro (cell_keep hbd k1) (And.intro (cell_keep hbd k2) (And.intro (cell_keep hbd k3) (And.intro (cell_keep hbd k4) (And.intro (cell_keep hbd k5) (cell_keep hbd k6))))))
            clear k0 k1 k2 k3 k4 k5 k6 hbd
            by_cases hmT : mid < T
            · rw [decide_eq_true hmT] at LM
              have CL := Lib.hid LM
              clear LM
              go_upto_region 12 with (fail)
              go_region_held3 (fun W : World => Hid (Below w.heap.size w W) ∧ W.cell? ⟨w.heap.size, 0, none⟩ = some (.int .i64 Y) ∧ W.cell? ⟨w.heap.size, 1, none⟩ = some (.int .i64 M) ∧ W.cell? ⟨w.heap.size, 2, none⟩ = some (.int .i64 D) ∧ W.cell? ⟨w.heap.size, 3, none⟩ = some (.int .i64 h) ∧ W.cell? ⟨w.heap.size, 4, none⟩ = some (.int .i64 m) ∧ W.cell? ⟨w.heap.size, 5, none⟩ = some (.int .i64 s)) (first | exact hSd | assumption) (first | (go_at_call 20; (with_reducible refine (CM.out _ (by assumption)).mono ?_); rintro e w6 ⟨rfl, hS6⟩) | (go_at_call 27; (with_reducible refine (CL.out _ (by assumption)).mono ?_); rintro e w6 ⟨rfl, hS6⟩))
              have H7 := Lib.hid hS6
              clear hS6 CM CL hSd
              go_wp2_with fail
              go_roundg (gk - 1)
              case rel => exact ⟨_, _, rfl, rfl, by omega, by omega, by omega, by omega, by omega, H7.out⟩
              case measure => omega
            · rw [decide_eq_false hmT] at LM
              have CL := Lib.hid LM
              clear LM
              go_upto_region 12 with (fail)
              go_region_held3 (fun W : World => Hid (Below w.heap.size w W) ∧ W.cell? ⟨w.heap.size, 0, none⟩ = some (.int .i64 Y) ∧ W.cell? ⟨w.heap.size, 1, none⟩ = some (.int .i64 M) ∧ W.cell? ⟨w.heap.size, 2, none⟩ = some (.int .i64 D) ∧ W.cell? ⟨w.heap.size, 3, none⟩ = some (.int .i64 h) ∧ W.cell? ⟨w.heap.size, 4, none⟩ = some (.int .i64 m) ∧ W.cell? ⟨w.heap.size, 5, none⟩ = some (.int .i64 s)) (first | exact hSd | assumption) (first | (go_at_call 20; (with_reducible refine (CM.out _ (by assumption)).mono ?_); rintro e w6 ⟨rfl, hS6⟩) | (go_at_call 27; (with_reducible refine (CL.out _ (by assumption)).mono ?_); rintro e w6 ⟨rfl, hS6⟩))
              have H7 := Lib.hid hS6
              clear hS6 CM CL hSd
              go_wp2_with fail
              go_roundg (gk - 1)
              case rel => exact ⟨_, _, rfl, rfl, by omega, by omega, by omega, by omega, by omega, H7.out⟩
              case measure => omega
        · have dlh : decide (lo < hi) = false := decide_eq_false hlh
          obtain rfl : lo = T := by omega
          go_wp2_with fail
          go_ret2
          exact ⟨congrArg Ending.returned HF.out.symm, HS.out.1.out⟩
end Go.Proofs.YtkjglhehlkjfgaaDoor.Hand
