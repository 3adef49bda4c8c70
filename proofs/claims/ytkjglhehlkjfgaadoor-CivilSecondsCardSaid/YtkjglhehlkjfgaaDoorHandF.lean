/- A text read as a date: Parse. -/
import Derived.Test.YtkjglhehlkjfgaaDoorHandE
import Derived.WideLaws
import Derived.Laws.ResultCell
import Derived.Deep.LoopGhost
set_option linter.unusedVariables false
set_option linter.unusedSimpArgs false
namespace Go.Proofs.YtkjglhehlkjfgaaDoor.Hand
open Go.RowKit Go.Proofs.YtkjglhehlkjfgaaDoor.Civ
/-- The whole number that a text is, read as an int64; as a uint8. -/
def intAt (s : ByteArray) : Option Int := match Lib.parseIntB 64 s.data.toList with | .ok v => some v | _ => none
def u8At (s : ByteArray) : Option Nat := match Lib.parseUintB 8 s.data.toList with | .ok v => some v | _ => none
def BadI (k : IntKind) (w : World) (e : Ending) (w' : World) : Prop := ∃ (x : Int) (N : Nat), e = .returned (.tuple #[.int k x, .iface 86 (.pointer (some ⟨N, 0, none⟩))]) ∧ Below w.heap.size w w'
theorem parseInt_ok (s : ByteArray) (hs : s.size ≤ 281474976710656) (v : Int) (h : intAt s = some v) (w : World) : Calls Tryd.prog 30 #[.string s, .int .i64 10, .int .i64 64] w (RetB (.tuple #[.int .i64 v, .nilIface]) w) := by
  have h' : Lib.parseIntB 64 s.data.toList = .ok v := by
    unfold intAt at h
    split at h
    · injection h with h; subst h; assumption
    · cases h
  refine (Tryd.strconv_ParseInt_10_at64_ok s (by omega) v h' w).mono ?_
  rintro e w' ⟨rfl, rfl | ⟨t, rfl⟩⟩
  · exact ⟨rfl, Below.refl _ _⟩
  · exact ⟨rfl, Lib.bytesWorld_below _ _ _⟩
theorem parseInt_bad (s : ByteArray) (hs : s.size ≤ 281474976710656) (h : intAt s = none) (w : World) (hV : VW w) : Calls Tryd.prog 30 #[.string s, .int .i64 10, .int .i64 64] w (BadI .i64 w) := by
  obtain ⟨te, pe, h1⟩ := hV.syn
  obtain ⟨te2, pe2, h2⟩ := hV.rng
  rcases hp : Lib.parseIntB 64 s.data.toList with v | _ | _
  · unfold intAt at h; rw [hp] at h; cases h
  · refine (Any.strconv_ParseInt_10_at64_syntax Tryd.laysC174 s hs hp _ w h1 (.inr ⟨_, _, rfl⟩)).mono ?_
    rintro e w' ⟨N, rfl, _, _, hb⟩
    exact ⟨_, N, rfl, hb⟩
  · refine (Any.strconv_ParseInt_10_at64_range Tryd.laysC174 s hs hp _ w h2 (.inr ⟨_, _, rfl⟩)).mono ?_
    rintro e w' ⟨N, rfl, _, _, hb⟩
    exact ⟨_, N, rfl, hb⟩
theorem parseU8_ok (s : ByteArray) (hs : s.size ≤ 281474976710656) (v : Nat) (h : u8At s = some v) (w : World) : Calls Tryd.prog 31 #[.string s, .int .i64 10, .int .i64 8] w (RetB (.tuple #[.int .u64 (v : Int), .nilIface]) w) := by
  have h' : Lib.parseUintB 8 s.data.toList = .ok v := by
    unfold u8At at h
    split at h
    · injection h with h; subst h; assumption
    · cases h
  refine (Tryd.strconv_ParseUint_10_at8_ok s (by omega) v h' w).mono ?_
  rintro e w' ⟨rfl, rfl | rfl⟩
  · exact ⟨rfl, Below.refl _ _⟩
  · exact ⟨rfl, Lib.bytesWorld_below _ _ _⟩
theorem parseU8_bad (s : ByteArray) (hs : s.size ≤ 281474976710656) (h : u8At s = none) (w : World) (hV : VW w) : Calls Tryd.prog 31 #[.string s, .int .i64 10, .int .i64 8] w (BadI .u64 w) := by
  obtain ⟨te, pe, h1⟩ := hV.syn
  obtain ⟨te2, pe2, h2⟩ := hV.rng
  rcases hp : Lib.parseUintB 8 s.data.toList with v | _ | _
  · unfold u8At at h; rw [hp] at h; cases h
  · refine (Any.strconv_ParseUint_10_at8_syntax Tryd.laysPu14 s hs hp _ w h1 (.inr ⟨_, _, rfl⟩)).mono ?_
    rintro e w' ⟨N, rfl, _, _, hb⟩
    exact ⟨_, N, rfl, hb⟩
  · refine (Any.strconv_ParseUint_10_at8_range Tryd.laysPu14 s hs hp _ w h2 (.inr ⟨_, _, rfl⟩)).mono ?_
    rintro e w' ⟨N, rfl, _, _, hb⟩
    exact ⟨_, N, rfl, hb⟩
theorem u8At_le {s : ByteArray} {v : Nat} (h : u8At s = some v) : v ≤ 255 := by
  have key : ∀ (l : List UInt8) (acc : Nat), acc ≤ 255 → ∀ v, Lib.parseUintM 255 acc l = .ok v → v ≤ 255 := by
    intro l
    induction l with
    | nil => intro acc ha v hv; simp [Lib.parseUintM] at hv; omega
    | cons c l ih =>
      intro acc ha v hv
      unfold Lib.parseUintM at hv
      split at hv
      · split at hv
        · cases hv
        · split at hv
          · cases hv
          · exact ih _ (by omega) v hv
      · cases hv
  unfold u8At at h
  split at h
  · injection h with h
    subst h
    rename_i hp
    unfold Lib.parseUintB at hp
    split at hp
    · cases hp
    · exact key _ 0 (by omega) _ hp
  · cases h
theorem intAt_bd {s : ByteArray} {v : Int} (h : intAt s = some v) : -9223372036854775808 ≤ v ∧ v ≤ 9223372036854775807 := by
  unfold intAt at h
  split at h
  · injection h with h
    subst h
    rename_i hp
    unfold Lib.parseIntB at hp
    split at hp
    · cases hp
    · simp only [] at hp
      split at hp
      · cases hp
      · cases hp
      · split at hp
        · cases hp
        · split at hp
          · cases hp
          · injection hp with hp
            subst hp
            simp at *
            split <;> omega
  · cases h
/-- The year's text, and the i-th two digits behind it. -/
def yrS (s : ByteArray) : ByteArray := s.extract 0 (s.size - 15)
def pcS (s : ByteArray) (i : Nat) : ByteArray := s.extract (s.size - 15 + 1 + 3 * i) (s.size - 15 + 3 + 3 * i)
/-- A text is read as a date. -/
def Parsed (s : ByteArray) (Y : Int) (k0 k1 k2 k3 k4 : Nat) : Prop :=
  19 ≤ s.size ∧ intAt (yrS s) = some Y ∧ u8At (pcS s 0) = some k0 ∧ u8At (pcS s 1) = some k1 ∧ u8At (pcS s 2) = some k2 ∧ u8At (pcS s 3) = some k3 ∧ u8At (pcS s 4) = some k4 ∧ textV Y k0 k1 k2 k3 k4 = s
def ParseEnd (s : ByteArray) (w : World) (e : Ending) (w' : World) : Prop :=
  Below w.heap.size w w' ∧ ((∃ Y k0 k1 k2 k3 k4, Parsed s Y k0 k1 k2 k3 k4 ∧ e = .returned (.tuple #[dateV Y k0 k1 k2 k3 k4, .int .u8 0])) ∨ ((∀ Y k0 k1 k2 k3 k4, ¬ Parsed s Y k0 k1 k2 k3 k4) ∧ e = .returned (.tuple #[dateV 0 0 0 0 0 0, .int .u8 15])))
theorem pcS_size (s : ByteArray) (i : Nat) : (pcS s i).size ≤ s.size := by unfold pcS; rw [ByteArray.size_extract]; omega
theorem yrS_size (s : ByteArray) : (yrS s).size ≤ s.size := by unfold yrS; rw [ByteArray.size_extract]; omega
/-- The six numbers after i rounds. -/
def arrI (Y : Int) (k : Nat → Nat) (i : Nat) : Array Value := #[.int .i64 Y, .int .i64 (if 0 < i then (k 0 : Int) else 0), .int .i64 (if 1 < i then (k 1 : Int) else 0), .int .i64 (if 2 < i then (k 2 : Int) else 0), .int .i64 (if 3 < i then (k 3 : Int) else 0), .int .i64 (if 4 < i then (k 4 : Int) else 0)]
theorem arrI_set (Y : Int) (k : Nat → Nat) (i : Nat) (h : i < 5) : (arrI Y k i).setIfInBounds (i + 1) (.int .i64 (k i : Int)) = arrI Y k (i + 1) := by
  have : i = 0 ∨ i = 1 ∨ i = 2 ∨ i = 3 ∨ i = 4 := by omega
  rcases this with rfl | rfl | rfl | rfl | rfl <;> simp [arrI]
theorem results_cell_tmp_row {P : Program} {fn : Func} {p u : Tmp} {ty : TypeId} (h : fn.results = #[.cell p ty, .tmp u]) (tmps : Array Value) (w : World) (g : Nat) (t : TypeId) (cs : Array Value) (fr : Nat × Nat) (d : TypeDesc)
    (hp : tmps.getD p undef = .pointer (some ⟨g, 0, none⟩)) (hg : w.heap[g]? = some (.cells cs t fr))
    (hu : P.underlying ty = some d) (hd : (match d with | .struct _ | .array _ _ => true | _ => false) = true) (hi : (P.info? ty).map (·.size) = some cs.size) :
    (results fn tmps).run P w = .ok (.tuple #[.agg cs, tmps.getD u undef]) w := by
  rw [results_cell_tmp h tmps P w, hp]
  simp [asAddr, Result.andThen, run_loadVar_row w g t ty cs fr d hg hu hd hi]
theorem six_cells {W : World} {g : Nat} {v0 v1 v2 v3 v4 v5 : Value} {t : TypeId} (h : W.heap[g]? = some (.cells #[v0, v1, v2, v3, v4, v5] t (0, 0))) :
    W.cell? ⟨g, 0, none⟩ = some v0 ∧ W.cell? ⟨g, 1, none⟩ = some v1 ∧ W.cell? ⟨g, 2, none⟩ = some v2 ∧ W.cell? ⟨g, 3, none⟩ = some v3 ∧ W.cell? ⟨g, 4, none⟩ = some v4 ∧ W.cell? ⟨g, 5, none⟩ = some v5 := by
  refine ⟨?_, ?_, ?_, ?_, ?_, ?_⟩ <;> (simp only [World.cell?, h]; rfl)
theorem blk_frozen {W : World} {g : Nat} {cs : Array Value} {t : TypeId} (h : W.heap[g]? = some (.cells cs t (0, 0))) (j : Nat) : W.frozen? ⟨g, j, none⟩ = false := by
  simp [World.frozen?, h]
theorem blk_other (w : World) (a : Addr) (u : Value) (k : Nat) (h : k ≠ a.block) : (w.setCell a u).heap[k]? = w.heap[k]? := Below.heap_setCell w a u k h
theorem chan_lt {w : World} {c : Nat} {o : Obj} (hc : w.heap[c]? = some o) : c < w.heap.size := by
  rcases Nat.lt_or_ge c w.heap.size with h | h
  · exact h
  · rw [Array.getElem?_eq_none h] at hc; cases hc
def ParRel (s : ByteArray) (w : World) (b g : Nat) (Y : Int) (k : Nat → Nat) (n : Nat) (v29 : Value) (wr : World) : Prop :=
  ∃ i : Nat, v29 = .int .i64 (i : Int) ∧ i + n = 5 ∧ (∀ j, j < i → u8At (pcS s j) = some (k j)) ∧ Below w.heap.size w wr ∧ wr.heap[g]? = some (.cells #[.int .i64 0, .int .i64 0, .int .i64 0, .int .i64 0, .int .i64 0, .int .i64 0] 23 (0, 0)) ∧ wr.heap[b]? = some (.cells (arrI Y k i) 31 (0, 0))
theorem str_inj {a b : ByteArray} (h : a.toList = b.toList) : a = b := by
  rw [ByteArray.toList_eq, ByteArray.toList_eq] at h
  exact Go.WideShapes.bytes_inj h
theorem parse_no {s : ByteArray} {w W : World} (h : ∀ Y k0 k1 k2 k3 k4, ¬ Parsed s Y k0 k1 k2 k3 k4) (hb : Below w.heap.size w W) : ParseEnd s w (.returned (.tuple #[.agg #[.int .i64 0, .int .i64 0, .int .i64 0, .int .i64 0, .int .i64 0, .int .i64 0], .int .u8 15])) W := ⟨hb, .inr ⟨h, rfl⟩⟩
set_option maxRecDepth 100000 in
set_option maxHeartbeats 4000000 in
theorem parse_calls (s : ByteArray) (hs : s.size ≤ 1000) (w : World) (hV : VW w) : Calls Tryd.prog 18 #[.string s] w (ParseEnd s w) := by
  by_cases h19 : s.size < 19
  · have d19 : decide ((s.size : Int) < 19) = true := decide_eq_true (by omega)
    have d19' : decide (s.size < 19) = true := decide_eq_true h19
    clear hV
    go_enter Tryd.func18, Tryd.ntmps18
    go_wp2_with fail
    refine bodyPost_ret (results_cell_tmp_row (p := 2) (u := 3) rfl _ _ w.heap.size 23 _ (0, 0) _ rfl (heap_alloc_new w _) Tryd.underlying23 rfl (by kernel_rfl)) rfl ⟨(Below.refl w.heap.size w).alloc (Nat.le_refl _) _, .inr ⟨fun Y k0 k1 k2 k3 k4 hp => absurd hp.1 (by omega), rfl⟩⟩
  · have d19 : decide ((s.size : Int) < 19) = false := decide_eq_false (by omega)
    have d19' : decide (s.size < 19) = false := decide_eq_false h19
    obtain ⟨a, ha⟩ : ∃ a, s.size - 15 = a := ⟨_, rfl⟩
    have hat : (s.size : Int) - 15 = (a : Int) := by omega
    have hsy : ∀ W : World, (Instr.slice 9 (.string s) none (some (.int .i64 (a : Int))) none).run Tryd.prog W = .ok (.string (yrS s)) W := fun W => by
      rw [show yrS s = s.extract 0 ((a : Int)).toNat by unfold yrS; rw [ha]; simp]
      exact run_slice_string_h W 9 s Tryd.underlying9 .i64 (a : Int) (by omega) (by omega)
    have HA := Lib.hid ha
    have HAT := Lib.hid hat
    have hab : 4 ≤ a ∧ a ≤ 1000 := by omega
    have HY := Lib.hid (yrS_size s)
    have hB0 : Below w.heap.size w ((w.alloc (.cells #[.int .i64 0, .int .i64 0, .int .i64 0, .int .i64 0, .int .i64 0, .int .i64 0] 23)).alloc (.cells #[.int .i64 0, .int .i64 0, .int .i64 0, .int .i64 0, .int .i64 0, .int .i64 0] 31)) := ((Below.refl w.heap.size w).alloc (Nat.le_refl _) _).alloc (by simp) _
    have HB0 := Lib.hid hB0
    have HV0 := Lib.hid (hV.below hB0)
    have HVW := Lib.hid hV
    have HG0 := Lib.hid (heap_alloc2_old w (.cells #[.int .i64 0, .int .i64 0, .int .i64 0, .int .i64 0, .int .i64 0, .int .i64 0] 23) (.cells #[.int .i64 0, .int .i64 0, .int .i64 0, .int .i64 0, .int .i64 0, .int .i64 0] 31))
    have HN0 := Lib.hid (heap_alloc2_new w (.cells #[.int .i64 0, .int .i64 0, .int .i64 0, .int .i64 0, .int .i64 0, .int .i64 0] 23) (.cells #[.int .i64 0, .int .i64 0, .int .i64 0, .int .i64 0, .int .i64 0, .int .i64 0] 31))
    clear hV hB0 ha hat
    go_enter Tryd.func18, Tryd.ntmps18
    go_upto_region 4 with (fail)
    simp only [HAT.out]
    go_wp2_with fail
    generalize ((w.alloc (.cells #[.int .i64 0, .int .i64 0, .int .i64 0, .int .i64 0, .int .i64 0, .int .i64 0] 23)).alloc (.cells #[.int .i64 0, .int .i64 0, .int .i64 0, .int .i64 0, .int .i64 0, .int .i64 0] 31)) = w1 at HB0 HV0 HG0 HN0 ⊢
    cases hy : intAt (yrS s) with
    | none =>
      have HNO := Lib.hid (show ∀ Y k0 k1 k2 k3 k4, ¬ Parsed s Y k0 k1 k2 k3 k4 from fun Y k0 k1 k2 k3 k4 hp => by rw [hp.2.1] at hy; cases hy)
      have HC := Lib.hid (parseInt_bad (yrS s) (by have := HY.out; omega) hy w1 HV0.out)
      clear hy
      (with_reducible refine HC.out.mono ?_)
      rintro e w2 ⟨x, N, rfl, hb⟩
      have hlt : w.heap.size < w1.heap.size := chan_lt HG0.out
      have hG := (hb.block _ hlt).trans HG0.out
      have hB := HB0.out.trans (hb.mono HB0.out.size)
      have hG1 := (blk_other w2 ⟨w.heap.size + 1, 0, none⟩ (.int .i64 x) w.heap.size (by simp)).trans hG
      have hB1 := hB.setCell (p := ⟨w.heap.size + 1, 0, none⟩) (by simp) (.int .i64 x)
      have HW := Lib.hid (And.intro hG1 hB1)
      have hlt2 : w.heap.size + 1 < w1.heap.size := chan_lt HN0.out
      have hN := (hb.block _ hlt2).trans HN0.out
      obtain ⟨n0, _, _, _, _, _⟩ := six_cells hN
      have nf := blk_frozen hN 0
      obtain ⟨g0, g1, g2, g3, g4, g5⟩ := six_cells hG
      have gf := blk_frozen hG
      clear hG hB hG1 hB1 hb hlt HC HN0 HG0 HB0 HV0 hlt2 hN
      go_wp2_with fail
      refine bodyPost_ret (results_cell_tmp_row (p := 2) (u := 3) rfl _ _ w.heap.size 23 _ (0, 0) _ rfl (six_set HW.out.1 _ _ _ _ _ _) Tryd.underlying23 rfl (by kernel_rfl)) rfl ?_
      exact parse_no HNO.out (six_below HW.out.2 (Nat.le_refl _) _ _ _ _ _ _)
    | some Y =>
      have HC := Lib.hid (parseInt_ok (yrS s) (by have := HY.out; omega) Y hy w1)
      have HYO := Lib.hid hy
      have HYB := Lib.hid (intAt_bd hy)
      clear hy
      (with_reducible refine HC.out.mono ?_)
      rintro e w2 ⟨rfl, hb⟩
      have hlt : w.heap.size < w1.heap.size := chan_lt HG0.out
      have hlt2 : w.heap.size + 1 < w1.heap.size := chan_lt HN0.out
      have hG := (hb.block _ hlt).trans HG0.out
      have hN := (hb.block _ hlt2).trans HN0.out
      have hB := HB0.out.trans (hb.mono HB0.out.size)
      obtain ⟨k, hk⟩ : ∃ k : Nat → Nat, ∀ i, k i = (u8At (pcS s i)).getD 0 := ⟨fun i => (u8At (pcS s i)).getD 0, fun i => rfl⟩
      have HR0 := Lib.hid (show ParRel s w (w.heap.size + 1) w.heap.size Y k 5 (.int .i64 0) (w2.setCell ⟨w.heap.size + 1, 0, none⟩ (.int .i64 Y)) from
        ⟨0, rfl, rfl, fun j hj => absurd hj (by omega), hB.setCell (p := ⟨w.heap.size + 1, 0, none⟩) (by simp) _, (blk_other w2 ⟨w.heap.size + 1, 0, none⟩ (.int .i64 Y) w.heap.size (by simp)).trans hG, by
          have := Go.Joins.block_setCell (i := 0) hN (.int .i64 Y)
          simpa [arrI] using this⟩)
      have HK := Lib.hid hk
      obtain ⟨n0, _, _, _, _, _⟩ := six_cells hN
      have nf := blk_frozen hN 0
      clear hG hN hB hb hlt hlt2 HC HN0 HG0 HB0 HV0 hk
      go_wp2_with fail
      have hab2 : (a : Int) ≤ 1000 := by omega
      go_loopg [29] 5 (fun n v29 wr => ParRel s w (w.heap.size + 1) w.heap.size Y k n v29 wr)
      case atStart => exact HR0.out
      case round =>
        clear HR0 n0 nf
        obtain ⟨i, rfl, hi, hks, hB, hG, hN⟩ := hrel
        obtain ⟨g0, g1, g2, g3, g4, g5⟩ := six_cells hG
        have gf := blk_frozen hG
        have HR := Lib.hid (And.intro hks (And.intro hB (And.intro hG hN)))
        clear hks hB
        by_cases hlt : i < 5
        · have di : decide ((i : Int) < 5) = true := decide_eq_true (by omega)
          have hsp : ∀ W : World, (Instr.slice 9 (.string s) (some (.int .i64 ((a : Int) + 1 + 3 * (i : Int)))) (some (.int .i64 ((a : Int) + 3 + 3 * (i : Int)))) none).run Tryd.prog W = .ok (.string (pcS s i)) W := fun W => by
            have hz := HA.out
            rw [run_slice_string_if W 9 s .i64 .i64 _ _ Tryd.underlying9, if_pos (by omega), if_pos (by omega)]
            unfold pcS
            rw [hz, show ((a : Int) + 1 + 3 * (i : Int)).toNat = a + 1 + 3 * i by omega, show ((a : Int) + 3 + 3 * (i : Int)).toNat = a + 3 + 3 * i by omega]
          cases hu : u8At (pcS s i) with
          | none =>
            have HNO := Lib.hid (show ∀ Y k0 k1 k2 k3 k4, ¬ Parsed s Y k0 k1 k2 k3 k4 from fun Y k0 k1 k2 k3 k4 hp => by
              obtain ⟨_, _, p0, p1, p2, p3, p4, _⟩ := hp
              have : i = 0 ∨ i = 1 ∨ i = 2 ∨ i = 3 ∨ i = 4 := by omega
              rcases this with rfl | rfl | rfl | rfl | rfl <;> simp_all)
            have HC := Lib.hid (parseU8_bad (pcS s i) (by have := pcS_size s i; omega) hu wr (HVW.out.below HR.out.2.1))
            clear hu hG hN
            go_wp2_with fail
            (with_reducible refine HC.out.mono ?_)
            rintro e w3 ⟨x, N, rfl, hb⟩
            have hG3 := (hb.block _ (chan_lt HR.out.2.2.1)).trans HR.out.2.2.1
            have hB3 := HR.out.2.1.trans (hb.mono HR.out.2.1.size)
            obtain ⟨h0, h1, h2, h3, h4, h5⟩ := six_cells hG3
            have hf := blk_frozen hG3
            have HW := Lib.hid (And.intro hG3 hB3)
            clear hG3 hB3 hb HC HR g0 g1 g2 g3 g4 g5 gf
            go_wp2_with fail
            refine bodyPost_ret (results_cell_tmp_row (p := 2) (u := 3) rfl _ _ w.heap.size 23 _ (0, 0) _ rfl (six_set HW.out.1 _ _ _ _ _ _) Tryd.underlying23 rfl (by kernel_rfl)) rfl ?_
            exact parse_no HNO.out (six_below HW.out.2 (Nat.le_refl _) _ _ _ _ _ _)
          | some u =>
            have hku : u = k i := by rw [HK.out i, hu]; rfl
            subst hku
            have hkb := u8At_le hu
            have HC := Lib.hid (parseU8_ok (pcS s i) (by have := pcS_size s i; omega) (k i) hu wr)
            have HU := Lib.hid hu
            clear hu hG hN g0 g1 g2 g3 g4 g5 gf
            go_wp2_with fail
            (with_reducible refine HC.out.mono ?_)
            rintro e w3 ⟨rfl, hb⟩
            have hG3 := (hb.block _ (chan_lt HR.out.2.2.1)).trans HR.out.2.2.1
            have hN3 := (hb.block _ (chan_lt HR.out.2.2.2)).trans HR.out.2.2.2
            have hB3 := HR.out.2.1.trans (hb.mono HR.out.2.1.size)
            obtain ⟨vi, hvi⟩ : ∃ v, w3.cell? ⟨w.heap.size + 1, i + 1, none⟩ = some v := by
              have : i = 0 ∨ i = 1 ∨ i = 2 ∨ i = 3 ∨ i = 4 := by omega
              obtain ⟨c0, c1, c2, c3, c4, c5⟩ := six_cells (show w3.heap[w.heap.size + 1]? = some (.cells #[_, _, _, _, _, _] 31 (0, 0)) from hN3)
              rcases this with rfl | rfl | rfl | rfl | rfl
              · exact ⟨_, c1⟩
              · exact ⟨_, c2⟩
              · exact ⟨_, c3⟩
              · exact ⟨_, c4⟩
              · exact ⟨_, c5⟩
            have hvf := blk_frozen hN3 (i + 1)
            have HREL := Lib.hid (show ParRel s w (w.heap.size + 1) w.heap.size Y k (gk - 1) (.int .i64 ((i : Int) + 1)) (w3.setCell ⟨w.heap.size + 1, i + 1, none⟩ (.int .i64 (k i : Int))) from
              ⟨i + 1, by simp, by omega, fun j hj => by
                rcases Nat.lt_or_ge j i with h | h
                · exact HR.out.1 j h
                · obtain rfl : j = i := by omega
                  exact HU.out, hB3.setCell (p := ⟨w.heap.size + 1, i + 1, none⟩) (by simp) _, (blk_other w3 ⟨w.heap.size + 1, i + 1, none⟩ _ w.heap.size (by simp)).trans hG3, by
                have := Go.Joins.block_setCell (i := i + 1) hN3 (.int .i64 (k i : Int))
                rw [arrI_set Y k i hlt] at this
                exact this⟩)
            clear hG3 hN3 hB3 hb HC HR HU
            have hi1 : (0 : Int) ≤ (i : Int) + 1 := by omega
            have hi2 : (i : Int) + 1 < 6 := by omega
            have hi3 : ((i : Int) + 1).toNat = i + 1 := by omega
            go_wp2_with fail
            go_roundg (gk - 1)
            case rel => exact HREL.out
            case measure => omega
        · obtain rfl : i = 5 := by omega
          have di : decide ((5 : Int) < 5) = false := by decide
          obtain ⟨hks, hB, hG5, hN5⟩ := HR.out
          obtain ⟨c0, c1, c2, c3, c4, c5⟩ := six_cells (show wr.heap[w.heap.size + 1]? = some (.cells #[.int .i64 Y, .int .i64 (k 0 : Int), .int .i64 (k 1 : Int), .int .i64 (k 2 : Int), .int .i64 (k 3 : Int), .int .i64 (k 4 : Int)] 31 (0, 0)) from hN5)
          have hw10 := (Below.refl wr.heap.size wr).alloc (Nat.le_refl _) (.cells #[.int .i64 Y, .int .i64 (k 0 : Int), .int .i64 (k 1 : Int), .int .i64 (k 2 : Int), .int .i64 (k 3 : Int), .int .i64 (k 4 : Int)] 23)
          have hB10 := hB.trans (hw10.mono hB.size)
          have HC := Lib.hid (text_calls Y (k 0) (k 1) (k 2) (k 3) (k 4) (wr.alloc (.cells #[.int .i64 Y, .int .i64 (k 0 : Int), .int .i64 (k 1 : Int), .int .i64 (k 2 : Int), .int .i64 (k 3 : Int), .int .i64 (k 4 : Int)] 23)) (HVW.out.below hB10) HYB.out.1 HYB.out.2)
          have hG10 := (hw10.block _ (chan_lt hG5)).trans hG5
          have HS := Lib.hid (And.intro hB10 hG10)
          have HKS := Lib.hid hks
          clear hks hB hG5 hN5 hw10 hB10 hG10 HR hG hN g0 g1 g2 g3 g4 g5 gf hi
          go_wp2_with fail
          (with_reducible refine HC.out.mono ?_)
          rintro e w4 ⟨rfl, hb⟩
          have hD := (hb.block wr.heap.size (by simp)).trans (heap_alloc_new wr (.cells #[.int .i64 Y, .int .i64 (k 0 : Int), .int .i64 (k 1 : Int), .int .i64 (k 2 : Int), .int .i64 (k 3 : Int), .int .i64 (k 4 : Int)] 23))
          have hG4 := (hb.block _ (chan_lt HS.out.2)).trans HS.out.2
          have hB4 := HS.out.1.trans (hb.mono HS.out.1.size)
          obtain ⟨c0, c1, c2, c3, c4, c5⟩ := six_cells hD
          obtain ⟨g0, g1, g2, g3, g4, g5⟩ := six_cells hG4
          have gf := blk_frozen hG4
          have HW := Lib.hid (And.intro hG4 hB4)
          clear hD hG4 hB4 hb HC HS
          by_cases hts : textV Y (k 0) (k 1) (k 2) (k 3) (k 4) = s
          · have hq : ((textV Y (k 0) (k 1) (k 2) (k 3) (k 4)).toList == s.toList) = true := by rw [hts]; exact beq_self_eq_true _
            have HP := Lib.hid (show Parsed s Y (k 0) (k 1) (k 2) (k 3) (k 4) from ⟨by omega, HYO.out, HKS.out 0 (by decide), HKS.out 1 (by decide), HKS.out 2 (by decide), HKS.out 3 (by decide), HKS.out 4 (by decide), hts⟩)
            clear hts
            go_wp2_with fail
            refine bodyPost_ret (results_cell_tmp_row (p := 2) (u := 3) rfl _ _ w.heap.size 23 _ (0, 0) _ rfl (six_set HW.out.1 _ _ _ _ _ _) Tryd.underlying23 rfl (by kernel_rfl)) rfl ?_
            exact ⟨six_below HW.out.2 (Nat.le_refl _) _ _ _ _ _ _, .inl ⟨Y, k 0, k 1, k 2, k 3, k 4, HP.out, rfl⟩⟩
          · have hq : ((textV Y (k 0) (k 1) (k 2) (k 3) (k 4)).toList == s.toList) = false := beq_eq_false_iff_ne.2 fun e => hts (str_inj e)
            have HNO := Lib.hid (show ∀ Y k0 k1 k2 k3 k4, ¬ Parsed s Y k0 k1 k2 k3 k4 from fun Y' k0 k1 k2 k3 k4 hp => by
              obtain ⟨_, p, p0, p1, p2, p3, p4, p5⟩ := hp
              have e := HYO.out.symm.trans p
              have e0 := (HKS.out 0 (by decide)).symm.trans p0
              have e1 := (HKS.out 1 (by decide)).symm.trans p1
              have e2 := (HKS.out 2 (by decide)).symm.trans p2
              have e3 := (HKS.out 3 (by decide)).symm.trans p3
              have e4 := (HKS.out 4 (by decide)).symm.trans p4
              injection e with e; injection e0 with e0; injection e1 with e1; injection e2 with e2; injection e3 with e3; injection e4 with e4
              subst e e0 e1 e2 e3 e4
              exact hts p5)
            clear hts
            go_wp2_with fail
            refine bodyPost_ret (results_cell_tmp_row (p := 2) (u := 3) rfl _ _ w.heap.size 23 _ (0, 0) _ rfl (six_set HW.out.1 _ _ _ _ _ _) Tryd.underlying23 rfl (by kernel_rfl)) rfl ?_
            exact parse_no HNO.out (six_below HW.out.2 (Nat.le_refl _) _ _ _ _ _ _)
end Go.Proofs.YtkjglhehlkjfgaaDoor.Hand
