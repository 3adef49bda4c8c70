/- The law QueuePlays: its walk: for two rooms and any list of acts that came in the law comes to true. -/
import Derived.Test.YtfoenpdfmhmkiaaPlayG
import Derived.Deep.LoopGhost
set_option linter.unusedVariables false
set_option linter.unusedSimpArgs false
namespace Go.Proofs.YtfoenpdfmhmkiaaPlay
open Go.RowKit Go.Proofs.YtfoenpdfmhmkiaaW.PrintWords Go.Proofs.YtfoenpdfmhmkiaaW.PrintLast Go.Proofs.YtfoenpdfmhmkiaaW.PrintMore Go.Proofs.YtfoenpdfmhmkiaaW.HKit Go.Proofs.YtfoenpdfmhmkiaaW.Mv Go.Proofs.YtfoenpdfmhmkiaaW.But Go.Proofs.Ytfoenpdfmhmkiaa.PQueuePlays
open Go.Proofs.YtfoenpdfmhmkiaaLone (newJ alive_calls)
set_option maxRecDepth 100000 in
theorem new_nil (a : Int) (w : World) (h : ¬ (1 ≤ a ∧ a ≤ 4096)) : Calls Try.prog 12 #[.int .i64 a] w fun e w' => e = .returned (.pointer none) ∧ w' = w := by
  by_cases h1 : a < 1
  · have d1 : decide (a < 1) = true := decide_eq_true h1
    clear h h1
    go_enter Try.func12, Try.ntmps12
    go_wp2_with fail
    go_ret
    exact ⟨rfl, rfl⟩
  · have d1 : decide (a < 1) = false := decide_eq_false h1
    have d2 : decide (4096 < a) = true := decide_eq_true (by omega)
    clear h h1
    go_enter Try.func12, Try.ntmps12
    go_wp2_with fail
    go_ret
    exact ⟨rfl, rfl⟩
/-- A new queue of any room: none, if the room is out of bounds. -/
theorem new_q (a : Int) (w : World) : Calls Try.prog 12 #[.int .i64 a] w fun e w' => ∃ o : Option (Nat × Nat), e = .returned (qv o) ∧ QAt w' o (if 1 ≤ a ∧ a ≤ 4096 then a.toNat else 0) [] ∧ Below w.heap.size w w' ∧ (∀ q c, o = some (q, c) → w.heap.size ≤ q ∧ w.heap.size ≤ c ∧ q < w'.heap.size ∧ c < w'.heap.size) ∧ ((1 ≤ a ∧ a ≤ 4096) → o ≠ none) ∧ (¬ (1 ≤ a ∧ a ≤ 4096) → o = none) := by
  by_cases h : 1 ≤ a ∧ a ≤ 4096
  · obtain ⟨n, rfl⟩ := Int.eq_ofNat_of_zero_le (show 0 ≤ a by omega)
    refine (newJ n (by omega) (by omega) w).mono ?_
    rintro e w' ⟨rfl, rfl⟩
    have e1 : (w.alloc (.chan n #[] false 0 0 false)).heap.size = w.heap.size + 1 := by simp
    rw [if_pos h, Int.toNat_natCast]
    refine ⟨some (w.heap.size + 1, w.heap.size), rfl, ⟨blk_new2 w _ _, ⟨0, 0, blk_alloc_ (heap_alloc_new w _) _⟩, by omega, by omega, Nat.zero_le _⟩, ((Below.refl _ w).alloc (Nat.le_refl _) _).alloc (by omega) _, ?_, fun _ h => (by cases h), fun h' => absurd h h'⟩
    intro q c hqc
    injection hqc with hqc
    injection hqc with h1 h2
    subst h1 h2
    exact ⟨Nat.le_succ _, Nat.le_refl _, by simp, by simp; omega⟩
  · refine (new_nil a w h).mono ?_
    rintro e w' ⟨rfl, rfl⟩
    rw [if_neg h]
    exact ⟨none, rfl, ⟨rfl, rfl⟩, Below.refl _ _, fun q c hqc => (by cases hqc), fun h' => absurd h' h, fun _ => rfl⟩
/-- The state of the walk. -/
structure PS (w W : World) (o0 o1 : Option (Nat × Nat)) (m0 m1 : Nat) (l0 l1 k0 k1 : List Int) (v0 v1 x0 x1 : Value) (G7 G8 : Nat) (A : Option Addr) (c : Nat) (xs : List (Int × Int × Bool)) : Prop where
  old : Below w.heap.size w W
  ap : Apart o0 o1
  q0 : QAt W o0 m0 l0
  q1 : QAt W o1 m1 l1
  r0 : RV W v0 k0
  r1 : RV W v1 k1
  b7 : W.heap[G7]? = some (.cells #[qv o0, qv o1] 34 (0, 0))
  b8 : W.heap[G8]? = some (.cells #[v0, x0, v1, x1] 38 (0, 0))
  acts : ActsAt w A c xs
  n7 : w.heap.size ≤ G7
  n8 : w.heap.size ≤ G8
  ch : ∀ k, ChF2 o0 o1 k → w.heap.size ≤ k
section
variable {w W W' : World} {o0 o1 : Option (Nat × Nat)} {m0 m1 : Nat} {l0 l1 k0 k1 l0' l1' : List Int} {v0 v1 x0 x1 : Value} {G7 G8 : Nat} {A : Option Addr} {c : Nat} {xs : List (Int × Int × Bool)}
theorem PS.below (h : PS w W o0 o1 m0 m1 l0 l1 k0 k1 v0 v1 x0 x1 G7 G8 A c xs) (hb : Below W.heap.size W W') : PS w W' o0 o1 m0 m1 l0 l1 k0 k1 v0 v1 x0 x1 G7 G8 A c xs := by
  have hB := But.of_below (fun _ => False) hb
  exact ⟨h.old.trans (hb.mono h.old.size), h.ap, h.q0.below hb, h.q1.below hb, h.r0.below hb, h.r1.below hb, hB.heap h.b7 id, hB.heap h.b8 id, h.acts, h.n7, h.n8, h.ch⟩
theorem PS.drew (h : PS w W o0 o1 m0 m1 l0 l1 k0 k1 v0 v1 x0 x1 G7 G8 A c xs) : PS w W.drew o0 o1 m0 m1 l0 l1 k0 k1 v0 v1 x0 x1 G7 G8 A c xs := h.below (below_drew (Below.refl _ W))
theorem PS.alloc (h : PS w W o0 o1 m0 m1 l0 l1 k0 k1 v0 v1 x0 x1 G7 G8 A c xs) (o : Obj) : PS w (W.alloc o) o0 o1 m0 m1 l0 l1 k0 k1 v0 v1 x0 x1 G7 G8 A c xs := h.below (below_alloc (Below.refl _ W) o)
/-- One cell of the numbers' box, or the whole box. -/
theorem PS.put {u0 u1 y0 y1 : Value} {j0 j1 : List Int} (h : PS w W o0 o1 m0 m1 l0 l1 k0 k1 v0 v1 x0 x1 G7 G8 A c xs) (hb : But (fun k => k = G8) W W') (hs : Below w.heap.size w W') (h8 : W'.heap[G8]? = some (.cells #[u0, y0, u1, y1] 38 (0, 0))) (r0 : RV W u0 j0) (r1 : RV W u1 j1) : PS w W' o0 o1 m0 m1 l0 l1 j0 j1 u0 u1 y0 y1 G7 G8 A c xs := by
  have h78 : G7 ≠ G8 := by
    rintro rfl
    have h1 := h.b7
    rw [h.b8] at h1
    injection h1 with h1
    injection h1 with _ h1 _
    exact absurd h1 (by decide)
  exact ⟨hs, h.ap, h.q0.far hb h.b8 (by decide), h.q1.far hb h.b8 (by decide), r0.far hb h.b8 (by decide), r1.far hb h.b8 (by decide), hb.heap h.b7 h78, h8, h.acts, h.n7, h.n8, h.ch⟩
theorem PS.lts (h : PS w W o0 o1 m0 m1 l0 l1 k0 k1 v0 v1 x0 x1 G7 G8 A c xs) : G7 < W.heap.size ∧ G8 < W.heap.size := ⟨blk_lt h.b7, blk_lt h.b8⟩
theorem PS.nine {a0 a1 a2 : Addr} {u0 u1 u2 : Value} {p0 p1 : Option Addr} (h : PS w W o0 o1 m0 m1 l0 l1 k0 k1 v0 v1 x0 x1 G7 G8 A c xs) (ha : w.cell? a0 = some u0 ∧ w.cell? a1 = some u1 ∧ w.cell? a2 = some u2) (e0 : qv o0 = .pointer p0) (e1 : qv o1 = .pointer p1) :
    W.cell? ⟨G7, 0, none⟩ = some (.pointer p0) ∧ W.cell? ⟨G7, 1, none⟩ = some (.pointer p1) ∧ W.cell? ⟨G8, 0, none⟩ = some v0 ∧ W.cell? ⟨G8, 1, none⟩ = some x0 ∧ W.cell? ⟨G8, 2, none⟩ = some v1 ∧ W.cell? ⟨G8, 3, none⟩ = some x1 ∧ W.cell? a0 = some u0 ∧ W.cell? a1 = some u1 ∧ W.cell? a2 = some u2 := by
  have h7 := h.b7
  rw [e0, e1] at h7
  obtain ⟨t0, t1⟩ := two_cells h7
  obtain ⟨g0, g1, g2, g3⟩ := four_cells h.b8
  exact ⟨t0, t1, g0, g1, g2, g3, pw_cell_below h.old ha.1, pw_cell_below h.old ha.2.1, pw_cell_below h.old ha.2.2⟩
theorem act_box {g : Nat} {cs : Array Value} {t : TypeId} (h : PS w W o0 o1 m0 m1 l0 l1 k0 k1 v0 v1 x0 x1 G7 G8 A c xs) (hb : But (ChF2 o0 o1) W W') (hg : W.heap[g]? = some (.cells cs t (0, 0))) : W'.heap[g]? = some (.cells cs t (0, 0)) := by
  refine hb.heap hg fun hk => ?_
  have hch : ∃ cap buf a s r b, W.heap[g]? = some (.chan cap buf a s r b) := by
    rcases hk with hk | hk
    · exact h.q0.chan g hk
    · exact h.q1.chan g hk
  obtain ⟨cap, buf, a, s, r, b, hc⟩ := hch
  rw [hg] at hc
  cases hc
theorem PS.box4 {g : Nat} {cs : Array Value} (h : PS w W o0 o1 m0 m1 l0 l1 k0 k1 v0 v1 x0 x1 G7 G8 A c xs) (hg : W.heap[g]? = some (.cells cs 38 (0, 0))) (hlt : G7 < g ∧ G8 < g) (a b d e : Value) : PS w ((((W.setCell ⟨g, 0, none⟩ a).setCell ⟨g, 1, none⟩ b).setCell ⟨g, 2, none⟩ d).setCell ⟨g, 3, none⟩ e) o0 o1 m0 m1 l0 l1 k0 k1 v0 v1 x0 x1 G7 G8 A c xs := by
  have hb := four_but W g a b d e
  have hw : w.heap.size ≤ g := by have := h.n7; omega
  exact ⟨(((h.old.setCell hw a).setCell hw b).setCell hw d).setCell hw e, h.ap, h.q0.far hb hg (by decide), h.q1.far hb hg (by decide), h.r0.far hb hg (by decide), h.r1.far hb hg (by decide), hb.heap h.b7 (by omega), hb.heap h.b8 (by omega), h.acts, h.n7, h.n8, h.ch⟩
theorem four_blk {g : Nat} {a b d e z0 z1 z2 z3 : Value} {t : TypeId} (h : W.heap[g]? = some (.cells #[z0, z1, z2, z3] t (0, 0))) : ((((W.setCell ⟨g, 0, none⟩ a).setCell ⟨g, 1, none⟩ b).setCell ⟨g, 2, none⟩ d).setCell ⟨g, 3, none⟩ e).heap[g]? = some (.cells #[a, b, d, e] t (0, 0)) :=
  blk_put (cs := #[a, b, d, z3]) (blk_put (cs := #[a, b, z2, z3]) (blk_put (cs := #[a, z1, z2, z3]) (blk_put h 0 a rfl) 1 b rfl) 2 d rfl) 3 e rfl
theorem PS.act (h : PS w W o0 o1 m0 m1 l0 l1 k0 k1 v0 v1 x0 x1 G7 G8 A c xs) (hb : But (ChF2 o0 o1) W W') (g0 : QAt W' o0 m0 l0') (g1 : QAt W' o1 m1 l1') : PS w W' o0 o1 m0 m1 l0' l1' k0 k1 v0 v1 x0 x1 G7 G8 A c xs := by
  have hch : ∀ k, ChF2 o0 o1 k → ∃ cap buf a s r b, W.heap[k]? = some (.chan cap buf a s r b) := fun k hk => by
    rcases hk with hk | hk
    · exact h.q0.chan k hk
    · exact h.q1.chan k hk
  have hn : ∀ (g : Nat) (cs : Array Value) (t : TypeId), W.heap[g]? = some (.cells cs t (0, 0)) → ¬ ChF2 o0 o1 g := fun g cs t hg hk => by
    obtain ⟨cap, buf, a, s, r, b, hc⟩ := hch g hk
    rw [hg] at hc
    cases hc
  exact ⟨h.old.trans (hb.below (fun k hk => h.ch k hk) h.old.size), h.ap, g0, g1, h.r0.but hb hch, h.r1.but hb hch, hb.heap h.b7 (hn _ _ _ h.b7), hb.heap h.b8 (hn _ _ _ h.b8), h.acts, h.n7, h.n8, h.ch⟩
end
def L1Rel (w : World) (o0 o1 : Option (Nat × Nat)) (a b : Int) (m0 m1 : Nat) (G7 G8 G9 : Nat) (A : Option Addr) (c : Nat) (xs : List (Int × Int × Bool)) (n : Nat) (v : Value) (wr : World) : Prop :=
  ∃ (i : Nat) (z : Int), v = .int .i64 z ∧ z = i ∧ n + i = 2 ∧ PS w wr o0 o1 m0 m1 [] [] [] [] (.slice none 0 0) (.slice none 0 0) (.int .i64 (if 0 < i then (m0 : Int) else 0)) (.int .i64 (if 1 < i then (m1 : Int) else 0)) G7 G8 A c xs ∧ wr.heap[G9]? = some (.cells #[.int .i64 a, .int .i64 b] 39 (0, 0))
def L2Rel (w : World) (o0 o1 : Option (Nat × Nat)) (m0 m1 : Nat) (G7 G8 : Nat) (A : Option Addr) (c : Nat) (xs : List (Int × Int × Bool)) (n : Nat) (v : Value) (wr : World) : Prop :=
  ∃ (i : Nat) (z : Int) (v0 v1 : Value) (l0 l1 : List Int), v = .int .i64 z ∧ z = i ∧ n + i = xs.length ∧ PS w wr o0 o1 m0 m1 l0 l1 l0 l1 v0 v1 (.int .i64 (m0 : Int)) (.int .i64 (m1 : Int)) G7 G8 A c xs
theorem qv_ptr (o : Option (Nat × Nat)) : ∃ p, qv o = .pointer p := by
  cases o with
  | none => exact ⟨_, rfl⟩
  | some x => exact ⟨_, rfl⟩
theorem most_of (a : Int) (h : 1 ≤ a ∧ a ≤ 4096) : (((if 1 ≤ a ∧ a ≤ 4096 then a.toNat else 0 : Nat)) : Int) = a := by rw [if_pos h]; omega
theorem most_no (a : Int) (h : ¬ (1 ≤ a ∧ a ≤ 4096)) : (((if 1 ≤ a ∧ a ≤ 4096 then a.toNat else 0 : Nat)) : Int) = 0 := by rw [if_neg h]; rfl
set_option maxHeartbeats 8000000 in
set_option maxRecDepth 100000 in
theorem queuePlays_calls (w : World) (a : Int) (b : Int) (A : Option Addr) (c : Nat) (xs : List (Int × Int × Bool)) (hX : ActsAt w A c xs) :
    Calls Try.prog 4 #[.int .i64 a, .int .i64 b, .slice A xs.length c] w fun e w' => e = .returned (.bool true) ∧ Below w.heap.size w w' := by
  have HAL := Lib.hid (alive_calls w)
  have HX := Lib.hid hX
  by_cases h100 : 100 < xs.length
  · have d1 : decide ((100 : Int) < (xs.length : Int)) = true := decide_eq_true (by omega)
    clear hX h100
    go_enter Try.func4, Try.ntmps4
    go_wp2_with fail
    (with_reducible refine HAL.out.mono ?_)
    rintro e w1 ⟨rfl, hb1⟩
    have HB1 := Lib.hid hb1
    clear hb1 HAL
    go_wp2_with fail
    go_ret
    exact ⟨rfl, HB1.out⟩
  · have d1 : decide ((100 : Int) < (xs.length : Int)) = false := decide_eq_false (by omega)
    clear hX
    have HNA := Lib.hid (fun W => new_q a W)
    have HNB := Lib.hid (fun W => new_q b W)
    go_enter Try.func4, Try.ntmps4
    go_wp2_with fail
    (with_reducible refine HAL.out.mono ?_)
    rintro e w1 ⟨rfl, hb1⟩
    have HB1 := Lib.hid hb1
    clear hb1 HAL
    go_wp2_with fail
    (with_reducible refine (HNA.out _).mono ?_)
    rintro e w2 ⟨o0, rfl, hq0, hb2, hl0, hs0, hn0⟩
    have HB2 := Lib.hid (HB1.out.trans (hb2.mono HB1.out.size))
    have HQ0 := Lib.hid hq0
    have HL0 := Lib.hid hl0
    have HS0 := Lib.hid hs0
    have HN0 := Lib.hid hn0
    clear hb2 hq0 hl0 hs0 hn0 HNA
    obtain ⟨p0, hp0⟩ := qv_ptr o0
    rw [hp0]
    have HP0 := Lib.hid hp0
    clear hp0
    go_wp2_with fail
    (with_reducible refine (HNB.out _).mono ?_)
    rintro e w3 ⟨o1, rfl, hq1, hb3, hl1, hs1, hn1⟩
    have HAP : Hid (Apart o0 o1 ∧ (∀ k, ChF2 o0 o1 k → w.heap.size ≤ k) ∧ QAt w3 o0 (if 1 ≤ a ∧ a ≤ 4096 then a.toNat else 0) []) := Lib.hid (by
      refine ⟨?_, ?_, HQ0.out.below hb3⟩
      · match o0, o1, HL0.out, hl1 with
        | none, none, _, _ => trivial
        | none, some _, _, _ => trivial
        | some _, none, _, _ => trivial
        | some (q, c), some (q', c'), h0, h1 =>
          have g0 := h0 q c rfl
          have g1 := h1 q' c' rfl
          exact ⟨by omega, by omega⟩
      · intro k hk
        have s1 := HB1.out.size
        have s2 := HB2.out.size
        rcases hk with hk | hk
        · match o0, HL0.out, hk with
          | some (q, c), h0, hk =>
            have g0 := h0 q c rfl
            have hk' : k = c := hk
            omega
        · match o1, hl1, hk with
          | some (q, c), h1, hk =>
            have g1 := h1 q c rfl
            have hk' : k = c := hk
            omega)
    have HB3 := Lib.hid (HB2.out.trans (hb3.mono HB2.out.size))
    have HQ1 := Lib.hid hq1
    have HS1 := Lib.hid hs1
    have HN1 := Lib.hid hn1
    clear hb3 hq1 hl1 hs1 hn1 HNB HL0 HQ0 HB1 HB2
    obtain ⟨p1, hp1⟩ := qv_ptr o1
    rw [hp1]
    have HP1 := Lib.hid hp1
    clear hp1
    obtain ⟨m0, hm0⟩ : ∃ m : Nat, m = (if 1 ≤ a ∧ a ≤ 4096 then a.toNat else 0) := ⟨_, rfl⟩
    obtain ⟨m1, hm1⟩ : ∃ m : Nat, m = (if 1 ≤ b ∧ b ≤ 4096 then b.toNat else 0) := ⟨_, rfl⟩
    have HMA := Lib.hid (show (1 ≤ a ∧ a ≤ 4096) → (m0 : Int) = a from fun h => hm0 ▸ most_of a h)
    have HMB := Lib.hid (show (1 ≤ b ∧ b ≤ 4096) → (m1 : Int) = b from fun h => hm1 ▸ most_of b h)
    have HMA0 := Lib.hid (show ¬ (1 ≤ a ∧ a ≤ 4096) → (m0 : Int) = 0 from fun h => hm0 ▸ most_no a h)
    have HMB0 := Lib.hid (show ¬ (1 ≤ b ∧ b ≤ 4096) → (m1 : Int) = 0 from fun h => hm1 ▸ most_no b h)
    rw [← hm0] at HAP
    rw [← hm1] at HQ1
    clear hm0 hm1
    go_upto_region 8 with (fail)
    obtain ⟨W5, hW5⟩ : ∃ W5, W5 = ((w3.alloc (.cells #[.pointer p0, .pointer p1] 34)).alloc (.cells #[.slice none 0 0, .int .i64 0, .slice none 0 0, .int .i64 0] 38)).alloc (.cells #[.int .i64 a, .int .i64 b] 39) := ⟨_, rfl⟩
    rw [← hW5]
    have HPS : Hid (PS w W5 o0 o1 m0 m1 [] [] [] [] (.slice none 0 0) (.slice none 0 0) (.int .i64 0) (.int .i64 0) w3.heap.size (w3.heap.size + 1) A c xs ∧ W5.heap[w3.heap.size + 1 + 1]? = some (.cells #[.int .i64 a, .int .i64 b] 39 (0, 0))) := Lib.hid (by
      have e1 : (w3.alloc (.cells #[.pointer p0, .pointer p1] 34)).heap.size = w3.heap.size + 1 := by simp
      have e2 : ((w3.alloc (.cells #[.pointer p0, .pointer p1] 34)).alloc (.cells #[.slice none 0 0, .int .i64 0, .slice none 0 0, .int .i64 0] 38)).heap.size = w3.heap.size + 1 + 1 := by simp
      have hb : Below w3.heap.size w3 W5 := by
        rw [hW5]
        exact (((Below.refl _ w3).alloc (Nat.le_refl _) _).alloc (by omega) _).alloc (by omega) _
      have hsz := HB3.out.size
      refine ⟨⟨HB3.out.trans (hb.mono hsz), HAP.out.1, HAP.out.2.2.below hb, HQ1.out.below hb, RV.nil _, RV.nil _, ?_, ?_, HX.out, hsz, by omega, HAP.out.2.1⟩, ?_⟩
      · rw [hW5, HP0.out, HP1.out]
        exact blk_alloc_ (blk_alloc_ (heap_alloc_new w3 _) _) _
      · rw [hW5, ← e1]
        exact blk_alloc_ (heap_alloc_new _ _) _
      · rw [hW5, ← e2]
        exact heap_alloc_new _ _)
    clear hW5 HAP HB3 HQ1 HX
    generalize w3.heap.size + 1 + 1 = G9 at *
    generalize w3.heap.size + 1 = G8 at *
    generalize w3.heap.size = G7 at *
    go_wp2_with fail
    go_loopg [10] 2 (fun n v10 wr => L1Rel w o0 o1 a b m0 m1 G7 G8 G9 A c xs n v10 wr)
    case atStart => exact ⟨0, 0, rfl, rfl, rfl, HPS.out.1, HPS.out.2⟩
    case round =>
      clear HPS
      obtain ⟨i, z, rfl, hz, hni, hps, hb9⟩ := hrel
      have hi3 : i = 0 ∨ i = 1 ∨ i = 2 := by omega
      rcases hi3 with rfl | rfl | rfl
      · obtain rfl : z = 0 := by omega
        clear hz
        have HPS : Hid (PS w wr o0 o1 m0 m1 [] [] [] [] (.slice none 0 0) (.slice none 0 0) (.int .i64 0) (.int .i64 0) G7 G8 A c xs) := Lib.hid hps
        have HB9 := Lib.hid hb9
        obtain ⟨e0, e1⟩ := two_cells hb9
        obtain ⟨g0, g1, g2, g3⟩ := four_cells HPS.out.b8
        have f1 := blk_frozen HPS.out.b8 1
        have hbx := HPS.out.b7
        rw [HP0.out, HP1.out] at hbx
        obtain ⟨t0, t1⟩ := two_cells hbx
        have HBX := Lib.hid hbx
        clear hps hb9 hbx
        by_cases hr : 1 ≤ a ∧ a ≤ 4096
        · have d2 : decide (1 ≤ a) = true := decide_eq_true hr.1
          have d3 : decide (a ≤ 4096) = true := decide_eq_true hr.2
          have hm := HMA.out hr
          have dz : (a == 0) = false := beq_eq_false_iff_ne.2 (by omega)
          obtain ⟨q, hq⟩ : ∃ q, p0 = some q := by
            have hp := HP0.out
            have hs := HS0.out hr
            match o0, hp, hs with
            | none, _, hs => exact absurd rfl hs
            | some x, hp, _ =>
              injection hp with hp
              exact ⟨_, hp.symm⟩
          have HR := Lib.hid hr
          have HM := Lib.hid hm
          clear hr hm
          rw [hq] at t0
          go_upto_region 13 with (fail)
          obtain ⟨W6, hW6⟩ : ∃ W6, W6 = wr.setCell ⟨G8, 1, none⟩ (.int .i64 a) := ⟨_, rfl⟩
          have hbut : But (fun k => k = G8) wr W6 := by rw [hW6]; exact But.setCell (F := fun k => k = G8) wr ⟨G8, 1, none⟩ _ rfl
          have h8 : W6.heap[G8]? = some (.cells #[.slice none 0 0, (.int .i64 a), .slice none 0 0, (.int .i64 0)] 38 (0, 0)) := by rw [hW6]; exact blk_put HPS.out.b8 1 _ rfl
          have HPS6 := Lib.hid (HPS.out.put hbut (by rw [hW6]; exact HPS.out.old.setCell HPS.out.n8 _) h8 (RV.nil _) (RV.nil _)).drew
          have h79 : G7 ≠ G8 := by
            rintro rfl
            have h1 := HBX.out
            rw [HPS.out.b8] at h1
            injection h1 with h1
            injection h1 with _ h1 _
            exact absurd h1 (by decide)
          have h98 : G9 ≠ G8 := by
            rintro rfl
            have h1 := HB9.out
            rw [HPS.out.b8] at h1
            injection h1 with h1
            injection h1 with _ h1 _
            exact absurd h1 (by decide)
          have HB96 := Lib.hid (hbut.heap HB9.out h98)
          have s0 : W6.drew.cell? ⟨G7, 0, none⟩ = some (.pointer (some q)) := (two_cells (hq ▸ hbut.heap HBX.out h79)).1
          have s1 : W6.drew.cell? ⟨G8, 1, none⟩ = some (.int .i64 a) := (four_cells h8).2.1
          rw [← hW6]
          clear hW6 hbut h79 h98 g0 g1 g2 g3 f1 t0 t1 e0 e1 HPS HBX HB9
          have h8' := Lib.hid h8
          clear h8
          go_region_held3 (fun W => W.cell? ⟨G7, 0, none⟩ = some (.pointer (some q)) ∧ W.cell? ⟨G8, 1, none⟩ = some (.int .i64 a)) (first | exact ⟨s0, s1⟩) (fail)
          all_goals
            go_wp2_with fail
            go_roundg (gk - 1)
            case rel => exact ⟨1, 1, rfl, rfl, by omega, by have h := HPS6.out; rw [← HM.out] at h; exact h, HB96.out⟩
            case measure => omega
        · have hm := HMA0.out hr
          obtain rfl : p0 = none := by
            have hp := HP0.out
            have hs := HN0.out hr
            subst hs
            injection hp with hp
            exact hp.symm
          have s0 : wr.drew.cell? ⟨G7, 0, none⟩ = some (.pointer none) := t0
          have s1 : wr.drew.cell? ⟨G8, 1, none⟩ = some (.int .i64 0) := g1
          have HPS6 := Lib.hid HPS.out.drew
          have HM := Lib.hid hm
          clear hm HPS HBX
          by_cases h1 : 1 ≤ a
          · have d2 : decide (1 ≤ a) = true := decide_eq_true h1
            have d3 : decide (a ≤ 4096) = false := decide_eq_false (by omega)
            clear hr h1
            go_upto_region 13 with (fail)
            go_region_held3 (fun W => W.cell? ⟨G7, 0, none⟩ = some (.pointer none) ∧ W.cell? ⟨G8, 1, none⟩ = some (.int .i64 0)) (first | exact ⟨s0, s1⟩) (fail)
            all_goals
              go_wp2_with fail
              go_roundg (gk - 1)
              case rel => exact ⟨1, 1, rfl, rfl, by omega, by have h := HPS6.out; have e := HM.out; simp only [e] at h ⊢; exact h, HB9.out⟩
              case measure => omega
          · have d2 : decide (1 ≤ a) = false := decide_eq_false h1
            clear hr h1
            go_upto_region 13 with (fail)
            go_region_held3 (fun W => W.cell? ⟨G7, 0, none⟩ = some (.pointer none) ∧ W.cell? ⟨G8, 1, none⟩ = some (.int .i64 0)) (first | exact ⟨s0, s1⟩) (fail)
            all_goals
              go_wp2_with fail
              go_roundg (gk - 1)
              case rel => exact ⟨1, 1, rfl, rfl, by omega, by have h := HPS6.out; have e := HM.out; simp only [e] at h ⊢; exact h, HB9.out⟩
              case measure => omega
      · obtain rfl : z = 1 := by omega
        clear hz
        have HPS : Hid (PS w wr o0 o1 m0 m1 [] [] [] [] (.slice none 0 0) (.slice none 0 0) (.int .i64 (m0 : Int)) (.int .i64 0) G7 G8 A c xs) := Lib.hid hps
        have HB9 := Lib.hid hb9
        obtain ⟨e0, e1⟩ := two_cells hb9
        obtain ⟨g0, g1, g2, g3⟩ := four_cells HPS.out.b8
        have f1 := blk_frozen HPS.out.b8 3
        have hbx := HPS.out.b7
        rw [HP0.out, HP1.out] at hbx
        obtain ⟨t0, t1⟩ := two_cells hbx
        have HBX := Lib.hid hbx
        clear hps hb9 hbx
        by_cases hr : 1 ≤ b ∧ b ≤ 4096
        · have d2 : decide (1 ≤ b) = true := decide_eq_true hr.1
          have d3 : decide (b ≤ 4096) = true := decide_eq_true hr.2
          have hm := HMB.out hr
          have dz : (b == 0) = false := beq_eq_false_iff_ne.2 (by omega)
          obtain ⟨q, hq⟩ : ∃ q, p1 = some q := by
            have hp := HP1.out
            have hs := HS1.out hr
            match o1, hp, hs with
            | none, _, hs => exact absurd rfl hs
            | some x, hp, _ =>
              injection hp with hp
              exact ⟨_, hp.symm⟩
          have HR := Lib.hid hr
          have HM := Lib.hid hm
          clear hr hm
          rw [hq] at t1
          go_upto_region 13 with (fail)
          obtain ⟨W6, hW6⟩ : ∃ W6, W6 = wr.setCell ⟨G8, 3, none⟩ (.int .i64 b) := ⟨_, rfl⟩
          have hbut : But (fun k => k = G8) wr W6 := by rw [hW6]; exact But.setCell (F := fun k => k = G8) wr ⟨G8, 3, none⟩ _ rfl
          have h8 : W6.heap[G8]? = some (.cells #[.slice none 0 0, (.int .i64 (m0 : Int)), .slice none 0 0, (.int .i64 b)] 38 (0, 0)) := by rw [hW6]; exact blk_put HPS.out.b8 3 _ rfl
          have HPS6 := Lib.hid (HPS.out.put hbut (by rw [hW6]; exact HPS.out.old.setCell HPS.out.n8 _) h8 (RV.nil _) (RV.nil _)).drew
          have h79 : G7 ≠ G8 := by
            rintro rfl
            have h1 := HBX.out
            rw [HPS.out.b8] at h1
            injection h1 with h1
            injection h1 with _ h1 _
            exact absurd h1 (by decide)
          have h98 : G9 ≠ G8 := by
            rintro rfl
            have h1 := HB9.out
            rw [HPS.out.b8] at h1
            injection h1 with h1
            injection h1 with _ h1 _
            exact absurd h1 (by decide)
          have HB96 := Lib.hid (hbut.heap HB9.out h98)
          have s0 : W6.drew.cell? ⟨G7, 1, none⟩ = some (.pointer (some q)) := (two_cells (hq ▸ hbut.heap HBX.out h79)).2
          have s1 : W6.drew.cell? ⟨G8, 3, none⟩ = some (.int .i64 b) := (four_cells h8).2.2.2
          rw [← hW6]
          clear hW6 hbut h79 h98 g0 g1 g2 g3 f1 t0 t1 e0 e1 HPS HBX HB9
          have h8' := Lib.hid h8
          clear h8
          go_region_held3 (fun W => W.cell? ⟨G7, 1, none⟩ = some (.pointer (some q)) ∧ W.cell? ⟨G8, 3, none⟩ = some (.int .i64 b)) (first | exact ⟨s0, s1⟩) (fail)
          all_goals
            go_wp2_with fail
            go_roundg (gk - 1)
            case rel => exact ⟨2, 2, rfl, rfl, by omega, by have h := HPS6.out; rw [← HM.out] at h; exact h, HB96.out⟩
            case measure => omega
        · have hm := HMB0.out hr
          obtain rfl : p1 = none := by
            have hp := HP1.out
            have hs := HN1.out hr
            subst hs
            injection hp with hp
            exact hp.symm
          have s0 : wr.drew.cell? ⟨G7, 1, none⟩ = some (.pointer none) := t1
          have s1 : wr.drew.cell? ⟨G8, 3, none⟩ = some (.int .i64 0) := g3
          have HPS6 := Lib.hid HPS.out.drew
          have HM := Lib.hid hm
          clear hm HPS HBX
          by_cases h1 : 1 ≤ b
          · have d2 : decide (1 ≤ b) = true := decide_eq_true h1
            have d3 : decide (b ≤ 4096) = false := decide_eq_false (by omega)
            clear hr h1
            go_upto_region 13 with (fail)
            go_region_held3 (fun W => W.cell? ⟨G7, 1, none⟩ = some (.pointer none) ∧ W.cell? ⟨G8, 3, none⟩ = some (.int .i64 0)) (first | exact ⟨s0, s1⟩) (fail)
            all_goals
              go_wp2_with fail
              go_roundg (gk - 1)
              case rel => exact ⟨2, 2, rfl, rfl, by omega, by have h := HPS6.out; have e := HM.out; simp only [e] at h ⊢; exact h, HB9.out⟩
              case measure => omega
          · have d2 : decide (1 ≤ b) = false := decide_eq_false h1
            clear hr h1
            go_upto_region 13 with (fail)
            go_region_held3 (fun W => W.cell? ⟨G7, 1, none⟩ = some (.pointer none) ∧ W.cell? ⟨G8, 3, none⟩ = some (.int .i64 0)) (first | exact ⟨s0, s1⟩) (fail)
            all_goals
              go_wp2_with fail
              go_roundg (gk - 1)
              case rel => exact ⟨2, 2, rfl, rfl, by omega, by have h := HPS6.out; have e := HM.out; simp only [e] at h ⊢; exact h, HB9.out⟩
              case measure => omega
      · obtain rfl : z = 2 := by omega
        clear hz hb9
        have HPS : Hid (PS w wr o0 o1 m0 m1 [] [] [] [] (.slice none 0 0) (.slice none 0 0) (.int .i64 (m0 : Int)) (.int .i64 (m1 : Int)) G7 G8 A c xs) := Lib.hid hps
        clear hps HMA HMB HMA0 HMB0 HS0 HN0 HS1 HN1
        obtain ⟨wo, hwo⟩ : ∃ wo, wo = wr := ⟨_, rfl⟩
        subst hwo
        obtain ⟨go, hgo⟩ : ∃ go, go = gk := ⟨_, rfl⟩
        subst hgo
        go_wp2_with fail
        go_loopg [11] xs.length (fun n v11 wr => L2Rel w o0 o1 m0 m1 G7 G8 A c xs n v11 wr)
        case atStart => exact ⟨0, 0, _, _, [], [], rfl, rfl, rfl, HPS.out⟩
        case round =>
          clear HPS
          obtain ⟨i, z, v0, v1, l0, l1, rfl, hz, hni, hps⟩ := hrel
          subst hz
          have HPS := Lib.hid hps
          obtain ⟨A0, c0, rfl, _⟩ := hps.r0
          obtain ⟨A1, c1, rfl, _⟩ := hps.r1
          clear hps
          by_cases hlt : i < xs.length
          · obtain ⟨hK, ad, rfl, g0, g1, g2⟩ := HPS.out.acts.2.2 i hlt
            have d2 : decide ((i : Int) < (xs.length : Int)) = true := decide_eq_true (by omega)
            have hact := fun (W : World) (hW : PS w W o0 o1 m0 m1 l0 l1 l0 l1 (.slice A0 l0.length c0) (.slice A1 l1.length c1) (.int .i64 (m0 : Int)) (.int .i64 (m1 : Int)) G7 G8 (some ad) c xs) => act_calls W o0 o1 m0 m1 l0 l1 (.slice A0 l0.length c0) (.slice A1 l1.length c1) xs[i].1 xs[i].2.1 xs[i].2.2 hW.ap hW.q0 hW.q1 hW.r0 hW.r1 hK
            rw [HP0.out, HP1.out] at hact
            have HACT := Lib.hid hact
            generalize xs[i] = xi at *
            obtain ⟨Ki, Xi, Si⟩ := xi
            dsimp only at g0 g1 g2
            have HA3 : Hid (w.cell? (ad.add (i * 3)) = some (.int .u8 Ki) ∧ w.cell? ⟨(ad.add (i * 3)).block, (ad.add (i * 3)).off + 1, none⟩ = some (.int .i64 Xi) ∧ w.cell? ⟨(ad.add (i * 3)).block, (ad.add (i * 3)).off + 2, none⟩ = some (.bool Si)) := Lib.hid (by
              have e1 : (⟨(ad.add (i * 3)).block, (ad.add (i * 3)).off + 1, none⟩ : Addr) = ad.add (i * 3 + 1) := (Go.Deep.add_add ad (i * 3) 1 ▸ rfl)
              have e2 : (⟨(ad.add (i * 3)).block, (ad.add (i * 3)).off + 2, none⟩ : Addr) = ad.add (i * 3 + 2) := (Go.Deep.add_add ad (i * 3) 2 ▸ rfl)
              exact ⟨g0, by rw [e1]; exact g1, by rw [e2]; exact g2⟩)
            clear hact g0 g1 g2 hK
            have hz0 : (0 : Int) ≤ (i : Int) := by omega
            have hzl : (i : Int) < (xs.length : Int) := by omega
            go_upto_region 18 with (fail)
            have HLT := Lib.hid HPS.out.lts
            have HPS1 := Lib.hid HPS.out.drew
            have HPS2 := Lib.hid (HPS.out.alloc (.cells #[.slice none 0 0, .int .i64 0, .slice none 0 0, .int .i64 0] 38)).drew
            have HNB := Lib.hid (show (wr.alloc (.cells #[.slice none 0 0, .int .i64 0, .slice none 0 0, .int .i64 0] 38)).drew.heap[wr.heap.size]? = some (.cells #[.slice none 0 0, .int .i64 0, .slice none 0 0, .int .i64 0] 38 (0, 0)) from heap_alloc_new wr _)
            go_region_held3 (fun W => W.cell? ⟨G7, 0, none⟩ = some (.pointer p0) ∧ W.cell? ⟨G7, 1, none⟩ = some (.pointer p1) ∧ W.cell? ⟨G8, 0, none⟩ = some (.slice A0 l0.length c0) ∧ W.cell? ⟨G8, 1, none⟩ = some (.int .i64 (m0 : Int)) ∧ W.cell? ⟨G8, 2, none⟩ = some (.slice A1 l1.length c1) ∧ W.cell? ⟨G8, 3, none⟩ = some (.int .i64 (m1 : Int)) ∧ W.cell? (ad.add (i * 3)) = some (.int .u8 Ki) ∧ W.cell? ⟨(ad.add (i * 3)).block, (ad.add (i * 3)).off + 1, none⟩ = some (.int .i64 Xi) ∧ W.cell? ⟨(ad.add (i * 3)).block, (ad.add (i * 3)).off + 2, none⟩ = some (.bool Si)) (first | with_reducible exact PS.nine HPS1.out HA3.out HP0.out HP1.out | with_reducible exact PS.nine HPS5.out HA3.out HP0.out HP1.out | with_reducible exact PS.nine (HPS5.out.alloc (.cells #[.slice none 0 0, .int .i64 0, .slice none 0 0, .int .i64 0] 38)) HA3.out HP0.out HP1.out | with_reducible exact PS.nine (HPS5.out.alloc (.cells #[.slice A5 j0.length c5, .int .i64 (m0 : Int), .slice A6 j1.length c6, .int .i64 (m1 : Int)] 38)) HA3.out HP0.out HP1.out | with_reducible exact PS.nine HPS2.out HA3.out HP0.out HP1.out | with_reducible exact PS.nine (HPS5.out.box4 HNEW.out HLT.out (.slice A5 j0.length c5) (.int .i64 (m0 : Int)) (.slice A6 j1.length c6) (.int .i64 (m1 : Int))) HA3.out HP0.out HP1.out | fail) (first | (go_at_call 13; (with_reducible refine (HACT.out _ HPS1.out).mono ?_); rintro e w5 hp5; (obtain ⟨va, vb, j0, j1, rfl, hq5, hq5', hr5, hr5', hb5⟩ := hp5); (have HPS5 := Lib.hid (HPS1.out.act hb5 hq5 hq5')); (have HRA := Lib.hid hr5); (have HRB := Lib.hid hr5'); (obtain ⟨A5, c5, rfl, _⟩ := hr5); (obtain ⟨A6, c6, rfl, _⟩ := hr5'); (have hnew := heap_alloc_new w5 (.cells #[.slice none 0 0, .int .i64 0, .slice none 0 0, .int .i64 0] 38)); (obtain ⟨n0, n1, n2, n3⟩ := four_cells hnew); (have f0 := blk_frozen hnew 0); (have f1 := blk_frozen hnew 1); (have f2 := blk_frozen hnew 2); (have f3 := blk_frozen hnew 3); (have HNEW := Lib.hid hnew); (clear hnew hq5 hq5' hb5)) | (go_at_call 13; (with_reducible refine (HACT.out _ HPS2.out).mono ?_); rintro e w5 hp5; (obtain ⟨va, vb, j0, j1, rfl, hq5, hq5', hr5, hr5', hb5⟩ := hp5); (have HPS5 := Lib.hid (HPS2.out.act hb5 hq5 hq5')); (have HRA := Lib.hid hr5); (have HRB := Lib.hid hr5'); (obtain ⟨A5, c5, rfl, _⟩ := hr5); (obtain ⟨A6, c6, rfl, _⟩ := hr5'); (have hnew := act_box HPS2.out hb5 HNB.out); (obtain ⟨n0, n1, n2, n3⟩ := four_cells hnew); (have f0 := blk_frozen hnew 0); (have f1 := blk_frozen hnew 1); (have f2 := blk_frozen hnew 2); (have f3 := blk_frozen hnew 3); (have HNEW := Lib.hid hnew); (clear hnew hq5 hq5' hb5)))
            have H6 : Hid (PS w (w5.alloc (.cells #[.slice A5 j0.length c5, .int .i64 (m0 : Int), .slice A6 j1.length c6, .int .i64 (m1 : Int)] 38)) o0 o1 m0 m1 j0 j1 l0 l1 (.slice A0 l0.length c0) (.slice A1 l1.length c1) (.int .i64 (m0 : Int)) (.int .i64 (m1 : Int)) G7 G8 (some ad) c xs ∧ (w5.alloc (.cells #[.slice A5 j0.length c5, .int .i64 (m0 : Int), .slice A6 j1.length c6, .int .i64 (m1 : Int)] 38)).heap[w5.heap.size]? = some (.cells #[.slice A5 j0.length c5, .int .i64 (m0 : Int), .slice A6 j1.length c6, .int .i64 (m1 : Int)] 38 (0, 0)) ∧ RV (w5.alloc (.cells #[.slice A5 j0.length c5, .int .i64 (m0 : Int), .slice A6 j1.length c6, .int .i64 (m1 : Int)] 38)) (.slice A5 j0.length c5) j0 ∧ RV (w5.alloc (.cells #[.slice A5 j0.length c5, .int .i64 (m0 : Int), .slice A6 j1.length c6, .int .i64 (m1 : Int)] 38)) (.slice A6 j1.length c6) j1) := Lib.hid ⟨HPS5.out.alloc (.cells #[.slice A5 j0.length c5, .int .i64 (m0 : Int), .slice A6 j1.length c6, .int .i64 (m1 : Int)] 38), heap_alloc_new w5 _, HRA.out.below (below_alloc (Below.refl _ w5) _), HRB.out.below (below_alloc (Below.refl _ w5) _)⟩
            generalize w5.alloc (.cells #[.slice A5 j0.length c5, .int .i64 (m0 : Int), .slice A6 j1.length c6, .int .i64 (m1 : Int)] 38) = W6 at H6 ⊢
            generalize w5.heap.size = G12 at H6 ⊢
            rotate_left
            have H6 : Hid (PS w ((((w5.setCell ⟨wr.heap.size, 0, none⟩ (.slice A5 j0.length c5)).setCell ⟨wr.heap.size, 1, none⟩ (.int .i64 (m0 : Int))).setCell ⟨wr.heap.size, 2, none⟩ (.slice A6 j1.length c6)).setCell ⟨wr.heap.size, 3, none⟩ (.int .i64 (m1 : Int))) o0 o1 m0 m1 j0 j1 l0 l1 (.slice A0 l0.length c0) (.slice A1 l1.length c1) (.int .i64 (m0 : Int)) (.int .i64 (m1 : Int)) G7 G8 (some ad) c xs ∧ ((((w5.setCell ⟨wr.heap.size, 0, none⟩ (.slice A5 j0.length c5)).setCell ⟨wr.heap.size, 1, none⟩ (.int .i64 (m0 : Int))).setCell ⟨wr.heap.size, 2, none⟩ (.slice A6 j1.length c6)).setCell ⟨wr.heap.size, 3, none⟩ (.int .i64 (m1 : Int))).heap[wr.heap.size]? = some (.cells #[.slice A5 j0.length c5, .int .i64 (m0 : Int), .slice A6 j1.length c6, .int .i64 (m1 : Int)] 38 (0, 0)) ∧ RV ((((w5.setCell ⟨wr.heap.size, 0, none⟩ (.slice A5 j0.length c5)).setCell ⟨wr.heap.size, 1, none⟩ (.int .i64 (m0 : Int))).setCell ⟨wr.heap.size, 2, none⟩ (.slice A6 j1.length c6)).setCell ⟨wr.heap.size, 3, none⟩ (.int .i64 (m1 : Int))) (.slice A5 j0.length c5) j0 ∧ RV ((((w5.setCell ⟨wr.heap.size, 0, none⟩ (.slice A5 j0.length c5)).setCell ⟨wr.heap.size, 1, none⟩ (.int .i64 (m0 : Int))).setCell ⟨wr.heap.size, 2, none⟩ (.slice A6 j1.length c6)).setCell ⟨wr.heap.size, 3, none⟩ (.int .i64 (m1 : Int))) (.slice A6 j1.length c6) j1) := Lib.hid ⟨HPS5.out.box4 HNEW.out HLT.out (.slice A5 j0.length c5) (.int .i64 (m0 : Int)) (.slice A6 j1.length c6) (.int .i64 (m1 : Int)), four_blk HNEW.out, HRA.out.far (four_but w5 wr.heap.size (.slice A5 j0.length c5) (.int .i64 (m0 : Int)) (.slice A6 j1.length c6) (.int .i64 (m1 : Int))) HNEW.out (by decide), HRB.out.far (four_but w5 wr.heap.size (.slice A5 j0.length c5) (.int .i64 (m0 : Int)) (.slice A6 j1.length c6) (.int .i64 (m1 : Int))) HNEW.out (by decide)⟩
            generalize ((((w5.setCell ⟨wr.heap.size, 0, none⟩ (.slice A5 j0.length c5)).setCell ⟨wr.heap.size, 1, none⟩ (.int .i64 (m0 : Int))).setCell ⟨wr.heap.size, 2, none⟩ (.slice A6 j1.length c6)).setCell ⟨wr.heap.size, 3, none⟩ (.int .i64 (m1 : Int))) = W6 at H6 ⊢
            generalize wr.heap.size = G12 at H6 ⊢
            rotate_left
            all_goals
              clear n0 n1 n2 n3 f0 f1 f2 f3 HNEW HPS5 HRA HRB HPS HPS1 HPS2 HNB HLT HACT HA3
              obtain ⟨n0, n1, n2, n3⟩ := four_cells H6.out.2.1
              obtain ⟨g0, g1, g2, g3⟩ := four_cells H6.out.1.b8
              have f0 := blk_frozen H6.out.1.b8 0
              have f1 := blk_frozen H6.out.1.b8 1
              have f2 := blk_frozen H6.out.1.b8 2
              have f3 := blk_frozen H6.out.1.b8 3
              go_upto_region 20 with (fail)
              have HPS7 := Lib.hid (H6.out.1.put (four_but W6 G8 (.slice A5 j0.length c5) (.int .i64 (m0 : Int)) (.slice A6 j1.length c6) (.int .i64 (m1 : Int))) ((((H6.out.1.old.setCell H6.out.1.n8 _).setCell H6.out.1.n8 _).setCell H6.out.1.n8 _).setCell H6.out.1.n8 _) (four_blk H6.out.1.b8) H6.out.2.2.1 H6.out.2.2.2)
              generalize ((((W6.setCell ⟨G8, 0, none⟩ (.slice A5 j0.length c5)).setCell ⟨G8, 1, none⟩ (.int .i64 (m0 : Int))).setCell ⟨G8, 2, none⟩ (.slice A6 j1.length c6)).setCell ⟨G8, 3, none⟩ (.int .i64 (m1 : Int))) = W7 at HPS7 ⊢
              clear n0 n1 n2 n3 g0 g1 g2 g3 f0 f1 f2 f3 H6
              have his0 := fun (W : World) (hW : QAt W o0 m0 j0) => is_q o0 m0 j0 A5 c5 W hW
              have his1 := fun (W : World) (hW : QAt W o1 m1 j1) => is_q o1 m1 j1 A6 c6 W hW
              rw [HP0.out] at his0
              rw [HP1.out] at his1
              have HIS0 := Lib.hid his0
              have HIS1 := Lib.hid his1
              clear his0 his1
              have hbx := HPS7.out.b7
              rw [HP0.out, HP1.out] at hbx
              obtain ⟨t0, t1⟩ := two_cells hbx
              obtain ⟨g0, g1, g2, g3⟩ := four_cells HPS7.out.b8
              clear hbx
              go_wp2_with fail
              (with_reducible refine (HIS0.out _ HPS7.out.q0).mono ?_)
              rintro e w8 ⟨rfl, hb8⟩
              have HPS8 := Lib.hid (HPS7.out.below hb8)
              clear hb8 t0 t1 g0 g1 g2 g3 HPS7 HIS0
              have hbx := HPS8.out.b7
              rw [HP0.out, HP1.out] at hbx
              obtain ⟨t0, t1⟩ := two_cells hbx
              obtain ⟨g0, g1, g2, g3⟩ := four_cells HPS8.out.b8
              clear hbx
              go_wp2_with fail
              (with_reducible refine (HIS1.out _ HPS8.out.q1).mono ?_)
              rintro e w9 ⟨rfl, hb9⟩
              have HPS9 := Lib.hid (HPS8.out.below hb9)
              clear hb9 t0 t1 g0 g1 g2 g3 HPS8 HIS1
              go_wp2_with fail
              go_roundg (gk - 1)
              case rel => exact ⟨i + 1, _, _, _, j0, j1, rfl, by omega, by omega, HPS9.out⟩
              case measure => omega
          · have d2 : decide ((i : Int) < (xs.length : Int)) = false := decide_eq_false (by omega)
            have d3 : decide (i < xs.length) = false := decide_eq_false hlt
            go_wp2_with fail
            go_ret
            exact ⟨rfl, HPS.out.old⟩
theorem queuePlays_row (w : World) (a : Int) (_ : (Lit.int .i64 a).wf = true) (b : Int) (_ : (Lit.int .i64 b).wf = true) (A : Option Addr) (c : Nat) (xs : List (Int × Int × Bool)) (hX : ActsAt w A c xs) :
    Calls Try.prog 4 #[.int .i64 a, .int .i64 b, .slice A xs.length c] w fun e w' => e = .returned (.bool true) ∧ Below w.heap.size w w' := queuePlays_calls w a b A c xs hX
end Go.Proofs.YtfoenpdfmhmkiaaPlay
