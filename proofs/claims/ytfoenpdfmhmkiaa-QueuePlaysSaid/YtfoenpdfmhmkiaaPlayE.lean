/- The state of the walks over an act on two queues, and how it goes on. -/
import Derived.Test.YtfoenpdfmhmkiaaPlayD
set_option linter.unusedVariables false
set_option linter.unusedSimpArgs false
namespace Go.Proofs.YtfoenpdfmhmkiaaPlay
open Go.RowKit Go.Proofs.YtfoenpdfmhmkiaaW.PrintWords Go.Proofs.YtfoenpdfmhmkiaaW.PrintLast Go.Proofs.YtfoenpdfmhmkiaaW.PrintMore Go.Proofs.YtfoenpdfmhmkiaaW.HKit Go.Proofs.YtfoenpdfmhmkiaaW.Mv Go.Proofs.YtfoenpdfmhmkiaaW.But Go.Proofs.Ytfoenpdfmhmkiaa.PQueuePlays
open Go.Proofs.YtfoenpdfmhmkiaaLone (mv)
def ChF2 (o0 o1 : Option (Nat × Nat)) (k : Nat) : Prop := ChF o0 k ∨ ChF o1 k
theorem QAt.chan {W : World} {o : Option (Nat × Nat)} {m : Nat} {l : List Int} (h : QAt W o m l) (k : Nat) (hk : ChF o k) : ∃ cap buf a s r b, W.heap[k]? = some (.chan cap buf a s r b) := by
  match o, h, hk with
  | some (q, c), h, hk =>
    obtain ⟨_, ⟨s, r, hc⟩, _⟩ := h
    have hk' : k = c := hk
    subst hk'
    exact ⟨_, _, _, _, _, _, hc⟩
theorem QAt.most {W : World} {o : Option (Nat × Nat)} {m : Nat} {l : List Int} (h : QAt W o m l) : l.length ≤ m ∧ m ≤ 4096 := by
  match o, h with
  | none, h => obtain ⟨rfl, rfl⟩ := h; exact ⟨Nat.le_refl _, by decide⟩
  | some (q, c), h => obtain ⟨_, _, h1, h2, h3⟩ := h; exact ⟨h3, h2⟩
theorem QAt.below {W W' : World} {o : Option (Nat × Nat)} {m : Nat} {l : List Int} (h : QAt W o m l) (hb : Below W.heap.size W W') : QAt W' o m l := h.but (But.of_below (fun _ => False) hb) (fun _ h => h.elim)
theorem Apart.symm {o0 o1 : Option (Nat × Nat)} (h : Apart o0 o1) : Apart o1 o0 := by
  match o0, o1, h with
  | none, none, _ => trivial
  | none, some _, _ => trivial
  | some _, none, _ => trivial
  | some _, some _, h => exact ⟨h.1.symm, h.2.symm⟩
/-- The state: what of old is as it was; the queues; the lists; the four boxes. -/
structure AS (w W : World) (o0 o1 : Option (Nat × Nat)) (m0 m1 : Nat) (l0 l1 k0 k1 : List Int) (B : Nat) (p0 p1 v0 v1 K N S z0 z1 z2 z3 : Value) : Prop where
  old : But (ChF2 o0 o1) w W
  ap : Apart o0 o1
  base : w.heap.size ≤ B
  q0 : QAt W o0 m0 l0
  q1 : QAt W o1 m1 l1
  r0 : RV W v0 k0
  r1 : RV W v1 k1
  b0 : W.heap[B]? = some (.cells #[p0, p1] 34 (0, 0))
  b1 : W.heap[B + 1]? = some (.cells #[v0, .int .i64 (m0 : Int), v1, .int .i64 (m1 : Int)] 38 (0, 0))
  b2 : W.heap[B + 1 + 1]? = some (.cells #[K, N, S] 43 (0, 0))
  b3 : W.heap[B + 1 + 1 + 1]? = some (.cells #[z0, z1, z2, z3] 38 (0, 0))
section
variable {w W W' : World} {o0 o1 : Option (Nat × Nat)} {m0 m1 : Nat} {l0 l1 k0 k1 l0' l1' : List Int} {B : Nat} {p0 p1 v0 v1 K N S z0 z1 z2 z3 : Value}
theorem AS.below (h : AS w W o0 o1 m0 m1 l0 l1 k0 k1 B p0 p1 v0 v1 K N S z0 z1 z2 z3) (hb : Below W.heap.size W W') : AS w W' o0 o1 m0 m1 l0 l1 k0 k1 B p0 p1 v0 v1 K N S z0 z1 z2 z3 := by
  have hB := But.of_below (fun _ => False) hb
  exact ⟨h.old.trans (But.of_below _ hb), h.ap, h.base, h.q0.below hb, h.q1.below hb, h.r0.below hb, h.r1.below hb, hB.heap h.b0 id, hB.heap h.b1 id, hB.heap h.b2 id, hB.heap h.b3 id⟩
theorem AS.drew (h : AS w W o0 o1 m0 m1 l0 l1 k0 k1 B p0 p1 v0 v1 K N S z0 z1 z2 z3) : AS w W.drew o0 o1 m0 m1 l0 l1 k0 k1 B p0 p1 v0 v1 K N S z0 z1 z2 z3 := h.below (below_drew (Below.refl _ W))
theorem AS.alloc (h : AS w W o0 o1 m0 m1 l0 l1 k0 k1 B p0 p1 v0 v1 K N S z0 z1 z2 z3) (o : Obj) : AS w (W.alloc o) o0 o1 m0 m1 l0 l1 k0 k1 B p0 p1 v0 v1 K N S z0 z1 z2 z3 := h.below (below_alloc (Below.refl _ W) o)
theorem AS.chan (h : AS w W o0 o1 m0 m1 l0 l1 k0 k1 B p0 p1 v0 v1 K N S z0 z1 z2 z3) (k : Nat) (hk : ChF2 o0 o1 k) : ∃ cap buf a s r b, W.heap[k]? = some (.chan cap buf a s r b) := by
  rcases hk with hk | hk
  · exact h.q0.chan k hk
  · exact h.q1.chan k hk
/-- The queues have turned: their channels alone. -/
theorem AS.turn (h : AS w W o0 o1 m0 m1 l0 l1 k0 k1 B p0 p1 v0 v1 K N S z0 z1 z2 z3) (hb : But (ChF2 o0 o1) W W') (g0 : QAt W' o0 m0 l0') (g1 : QAt W' o1 m1 l1') : AS w W' o0 o1 m0 m1 l0' l1' k0 k1 B p0 p1 v0 v1 K N S z0 z1 z2 z3 := by
  have hn : ∀ (g : Nat) (cs : Array Value) (t : TypeId), W.heap[g]? = some (.cells cs t (0, 0)) → ¬ ChF2 o0 o1 g := fun g cs t hg hk => by
    obtain ⟨cap, buf, a, s, r, b, hc⟩ := h.chan g hk
    rw [hg] at hc
    cases hc
  exact ⟨h.old.trans hb, h.ap, h.base, g0, g1, h.r0.but hb h.chan, h.r1.but hb h.chan, hb.heap h.b0 (hn _ _ _ h.b0), hb.heap h.b1 (hn _ _ _ h.b1), hb.heap h.b2 (hn _ _ _ h.b2), hb.heap h.b3 (hn _ _ _ h.b3)⟩
theorem AS.turn0 (h : AS w W o0 o1 m0 m1 l0 l1 k0 k1 B p0 p1 v0 v1 K N S z0 z1 z2 z3) (hb : But (ChF o0) W W') (g0 : QAt W' o0 m0 l0') : AS w W' o0 o1 m0 m1 l0' l1 k0 k1 B p0 p1 v0 v1 K N S z0 z1 z2 z3 :=
  h.turn (hb.mono fun k hk => .inl hk) g0 (h.q1.other h.q0 h.ap hb)
theorem AS.turn1 (h : AS w W o0 o1 m0 m1 l0 l1 k0 k1 B p0 p1 v0 v1 K N S z0 z1 z2 z3) (hb : But (ChF o1) W W') (g1 : QAt W' o1 m1 l1') : AS w W' o0 o1 m0 m1 l0 l1' k0 k1 B p0 p1 v0 v1 K N S z0 z1 z2 z3 :=
  h.turn (hb.mono fun k hk => .inr hk) (h.q0.other h.q1 h.ap.symm hb) g1
theorem QAt.far {g : Nat} {cs : Array Value} {t : TypeId} {f : Nat × Nat} {o : Option (Nat × Nat)} {m : Nat} {l : List Int} (h : QAt W o m l) (hb : But (fun k => k = g) W W') (hg : W.heap[g]? = some (.cells cs t f)) (ht : t ≠ 62) : QAt W' o m l := by
  refine h.but hb ?_
  rintro k rfl q c rfl
  obtain ⟨hq, ⟨s, r, hc⟩, _⟩ := h
  refine ⟨?_, ?_⟩
  · rintro rfl
    rw [hg] at hq
    injection hq with hq
    injection hq with _ hq _
    exact ht hq
  · rintro rfl
    rw [hg] at hc
    cases hc
theorem RV.far {g : Nat} {cs : Array Value} {t : TypeId} {f : Nat × Nat} {v : Value} {l : List Int} (h : RV W v l) (hb : But (fun k => k = g) W W') (hg : W.heap[g]? = some (.cells cs t f)) (ht : t ≠ 3) : RV W' v l :=
  h.step hb fun k hk cs' f' hc => by
    subst hk
    rw [hg] at hc
    injection hc with hc
    injection hc with _ hc _
    exact ht hc
theorem But.grow {F : Nat → Prop} {w W W' : World} {g : Nat} (h : But F w W) (hb : But (fun k => k = g) W W') (hg : w.heap.size ≤ g) : But F w W' :=
  ⟨hb.os.trans h.os, hb.tape.trans h.tape, hb.output.trans h.output, Nat.le_trans h.size hb.size, fun k hk hn => (hb.block k (Nat.lt_of_lt_of_le hk h.size) (by omega)).trans (h.block k hk hn)⟩
/-- Another block of the walk's own has turned. -/
theorem AS.box {g : Nat} {cs : Array Value} {t : TypeId} {f : Nat × Nat} (h : AS w W o0 o1 m0 m1 l0 l1 k0 k1 B p0 p1 v0 v1 K N S z0 z1 z2 z3) (hb : But (fun k => k = g) W W') (hg : W.heap[g]? = some (.cells cs t f)) (h3 : t ≠ 3) (h62 : t ≠ 62) (hB : B + 1 + 1 + 1 < g) : AS w W' o0 o1 m0 m1 l0 l1 k0 k1 B p0 p1 v0 v1 K N S z0 z1 z2 z3 :=
  ⟨But.grow h.old hb (by have := h.base; omega), h.ap, h.base, h.q0.far hb hg h62, h.q1.far hb hg h62, h.r0.far hb hg h3, h.r1.far hb hg h3, hb.heap h.b0 (by omega), hb.heap h.b1 (by omega), hb.heap h.b2 (by omega), hb.heap h.b3 (by omega)⟩
theorem AS.lt (h : AS w W o0 o1 m0 m1 l0 l1 k0 k1 B p0 p1 v0 v1 K N S z0 z1 z2 z3) : B + 1 + 1 + 1 < W.heap.size := blk_lt h.b3
theorem two_but (W : World) (g i j : Nat) (a b : Value) : But (fun k => k = g) W ((W.setCell ⟨g, i, none⟩ a).setCell ⟨g, j, none⟩ b) := (But.setCell (F := fun k => k = g) W ⟨g, i, none⟩ a rfl).trans (But.setCell (F := fun k => k = g) _ ⟨g, j, none⟩ b rfl)
theorem four_but (W : World) (g : Nat) (a b c d : Value) : But (fun k => k = g) W ((((W.setCell ⟨g, 0, none⟩ a).setCell ⟨g, 1, none⟩ b).setCell ⟨g, 2, none⟩ c).setCell ⟨g, 3, none⟩ d) := (two_but W g 0 1 a b).trans (two_but _ g 2 3 c d)
theorem AS.put0 {v : Value} {k : List Int} (h : AS w W o0 o1 m0 m1 l0 l1 k0 k1 B p0 p1 v0 v1 K N S z0 z1 z2 z3) (r : RV W v k) : AS w ((W.setCell ⟨B + 1, 0, none⟩ v).setCell ⟨B + 1, 1, none⟩ (.int .i64 (m0 : Int))) o0 o1 m0 m1 l0 l1 k k1 B p0 p1 v v1 K N S z0 z1 z2 z3 := by
  have hb := two_but W (B + 1) 0 1 v (.int .i64 (m0 : Int))
  exact ⟨But.grow h.old hb (by have := h.base; omega), h.ap, h.base, h.q0.far hb h.b1 (by decide), h.q1.far hb h.b1 (by decide), r.far hb h.b1 (by decide), h.r1.far hb h.b1 (by decide), hb.heap h.b0 (by omega), blk_put (cs := #[v, .int .i64 (m0 : Int), v1, .int .i64 (m1 : Int)]) (blk_put h.b1 0 v rfl) 1 _ rfl, hb.heap h.b2 (by omega), hb.heap h.b3 (by omega)⟩
theorem AS.put1 {v : Value} {k : List Int} (h : AS w W o0 o1 m0 m1 l0 l1 k0 k1 B p0 p1 v0 v1 K N S z0 z1 z2 z3) (r : RV W v k) : AS w ((W.setCell ⟨B + 1, 2, none⟩ v).setCell ⟨B + 1, 3, none⟩ (.int .i64 (m1 : Int))) o0 o1 m0 m1 l0 l1 k0 k B p0 p1 v0 v K N S z0 z1 z2 z3 := by
  have hb := two_but W (B + 1) 2 3 v (.int .i64 (m1 : Int))
  exact ⟨But.grow h.old hb (by have := h.base; omega), h.ap, h.base, h.q0.far hb h.b1 (by decide), h.q1.far hb h.b1 (by decide), h.r0.far hb h.b1 (by decide), r.far hb h.b1 (by decide), hb.heap h.b0 (by omega), blk_put (cs := #[v0, .int .i64 (m0 : Int), v, .int .i64 (m1 : Int)]) (blk_put h.b1 2 v rfl) 3 _ rfl, hb.heap h.b2 (by omega), hb.heap h.b3 (by omega)⟩
theorem AS.out {a b c d : Value} (h : AS w W o0 o1 m0 m1 l0 l1 k0 k1 B p0 p1 v0 v1 K N S z0 z1 z2 z3) : AS w ((((W.setCell ⟨B + 1 + 1 + 1, 0, none⟩ a).setCell ⟨B + 1 + 1 + 1, 1, none⟩ b).setCell ⟨B + 1 + 1 + 1, 2, none⟩ c).setCell ⟨B + 1 + 1 + 1, 3, none⟩ d) o0 o1 m0 m1 l0 l1 k0 k1 B p0 p1 v0 v1 K N S a b c d := by
  have hb := four_but W (B + 1 + 1 + 1) a b c d
  exact ⟨But.grow h.old hb (by have := h.base; omega), h.ap, h.base, h.q0.far hb h.b3 (by decide), h.q1.far hb h.b3 (by decide), h.r0.far hb h.b3 (by decide), h.r1.far hb h.b3 (by decide), hb.heap h.b0 (by omega), hb.heap h.b1 (by omega), hb.heap h.b2 (by omega), blk_put (cs := #[a, b, c, z3]) (blk_put (cs := #[a, b, z2, z3]) (blk_put (cs := #[a, z1, z2, z3]) (blk_put h.b3 0 a rfl) 1 b rfl) 2 c rfl) 3 d rfl⟩
theorem AS.start (w : World) (h : QAt w o0 m0 l0) (h' : QAt w o1 m1 l1) (r : RV w v0 k0) (r' : RV w v1 k1) (ha : Apart o0 o1) (hW : W = (((w.alloc (.cells #[p0, p1] 34)).alloc (.cells #[v0, .int .i64 (m0 : Int), v1, .int .i64 (m1 : Int)] 38)).alloc (.cells #[K, N, S] 43)).alloc (.cells #[z0, z1, z2, z3] 38)) : AS w W o0 o1 m0 m1 l0 l1 k0 k1 w.heap.size p0 p1 v0 v1 K N S z0 z1 z2 z3 := by
  subst hW
  have e1 : (w.alloc (.cells #[p0, p1] 34)).heap.size = w.heap.size + 1 := by simp
  have e2 : ((w.alloc (.cells #[p0, p1] 34)).alloc (.cells #[v0, .int .i64 (m0 : Int), v1, .int .i64 (m1 : Int)] 38)).heap.size = w.heap.size + 1 + 1 := by simp
  have e3 : (((w.alloc (.cells #[p0, p1] 34)).alloc (.cells #[v0, .int .i64 (m0 : Int), v1, .int .i64 (m1 : Int)] 38)).alloc (.cells #[K, N, S] 43)).heap.size = w.heap.size + 1 + 1 + 1 := by simp
  have hb : Below w.heap.size w ((((w.alloc (.cells #[p0, p1] 34)).alloc (.cells #[v0, .int .i64 (m0 : Int), v1, .int .i64 (m1 : Int)] 38)).alloc (.cells #[K, N, S] 43)).alloc (.cells #[z0, z1, z2, z3] 38)) := ((((Below.refl _ w).alloc (Nat.le_refl _) _).alloc (by omega) _).alloc (by omega) _).alloc (by omega) _
  refine ⟨But.of_below _ hb, ha, Nat.le_refl _, h.below hb, h'.below hb, r.below hb, r'.below hb, ?_, ?_, ?_, ?_⟩
  · exact blk_alloc_ (blk_alloc_ (blk_alloc_ (heap_alloc_new w _) _) _) _
  · rw [← e1]; exact blk_alloc_ (blk_alloc_ (heap_alloc_new _ _) _) _
  · rw [← e2]; exact blk_alloc_ (heap_alloc_new _ _) _
  · rw [← e3]; exact heap_alloc_new _ _
/-- Behind an act: queues and lists agree. -/
def APost (w : World) (o0 o1 : Option (Nat × Nat)) (m0 m1 : Nat) (e : Ending) (w' : World) : Prop := ∃ (v0 v1 : Value) (l0 l1 : List Int), e = .returned (.tuple #[.agg #[v0, .int .i64 (m0 : Int), v1, .int .i64 (m1 : Int)], .bool true]) ∧ QAt w' o0 m0 l0 ∧ QAt w' o1 m1 l1 ∧ RV w' v0 l0 ∧ RV w' v1 l1 ∧ But (ChF2 o0 o1) w w'
theorem four_cells {k : Nat} {a b c d : Value} {t : TypeId} (h : W.heap[k]? = some (.cells #[a, b, c, d] t (0, 0))) : W.cell? ⟨k, 0, none⟩ = some a ∧ W.cell? ⟨k, 1, none⟩ = some b ∧ W.cell? ⟨k, 2, none⟩ = some c ∧ W.cell? ⟨k, 3, none⟩ = some d := ⟨blk_cell h 0, blk_cell h 1, blk_cell h 2, blk_cell h 3⟩
theorem three_cells {k : Nat} {a b c : Value} {t : TypeId} (h : W.heap[k]? = some (.cells #[a, b, c] t (0, 0))) : W.cell? ⟨k, 0, none⟩ = some a ∧ W.cell? ⟨k, 1, none⟩ = some b ∧ W.cell? ⟨k, 2, none⟩ = some c := ⟨blk_cell h 0, blk_cell h 1, blk_cell h 2⟩
theorem two_cells {k : Nat} {a b : Value} {t : TypeId} (h : W.heap[k]? = some (.cells #[a, b] t (0, 0))) : W.cell? ⟨k, 0, none⟩ = some a ∧ W.cell? ⟨k, 1, none⟩ = some b := ⟨blk_cell h 0, blk_cell h 1⟩
/-- The state with two more boxes of the walk's own. -/
structure MS (w W : World) (o0 o1 : Option (Nat × Nat)) (m0 m1 : Nat) (l0 l1 k0 k1 : List Int) (B : Nat) (p0 p1 v0 v1 K N S z0 z1 z2 z3 a b : Value) (ka kb : List Int) (Ga Gb : Nat) (ca cb : Array Value) : Prop where
  st : AS w W o0 o1 m0 m1 l0 l1 k0 k1 B p0 p1 v0 v1 K N S z0 z1 z2 z3
  ra : RV W a ka
  rb : RV W b kb
  ga : W.heap[Ga]? = some (.cells ca 37 (0, 0))
  gb : W.heap[Gb]? = some (.cells cb 37 (0, 0))
  ne : Ga ≠ Gb
  la : B + 1 + 1 + 1 < Ga
  lb : B + 1 + 1 + 1 < Gb
section
variable {a b u0 u1 x y : Value} {ka kb : List Int} {Ga Gb : Nat} {ca cb : Array Value}
theorem MS.setA (h : MS w W o0 o1 m0 m1 l0 l1 k0 k1 B p0 p1 v0 v1 K N S z0 z1 z2 z3 a b ka kb Ga Gb #[x, y] cb) : MS w ((W.setCell ⟨Ga, 0, none⟩ u0).setCell ⟨Ga, 1, none⟩ u1) o0 o1 m0 m1 l0 l1 k0 k1 B p0 p1 v0 v1 K N S z0 z1 z2 z3 a b ka kb Ga Gb #[u0, u1] cb := by
  have hb := two_but W Ga 0 1 u0 u1
  exact ⟨h.st.box hb h.ga (by decide) (by decide) h.la, h.ra.far hb h.ga (by decide), h.rb.far hb h.ga (by decide), set2_blk h.ga, hb.heap h.gb (fun e => h.ne e.symm), h.ne, h.la, h.lb⟩
theorem MS.setB (h : MS w W o0 o1 m0 m1 l0 l1 k0 k1 B p0 p1 v0 v1 K N S z0 z1 z2 z3 a b ka kb Ga Gb ca #[x, y]) : MS w ((W.setCell ⟨Gb, 0, none⟩ u0).setCell ⟨Gb, 1, none⟩ u1) o0 o1 m0 m1 l0 l1 k0 k1 B p0 p1 v0 v1 K N S z0 z1 z2 z3 a b ka kb Ga Gb ca #[u0, u1] := by
  have hb := two_but W Gb 0 1 u0 u1
  exact ⟨h.st.box hb h.gb (by decide) (by decide) h.lb, h.ra.far hb h.gb (by decide), h.rb.far hb h.gb (by decide), hb.heap h.ga h.ne, set2_blk h.gb, h.ne, h.la, h.lb⟩
theorem MS.drew (h : MS w W o0 o1 m0 m1 l0 l1 k0 k1 B p0 p1 v0 v1 K N S z0 z1 z2 z3 a b ka kb Ga Gb ca cb) : MS w W.drew o0 o1 m0 m1 l0 l1 k0 k1 B p0 p1 v0 v1 K N S z0 z1 z2 z3 a b ka kb Ga Gb ca cb :=
  ⟨h.st.drew, h.ra.below (below_drew (Below.refl _ W)), h.rb.below (below_drew (Below.refl _ W)), h.ga, h.gb, h.ne, h.la, h.lb⟩
theorem MS.four {x0 x1 y0 y1 : Value} (h : MS w W o0 o1 m0 m1 l0 l1 k0 k1 B p0 p1 v0 v1 K N S z0 z1 z2 z3 a b ka kb Ga Gb #[x0, x1] #[y0, y1]) (hb : But (fun k => k = B + 1) W W') : W'.drew.cell? ⟨Ga, 0, none⟩ = some x0 ∧ W'.drew.cell? ⟨Ga, 1, none⟩ = some x1 ∧ W'.drew.cell? ⟨Gb, 0, none⟩ = some y0 ∧ W'.drew.cell? ⟨Gb, 1, none⟩ = some y1 := by
  have ha : W'.drew.heap[Ga]? = _ := hb.heap h.ga (by have := h.la; omega)
  have hc : W'.drew.heap[Gb]? = _ := hb.heap h.gb (by have := h.lb; omega)
  exact ⟨(two_cells ha).1, (two_cells ha).2, (two_cells hc).1, (two_cells hc).2⟩
theorem MS.done01 (h : MS w W o0 o1 m0 m1 l0 l1 k0 k1 B p0 p1 v0 v1 K N S z0 z1 z2 z3 a b ka kb Ga Gb ca cb) : AS w ((((W.setCell ⟨B + 1, 0, none⟩ a).setCell ⟨B + 1, 1, none⟩ (.int .i64 (m0 : Int))).setCell ⟨B + 1, 2, none⟩ b).setCell ⟨B + 1, 3, none⟩ (.int .i64 (m1 : Int))) o0 o1 m0 m1 l0 l1 ka kb B p0 p1 a b K N S z0 z1 z2 z3 :=
  (h.st.put0 h.ra).put1 (h.rb.far (two_but W (B + 1) 0 1 _ _) h.st.b1 (by decide))
theorem MS.done10 (h : MS w W o0 o1 m0 m1 l0 l1 k0 k1 B p0 p1 v0 v1 K N S z0 z1 z2 z3 a b ka kb Ga Gb ca cb) : AS w ((((W.setCell ⟨B + 1, 2, none⟩ b).setCell ⟨B + 1, 3, none⟩ (.int .i64 (m1 : Int))).setCell ⟨B + 1, 0, none⟩ a).setCell ⟨B + 1, 1, none⟩ (.int .i64 (m0 : Int))) o0 o1 m0 m1 l0 l1 ka kb B p0 p1 a b K N S z0 z1 z2 z3 :=
  (h.st.put1 h.rb).put0 (h.ra.far (two_but W (B + 1) 2 3 _ _) h.st.b1 (by decide))
theorem MS.swap (h : MS w W o0 o1 m0 m1 l0 l1 k0 k1 B p0 p1 v0 v1 K N S z0 z1 z2 z3 a b ka kb Ga Gb ca cb) : MS w W o0 o1 m0 m1 l0 l1 k0 k1 B p0 p1 v0 v1 K N S z0 z1 z2 z3 b a kb ka Gb Ga cb ca :=
  ⟨h.st, h.rb, h.ra, h.gb, h.ga, h.ne.symm, h.lb, h.la⟩
/-- Both boxes made behind the call. -/
theorem MS.mk2 (h : AS w W o0 o1 m0 m1 l0 l1 k0 k1 B p0 p1 v0 v1 K N S z0 z1 z2 z3) (ra : RV W a ka) (rb : RV W b kb) : MS w ((W.alloc (.cells ca 37)).alloc (.cells cb 37)) o0 o1 m0 m1 l0 l1 k0 k1 B p0 p1 v0 v1 K N S z0 z1 z2 z3 a b ka kb W.heap.size (W.heap.size + 1) ca cb :=
  ⟨(h.alloc _).alloc _, (ra.below (below_alloc (Below.refl _ _) _)).below (below_alloc (Below.refl _ _) _), (rb.below (below_alloc (Below.refl _ _) _)).below (below_alloc (Below.refl _ _) _), blk_alloc_ (heap_alloc_new W _) _, blk_new2 W _ _, by omega, h.lt, Nat.lt_succ_of_lt h.lt⟩
theorem MS.mk2' (h : AS w W o0 o1 m0 m1 l0 l1 k0 k1 B p0 p1 v0 v1 K N S z0 z1 z2 z3) (ra : RV W a ka) (rb : RV W b kb) : MS w ((W.alloc (.cells cb 37)).alloc (.cells ca 37)) o0 o1 m0 m1 l0 l1 k0 k1 B p0 p1 v0 v1 K N S z0 z1 z2 z3 a b ka kb (W.heap.size + 1) W.heap.size ca cb :=
  ⟨(h.alloc _).alloc _, (ra.below (below_alloc (Below.refl _ _) _)).below (below_alloc (Below.refl _ _) _), (rb.below (below_alloc (Below.refl _ _) _)).below (below_alloc (Below.refl _ _) _), blk_new2 W _ _, blk_alloc_ (heap_alloc_new W _) _, by omega, Nat.lt_succ_of_lt h.lt, h.lt⟩
/-- One box there, the other made. -/
theorem MS.mk1 (h : AS w W o0 o1 m0 m1 l0 l1 k0 k1 B p0 p1 v0 v1 K N S z0 z1 z2 z3) (ra : RV W a ka) (rb : RV W b kb) (ha : W.heap[Ga]? = some (.cells ca 37 (0, 0))) (la : B + 1 + 1 + 1 < Ga) : MS w (W.alloc (.cells cb 37)) o0 o1 m0 m1 l0 l1 k0 k1 B p0 p1 v0 v1 K N S z0 z1 z2 z3 a b ka kb Ga W.heap.size ca cb :=
  ⟨h.alloc _, ra.below (below_alloc (Below.refl _ _) _), rb.below (below_alloc (Below.refl _ _) _), blk_alloc_ ha _, heap_alloc_new W _, Nat.ne_of_lt (blk_lt ha), la, h.lt⟩
theorem MS.mk1' (h : AS w W o0 o1 m0 m1 l0 l1 k0 k1 B p0 p1 v0 v1 K N S z0 z1 z2 z3) (ra : RV W a ka) (rb : RV W b kb) (hb : W.heap[Gb]? = some (.cells cb 37 (0, 0))) (lb : B + 1 + 1 + 1 < Gb) : MS w (W.alloc (.cells ca 37)) o0 o1 m0 m1 l0 l1 k0 k1 B p0 p1 v0 v1 K N S z0 z1 z2 z3 a b ka kb W.heap.size Gb ca cb :=
  ⟨h.alloc _, ra.below (below_alloc (Below.refl _ _) _), rb.below (below_alloc (Below.refl _ _) _), heap_alloc_new W _, blk_alloc_ hb _, Nat.ne_of_gt (blk_lt hb), h.lt, lb⟩
end
end
end Go.Proofs.YtfoenpdfmhmkiaaPlay
