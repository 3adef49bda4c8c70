/- A queue that is there, or none: what its functions tell, and what they leave: conditions stand with each. -/
import Derived.Test.YtfoenpdfmhmkiaaBut
import Derived.Test.YtfoenpdfmhmkiaaMove
import Derived.Test.YtfoenpdfmhmkiaaQNil
import Derived.Test.YtfoenpdfmhmkiaaQueue
import Derived.Test.YtfoenpdfmhmkiaaPQueuePlaysx3
import Derived.Test.YtfoenpdfmhmkiaaRMove
import Derived.Conc.Token
set_option linter.unusedVariables false
set_option linter.unusedSimpArgs false
namespace Go.Proofs.YtfoenpdfmhmkiaaPlay
open Go.Conc Go.RowKit Go.Proofs.YtfoenpdfmhmkiaaW.PrintWords Go.Proofs.YtfoenpdfmhmkiaaW.PrintLast Go.Proofs.YtfoenpdfmhmkiaaW.PrintMore Go.Proofs.YtfoenpdfmhmkiaaW.HKit Go.Proofs.YtfoenpdfmhmkiaaW.But Go.Proofs.Ytfoenpdfmhmkiaa.PQueuePlays
open Go.Proofs.YtfoenpdfmhmkiaaLone (push_roomI push_fullI push_nilI pop_someI pop_noneI pop_nilI lenJ roomJ lenNil roomNil moveI moveNil1 moveNil2 mv allJ allNil Two Only)
/-- A queue as a value: none, or its block and its channel's. -/
def qv : Option (Nat × Nat) → Value
  | none => .pointer none
  | some (q, _) => .pointer (some ⟨q, 0, none⟩)
/-- What a queue is: for how many there is room, and what waits. -/
def QAt (W : World) : Option (Nat × Nat) → Nat → List Int → Prop
  | none, m, l => m = 0 ∧ l = []
  | some (q, c), m, l => W.heap[q]? = some (.cells #[.chan (some c)] 62 (0, 0)) ∧ (∃ s r, W.heap[c]? = some (.chan m (l.map (Value.int .i64)).toArray false s r false)) ∧ 1 ≤ m ∧ m ≤ 4096 ∧ l.length ≤ m
def ChF : Option (Nat × Nat) → Nat → Prop
  | none => fun _ => False
  | some (_, c) => fun k => k = c
def Apart : Option (Nat × Nat) → Option (Nat × Nat) → Prop
  | some (q, c), some (q', c') => q ≠ q' ∧ c ≠ c'
  | _, _ => True
theorem q_cell {W : World} {q c : Nat} (h : W.heap[q]? = some (.cells #[.chan (some c)] 62 (0, 0))) : W.cell? ⟨q, 0, none⟩ = some (.chan (some c)) := by simp [World.cell?, h]
theorem but_set (w : World) (c cap : Nat) (buf : Array Value) (cl : Bool) (s r : Nat) (tm : Bool) : But (fun k => k = c) w (w.setChan c cap buf cl s r tm) :=
  ⟨rfl, rfl, rfl, by simp [World.setChan], fun k _ hn => by simp only [World.setChan]; rw [Array.getElem?_setIfInBounds_ne (by omega)]⟩
theorem ne_chan {W : World} {k c cap s r : Nat} {cs buf : Array Value} {t : TypeId} {f : Nat × Nat} {a b : Bool} (hk : W.heap[k]? = some (.cells cs t f)) (hc : W.heap[c]? = some (.chan cap buf a s r b)) : k ≠ c := by
  rintro rfl
  rw [hk] at hc
  cases hc
/-- Push of a queue, or of none. -/
def pushL (m : Nat) (l : List Int) (x : Int) : List Int := if l.length < m then l ++ [x] else l
theorem push_q (o : Option (Nat × Nat)) (m : Nat) (l : List Int) (x : Int) (w : World) (h : QAt w o m l) :
    Calls Try.prog 17 #[qv o, .int .i64 x] w fun e w' => e = .returned (.bool (decide (l.length < m))) ∧ QAt w' o m (pushL m l x) ∧ But (ChF o) w w' := by
  match o, h with
  | none, h =>
    obtain ⟨rfl, rfl⟩ := h
    refine (push_nilI w x).mono ?_
    rintro e w' ⟨rfl, rfl⟩
    exact ⟨rfl, ⟨rfl, rfl⟩, But.refl _ _⟩
  | some (q, c), h =>
    obtain ⟨hq, ⟨s, r, hc⟩, h1, h2, h3⟩ := h
    unfold pushL
    by_cases hl : l.length < m
    · refine (push_roomI w q c m _ s r x (q_cell hq) hc (by simpa using hl)).mono ?_
      rintro e w' ⟨rfl, rfl⟩
      rw [decide_eq_true hl, if_pos hl]
      have hb := but_set w c m ((l.map (Value.int .i64)).toArray.push (.int .i64 x)) false (s + 1) r false
      refine ⟨rfl, ⟨hb.heap hq (ne_chan hq hc), ⟨s + 1, r, ?_⟩, h1, h2, by rw [List.length_append]; simp; omega⟩, hb⟩
      rw [heap_setChan_self w hc]
      simp
    · refine (push_fullI w q c m _ s r x (q_cell hq) hc (by simpa using hl)).mono ?_
      rintro e w' ⟨rfl, rfl⟩
      rw [decide_eq_false hl, if_neg hl]
      exact ⟨rfl, ⟨hq, ⟨s, r, hc⟩, h1, h2, h3⟩, But.refl _ _⟩
theorem pop_q (o : Option (Nat × Nat)) (m : Nat) (l : List Int) (w : World) (h : QAt w o m l) :
    Calls Try.prog 15 #[qv o] w fun e w' => e = .returned (.tuple #[.int .i64 (l.headD 0), .bool (decide (0 < l.length))]) ∧ QAt w' o m l.tail ∧ But (ChF o) w w' := by
  match o, h with
  | none, h =>
    obtain ⟨rfl, rfl⟩ := h
    refine (pop_nilI w).mono ?_
    rintro e w' ⟨rfl, rfl⟩
    exact ⟨rfl, ⟨rfl, rfl⟩, But.refl _ _⟩
  | some (q, c), h =>
    obtain ⟨hq, ⟨s, r, hc⟩, h1, h2, h3⟩ := h
    match l, hc, h3 with
    | [], hc, h3 =>
      refine (pop_noneI w q c m s r (q_cell hq) hc).mono ?_
      rintro e w' ⟨rfl, rfl⟩
      exact ⟨rfl, ⟨hq, ⟨s, r, hc⟩, h1, h2, h3⟩, But.refl _ _⟩
    | x :: l, hc, h3 =>
      refine (pop_someI w q c m s r (q_cell hq) x (l.map (Value.int .i64)) hc).mono ?_
      rintro e w' ⟨rfl, rfl⟩
      have hb := but_set w c m (l.map (Value.int .i64)).toArray false s (r + 1) false
      refine ⟨rfl, ⟨hb.heap hq (ne_chan hq hc), ⟨s, r + 1, heap_setChan_self w hc _ _ _ _ _ _⟩, h1, h2, ?_⟩, hb⟩
      have : (x :: l).length = l.length + 1 := rfl
      show l.length ≤ m
      omega
theorem len_q (o : Option (Nat × Nat)) (m : Nat) (l : List Int) (w : World) (h : QAt w o m l) :
    Calls Try.prog 18 #[qv o] w fun e w' => e = .returned (.int .i64 (l.length : Int)) ∧ w' = w := by
  match o, h with
  | none, h =>
    obtain ⟨rfl, rfl⟩ := h
    exact lenNil w
  | some (q, c), h =>
    obtain ⟨hq, ⟨s, r, hc⟩, h1, h2, h3⟩ := h
    have := lenJ w q c m _ s r (q_cell hq) hc
    simp only [List.size_toArray, List.length_map] at this
    exact this
theorem room_q (o : Option (Nat × Nat)) (m : Nat) (l : List Int) (w : World) (h : QAt w o m l) :
    Calls Try.prog 19 #[qv o] w fun e w' => e = .returned (.int .i64 ((m : Int) - (l.length : Int))) ∧ w' = w := by
  match o, h with
  | none, h =>
    obtain ⟨rfl, rfl⟩ := h
    exact roomNil w
  | some (q, c), h =>
    obtain ⟨hq, ⟨s, r, hc⟩, h1, h2, h3⟩ := h
    have := roomJ w q c m _ s r (q_cell hq) hc (by simpa using h3) h2
    simp only [List.size_toArray, List.length_map] at this
    exact this
/-- The blocks that have turned are channels of these queues alone: what else is known stays. -/
theorem QAt.but {F : Nat → Prop} {W W' : World} {o : Option (Nat × Nat)} {m : Nat} {l : List Int} (h : QAt W o m l) (hb : But F W W') (hF : ∀ k, F k → ∀ q c, o = some (q, c) → k ≠ q ∧ k ≠ c) : QAt W' o m l := by
  match o, h with
  | none, h => exact h
  | some (q, c), h =>
    obtain ⟨hq, ⟨s, r, hc⟩, h1⟩ := h
    exact ⟨hb.heap hq (fun hk => (hF q hk q c rfl).1 rfl), ⟨s, r, hb.heap hc (fun hk => (hF c hk q c rfl).2 rfl)⟩, h1⟩
theorem QAt.other {W W' : World} {o o' : Option (Nat × Nat)} {m m' : Nat} {l l' : List Int} (h : QAt W o m l) (h' : QAt W o' m' l') (ha : Apart o' o) (hb : But (ChF o') W W') : QAt W' o m l := by
  refine h.but hb ?_
  intro k hk q c ho
  match o', h', ha, hk with
  | some (q', c'), h', ha, hk =>
    subst ho
    obtain ⟨hq, _⟩ := h
    obtain ⟨_, ⟨s, r, hc'⟩, _⟩ := h'
    have hk' : k = c' := hk
    subst hk'
    exact ⟨(ne_chan hq hc').symm, fun e => ha.2 e⟩
set_option maxRecDepth 100000 in
theorem either_q (o0 o1 : Option (Nat × Nat)) (m0 m1 : Nat) (l0 l1 : List Int) (w : World) (h0 : QAt w o0 m0 l0) (h1 : QAt w o1 m1 l1) (ha : Apart o0 o1) :
    Calls Try.prog 16 #[qv o0, qv o1] w fun e w' => e = .returned (.tuple #[.int .i64 (if 0 < l0.length then l0.headD 0 else l1.headD 0), .int .i64 (if 0 < l0.length then 1 else if 0 < l1.length then 2 else 0)]) ∧ QAt w' o0 m0 l0.tail ∧ QAt w' o1 m1 (if 0 < l0.length then l1 else l1.tail) ∧ But (fun k => ChF o0 k ∨ ChF o1 k) w w' := by
  have hp0 := pop_q o0 m0 l0 w h0
  have hp1 := fun (W : World) (hW : QAt W o1 m1 l1) => pop_q o1 m1 l1 W hW
  have H0 := Lib.hid hp0
  have H1 := Lib.hid hp1
  have K0 := Lib.hid h0
  have K1 := Lib.hid h1
  have HA := Lib.hid ha
  have e0 : l0.length = 0 → l0 = [] := List.eq_nil_of_length_eq_zero
  have e1 : l1.length = 0 → l1 = [] := List.eq_nil_of_length_eq_zero
  have E0 := Lib.hid e0
  have E1 := Lib.hid e1
  obtain ⟨v0, hv0⟩ : ∃ v, v = qv o0 := ⟨_, rfl⟩
  obtain ⟨v1, hv1⟩ : ∃ v, v = qv o1 := ⟨_, rfl⟩
  rw [← hv0, ← hv1]
  rw [← hv0] at H0
  rw [← hv1] at H1
  clear hp0 hp1 h0 h1 ha e0 e1 hv0 hv1
  generalize hx0 : l0.headD 0 = x0 at *
  generalize hx1 : l1.headD 0 = x1 at *
  have HX1 := Lib.hid hx1
  clear hx0 hx1
  by_cases c0 : 0 < l0.length
  · rw [decide_eq_true c0] at H0
    simp only [if_pos c0]
    clear c0
    go_enter Try.func16, Try.ntmps16
    go_wp2_with fail
    (with_reducible refine H0.out.mono ?_)
    rintro e w1 ⟨rfl, hq, hb⟩
    have HQ := Lib.hid hq
    have HB := Lib.hid hb
    clear hq hb H0 H1
    go_wp2_with fail
    go_ret2
    exact ⟨rfl, HQ.out, QAt.other K1.out K0.out HA.out HB.out, HB.out.mono fun k hk => .inl hk⟩
  · rw [decide_eq_false c0] at H0
    simp only [if_neg c0]
    have C0 := Lib.hid (E0.out (by omega))
    clear c0
    by_cases c1 : 0 < l1.length
    · rw [decide_eq_true c1] at H1
      simp only [if_pos c1]
      clear c1
      go_enter Try.func16, Try.ntmps16
      go_wp2_with fail
      (with_reducible refine H0.out.mono ?_)
      rintro e w1 ⟨rfl, hq, hb⟩
      have HQ := Lib.hid hq
      have HB := Lib.hid hb
      have K1' := Lib.hid (QAt.other K1.out K0.out HA.out HB.out)
      clear hq hb H0 K1
      go_wp2_with fail
      (with_reducible refine (H1.out _ K1'.out).mono ?_)
      rintro e w2 ⟨rfl, hq2, hb2⟩
      have HQ2 := Lib.hid hq2
      have HB2 := Lib.hid hb2
      clear hq2 hb2 H1
      go_wp2_with fail
      go_ret2
      refine ⟨rfl, QAt.other HQ.out K1'.out ?_ HB2.out, HQ2.out, (HB.out.mono fun k hk => .inl hk).trans (HB2.out.mono fun k hk => .inr hk)⟩
      have := HA.out
      revert this
      match o0, o1 with
      | none, none => exact fun _ => trivial
      | none, some _ => exact fun _ => trivial
      | some _, none => exact fun _ => trivial
      | some _, some _ => exact fun h => ⟨h.1.symm, h.2.symm⟩
    · rw [decide_eq_false c1] at H1
      simp only [if_neg c1]
      have hl1 := E1.out (by omega)
      have hx := HX1.out
      rw [hl1] at hx
      have hx1 : x1 = 0 := hx.symm
      rw [hx1]
      rw [hx1] at H1
      clear hx hx1 HX1 c1 hl1
      go_enter Try.func16, Try.ntmps16
      go_wp2_with fail
      (with_reducible refine H0.out.mono ?_)
      rintro e w1 ⟨rfl, hq, hb⟩
      have HQ := Lib.hid hq
      have HB := Lib.hid hb
      have K1' := Lib.hid (QAt.other K1.out K0.out HA.out HB.out)
      clear hq hb H0 K1
      go_wp2_with fail
      (with_reducible refine (H1.out _ K1'.out).mono ?_)
      rintro e w2 ⟨rfl, hq2, hb2⟩
      have HQ2 := Lib.hid hq2
      have HB2 := Lib.hid hb2
      clear hq2 hb2 H1
      go_wp2_with fail
      go_ret2
      refine ⟨rfl, QAt.other HQ.out K1'.out ?_ HB2.out, HQ2.out, (HB.out.mono fun k hk => .inl hk).trans (HB2.out.mono fun k hk => .inr hk)⟩
      have := HA.out
      revert this
      match o0, o1 with
      | none, none => exact fun _ => trivial
      | none, some _ => exact fun _ => trivial
      | some _, none => exact fun _ => trivial
      | some _, some _ => exact fun h => ⟨h.1.symm, h.2.symm⟩
theorem move_q (o0 o1 : Option (Nat × Nat)) (m0 m1 : Nat) (l0 l1 : List Int) (most : Int) (w : World) (h0 : QAt w o0 m0 l0) (h1 : QAt w o1 m1 l1) (ha : Apart o0 o1) (K : Nat) (hK : K = mv most l0.length (m1 - l1.length)) :
    Calls Try.prog 20 #[qv o0, qv o1, .int .i64 most] w fun e w' => e = .returned (.int .i64 (K : Int)) ∧ QAt w' o0 m0 (l0.drop K) ∧ QAt w' o1 m1 (l1 ++ l0.take K) ∧ But (fun k => ChF o0 k ∨ ChF o1 k) w w' := by
  match o0, o1, h0, h1, ha with
  | none, o1, h0, h1, ha =>
    obtain ⟨rfl, rfl⟩ := h0
    have hK0 : K = 0 := by rw [hK]; unfold mv; simp
    subst hK0
    refine (moveNil1 (qv o1) most w).mono ?_
    rintro e w' ⟨rfl, rfl⟩
    exact ⟨rfl, ⟨rfl, rfl⟩, by simpa using h1, But.refl _ _⟩
  | some (q, c), none, h0, h1, ha =>
    obtain ⟨rfl, rfl⟩ := h1
    have hK0 : K = 0 := by rw [hK]; unfold mv; simp
    subst hK0
    refine (moveNil2 ⟨q, 0, none⟩ most w).mono ?_
    rintro e w' ⟨rfl, rfl⟩
    exact ⟨rfl, by simpa using h0, ⟨rfl, by simp⟩, But.refl _ _⟩
  | some (q, c), some (q', c'), h0, h1, ha =>
    obtain ⟨hq, ⟨s, r, hc⟩, g1, g2, g3⟩ := h0
    obtain ⟨hq', ⟨s', r', hc'⟩, g1', g2', g3'⟩ := h1
    refine (moveI most w q c m0 s r q' c' m1 s' r' l0 l1 ha.2 ha.1 (q_cell hq) (q_cell hq') hc hc' g3' g2' _ _ _ _ hq hq').mono ?_
    rintro e w' ⟨rfl, k1, k2, k3, k4, k5⟩
    rw [← hK] at k3 k4 ⊢
    have hb : But (fun k => k = c ∨ k = c') w w' := ⟨k5.os, k5.tape, k5.output, by rw [k5.size]; exact Nat.le_refl _, fun k _ hn => k5.other k (fun e => hn (.inl e)) (fun e => hn (.inr e))⟩
    have hk : K ≤ l0.length ∧ l1.length + K ≤ m1 := by rw [hK]; unfold mv; omega
    refine ⟨rfl, ⟨hb.heap hq ?_, ⟨_, _, k3⟩, g1, g2, by rw [List.length_drop]; omega⟩, ⟨hb.heap hq' ?_, ⟨_, _, k4⟩, g1', g2', by rw [List.length_append, List.length_take]; omega⟩, hb⟩
    · rintro (e | e)
      · exact ne_chan hq hc e
      · exact ne_chan hq hc' e
    · rintro (e | e)
      · exact ne_chan hq' hc e
      · exact ne_chan hq' hc' e
theorem all_q (o : Option (Nat × Nat)) (m : Nat) (l : List Int) (w : World) (h : QAt w o m l) :
    Calls Try.prog 21 #[qv o] w fun e w' => ∃ v, e = .returned v ∧ w'.ownsRow w.heap.size 3 1 v l.length (nums .i64 l) ∧ QAt w' o m [] ∧ But (ChF o) w w' := by
  match o, h with
  | none, h =>
    obtain ⟨rfl, rfl⟩ := h
    refine (allNil w).mono ?_
    rintro e w' ⟨rfl, rfl⟩
    exact ⟨_, rfl, own_nil _ _ _ _, ⟨rfl, rfl⟩, But.refl _ _⟩
  | some (q, c), h =>
    obtain ⟨hq, ⟨s, r, hc⟩, g1, g2, g3⟩ := h
    refine (allJ w q c m s r l (q_cell hq) hc (by omega)).mono ?_
    rintro e w' ⟨⟨v, rfl, hrow⟩, hch, honly⟩
    have hb : But (fun k => k = c) w w' := ⟨honly.os, honly.tape, honly.output, honly.size, fun k hk hn => honly.other k hk hn⟩
    refine ⟨v, rfl, by simpa [nums] using hrow, ⟨hb.heap hq (ne_chan hq hc), ⟨_, _, hch⟩, g1, g2, Nat.zero_le _⟩, hb⟩
end Go.Proofs.YtfoenpdfmhmkiaaPlay
