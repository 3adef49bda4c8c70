/- QueueOrder: its walk. -/
import Derived.Test.YtfoenpdfmhmkiaaMove
import Derived.Test.YtfoenpdfmhmkiaaQNil
import Derived.Test.YtfoenpdfmhmkiaaStrs
import Derived.Test.YtfoenpdfmhmkiaaHKit
import Derived.BigQuiet
set_option linter.unusedVariables false
set_option linter.unusedSimpArgs false
namespace Go.Proofs.YtfoenpdfmhmkiaaLone
open Go.Conc Go.RowKit Go.Proofs.YtfoenpdfmhmkiaaW.Strs Go.Proofs.YtfoenpdfmhmkiaaW.PrintWords
theorem cell_of_cells {w : World} {q : Nat} {v : Value} {t : TypeId} {f : Nat × Nat} (h : w.heap[q]? = some (.cells #[v] t f)) : w.cell? ⟨q, 0, none⟩ = some v := by
  simp only [World.cell?, h]
  rfl
/-- The two queues of the law. -/
structure Two2 (b0 q c p d n : Nat) (xs ys : List ByteArray) (w0 w : World) : Prop where
  bel : Below w0.heap.size w0 w
  le : w0.heap.size ≤ b0
  hc0 : b0 ≤ c
  hd0 : b0 ≤ d
  hcd : c ≠ d
  hqp : q ≠ p
  q : w.heap[q]? = some (.cells #[.chan (some c)] 56 (0, 0))
  p : w.heap[p]? = some (.cells #[.chan (some d)] 56 (0, 0))
  c : ∃ s r, w.heap[c]? = some (.chan n (xs.map (Value.string)).toArray false s r false)
  d : ∃ s r, w.heap[d]? = some (.chan n (ys.map (Value.string)).toArray false s r false)
theorem two_start {w0 w1 : World} (h : Below w0.heap.size w0 w1) (n : Nat) (W : World) (hW : W = (((w1.alloc (.chan n #[] false 0 0 false)).alloc (.cells #[.chan (some w1.heap.size)] 56)).alloc (.chan n #[] false 0 0 false)).alloc (.cells #[.chan (some (w1.heap.size + 2))] 56)) :
    Two2 w0.heap.size (w1.heap.size + 1) w1.heap.size (w1.heap.size + 3) (w1.heap.size + 2) n [] [] w0 W := by
  have hs := h.size
  subst hW
  refine ⟨((((h.alloc hs _).alloc (by simp; omega) _).alloc (by simp; omega) _).alloc (by simp; omega) _), Nat.le_refl _, hs, by omega, by omega, by omega, ?_, ?_, ⟨0, 0, ?_⟩, ⟨0, 0, ?_⟩⟩
  · rw [heap_alloc_old _ _ (by simp), heap_alloc_old _ _ (by simp)]
    have := heap_alloc_new (w1.alloc (.chan n #[] false 0 0 false)) (.cells #[.chan (some w1.heap.size)] 56)
    simpa using this
  · have := heap_alloc_new (((w1.alloc (.chan n #[] false 0 0 false)).alloc (.cells #[.chan (some w1.heap.size)] 56)).alloc (.chan n #[] false 0 0 false)) (.cells #[.chan (some (w1.heap.size + 2))] 56)
    simpa using this
  · rw [heap_alloc_old _ _ (by simp; omega), heap_alloc_old _ _ (by simp; omega), heap_alloc_old _ _ (by simp)]
    have := heap_alloc_new w1 (.chan n #[] false 0 0 false)
    simpa using this
  · rw [heap_alloc_old _ _ (by simp)]
    have := heap_alloc_new ((w1.alloc (.chan n #[] false 0 0 false)).alloc (.cells #[.chan (some w1.heap.size)] 56)) (.chan n #[] false 0 0 false)
    simpa using this
theorem chan_cells_ne {w : World} {q c : Nat} {vs : Array Value} {t : TypeId} {f : Nat × Nat} {cap s r : Nat} {buf : Array Value} {a b : Bool} (hq : w.heap[q]? = some (.cells vs t f)) (hc : w.heap[c]? = some (.chan cap buf a s r b)) : q ≠ c := by
  rintro rfl
  rw [hq] at hc
  cases hc
theorem two_push {b0 q c p d n : Nat} {xs ys : List ByteArray} {w0 w : World} (h : Two2 b0 q c p d n xs ys w0 w) (x : ByteArray) (s r : Nat) (hc : w.heap[c]? = some (.chan n (xs.map (Value.string)).toArray false s r false)) :
    Two2 b0 q c p d n (xs ++ [x]) ys w0 (w.setChan c n ((xs.map (Value.string)).toArray.push (.string x)) false (s + 1) r false) := by
  obtain ⟨h1, h2, h3, h4, h5, h6, h7, h8, _, ⟨s2, r2, h10⟩⟩ := h
  refine ⟨below_setChan h1 (by omega) _ _ _ _ _ _, h2, h3, h4, h5, h6, ?_, ?_, ⟨s + 1, r, ?_⟩, ⟨s2, r2, ?_⟩⟩
  · rw [set_other _ _ _ _ _ _ _ _ _ (chan_cells_ne h7 hc)]; exact h7
  · rw [set_other _ _ _ _ _ _ _ _ _ (chan_cells_ne h8 hc)]; exact h8
  · rw [heap_setChan w c _ _ _ _ _ _ (chan_lt hc)]; simp
  · rw [set_other _ _ _ _ _ _ _ _ _ (fun h => h5 h.symm)]; exact h10
theorem two_moved {b0 q c p d n : Nat} {xs ys : List ByteArray} {w0 w w' : World} (h : Two2 b0 q c p d n xs ys w0 w) {cap1 s1 r1 cap2 s2 r2 k : Nat} (hm : MoveAtS w q c n s1 r1 p d n s2 r2 xs ys k w') : Two2 b0 q c p d n (xs.drop k) (ys ++ xs.take k) w0 w' := by
  obtain ⟨h1, h2, h3, h4, h5, h6, h7, h8, ⟨_, _, h9⟩, ⟨_, _, h10⟩⟩ := h
  obtain ⟨m1, m2, m3, m4, m5⟩ := hm
  exact ⟨h1.trans (m5.below (by omega) (by omega)), h2, h3, h4, h5, h6, by rw [m5.other _ (chan_cells_ne h7 h9) (chan_cells_ne h7 h10)]; exact h7, by rw [m5.other _ (chan_cells_ne h8 h9) (chan_cells_ne h8 h10)]; exact h8, ⟨_, _, m3⟩, ⟨_, _, m4⟩⟩
theorem two_all {b0 q c p d n : Nat} {xs ys : List ByteArray} {w0 w w' : World} (h : Two2 b0 q c p d n xs ys w0 w) {cap s r : Nat} {acc : List Value} {e : Ending} (ha : AllPostS w.heap.size d n s r w acc e w') : Two2 b0 q c p d n xs [] w0 w' := by
  obtain ⟨h1, h2, h3, h4, h5, h6, h7, h8, ⟨s3, r3, h9⟩, ⟨_, _, h10⟩⟩ := h
  obtain ⟨_, a2, a3⟩ := ha
  exact ⟨h1.trans (a3.below (by omega) (Nat.le_trans (Nat.le_refl _) h1.size)), h2, h3, h4, h5, h6, by rw [a3.other _ (chan_lt h7) (chan_cells_ne h7 h10)]; exact h7, by rw [a3.other _ (chan_lt h8) (chan_cells_ne h8 h10)]; exact h8,
    ⟨s3, r3, by rw [a3.other _ (chan_lt h9) h5]; exact h9⟩, ⟨_, _, a2⟩⟩
theorem two_move {b0 q c p d n k : Nat} {l : List ByteArray} {w0 w : World} (h : Two2 b0 q c p d n (l.take k) [] w0 w) (hk : k ≤ n) (hn : n ≤ 4096) (hl : k ≤ l.length) :
    Calls Try.prog 9 #[.pointer (some ⟨q, 0, none⟩), .pointer (some ⟨p, 0, none⟩), .int .i64 5000] w fun e w' => e = .returned (.int .i64 (k : Int)) ∧ Two2 b0 q c p d n [] (l.take k) w0 w' := by
  obtain ⟨s1, r1, hc⟩ := h.c
  obtain ⟨s2, r2, hd⟩ := h.d
  have hm := moveS 5000 w q c n s1 r1 p d n s2 r2 (l.take k) [] h.hcd h.hqp (cell_of_cells h.q) (cell_of_cells h.p) hc hd (by simp) hn _ _ _ _ h.q h.p
  have e1 : mv 5000 (l.take k).length (n - ([] : List ByteArray).length) = k := by
    simp only [mv, List.length_take, List.length_nil]
    omega
  rw [e1] at hm
  refine hm.mono ?_
  rintro e w' ⟨he, hp⟩
  have := two_moved (cap1 := 0) (cap2 := 0) h hp
  refine ⟨he, ?_⟩
  simpa [List.take_take, List.drop_take] using this
theorem two_lenq {b0 q c p d n : Nat} {ys : List ByteArray} {w0 w : World} (h : Two2 b0 q c p d n [] ys w0 w) : Calls Try.prog 10 #[.pointer (some ⟨q, 0, none⟩)] w fun e w' => e = .returned (.int .i64 0) ∧ w' = w := by
  obtain ⟨s1, r1, hc⟩ := h.c
  exact lenS w q c n _ s1 r1 (cell_of_cells h.q) hc
theorem two_lenp {b0 q c p d n : Nat} {xs : List ByteArray} {w0 w : World} (h : Two2 b0 q c p d n xs [] w0 w) : Calls Try.prog 10 #[.pointer (some ⟨p, 0, none⟩)] w fun e w' => e = .returned (.int .i64 0) ∧ w' = w := by
  obtain ⟨s1, r1, hc⟩ := h.d
  exact lenS w p d n _ s1 r1 (cell_of_cells h.p) hc
def TookAll (b0 q c p d n : Nat) (xs ys : List ByteArray) (K : Nat) (w0 : World) (e : Ending) (w : World) : Prop :=
  ∃ A cap, e = .returned (.slice A K cap) ∧ K ≤ cap ∧ cap ≤ 9223372036854775807 ∧ (∀ i u, ys[i]? = some u → ∃ a, A = some a ∧ w.cell? (a.add i) = some (.string u)) ∧ Two2 b0 q c p d n xs [] w0 w
theorem two_allp {b0 q c p d n : Nat} {xs ys : List ByteArray} {w0 w : World} (h : Two2 b0 q c p d n xs ys w0 w) {K : Nat} (hK : ys.length = K) (hy : K ≤ 100000) : Calls Try.prog 11 #[.pointer (some ⟨p, 0, none⟩)] w (TookAll b0 q c p d n xs ys K w0) := by
  subst hK
  obtain ⟨s1, r1, hc⟩ := h.d
  refine (allS w p d n s1 r1 ys (cell_of_cells h.p) hc hy).mono ?_
  intro e w' hp
  have h2 := two_all (cap := 0) h hp
  obtain ⟨⟨v, he, ho⟩, _, _⟩ := hp
  rw [List.length_map] at ho
  have ho1 := ho
  rcases ho.2 with ⟨hv, h0⟩ | ⟨g, cap, cur, hv, hg, hh, hnc, hcm, _⟩
  · refine ⟨none, 0, by rw [he, hv, h0], by omega, by decide, (fun i u hi => by rw [List.getElem?_eq_none (by omega)] at hi; cases hi), h2⟩
  · refine ⟨some ⟨g, 0, none⟩, cap, by rw [he, hv], hnc, hcm, fun i u hi => ⟨_, rfl, ?_⟩, h2⟩
    exact ho1.cells (g := g) (by rw [hv]; rfl) i _ (by simp [hi])
def PushRel (b0 q c p d n : Nat) (l : List ByteArray) (w0 : World) (m : Nat) (v8 : Value) (w : World) : Prop :=
  ∃ i : Nat, v8 = .int .i64 (i : Int) ∧ i + m = l.length ∧ Two2 b0 q c p d n (l.take (min i n)) [] w0 w
def CmpRel (K : Nat) (w1 : World) (m : Nat) (v11 : Value) (w : World) : Prop := ∃ i : Nat, v11 = .int .i64 (i : Int) ∧ i + m = K ∧ ∃ dn, w = w1.drewN dn
def OrdPost (w0 : World) (e : Ending) (w : World) : Prop := e = .returned (.bool true) ∧ Below w0.heap.size w0 w
set_option maxRecDepth 100000 in
set_option maxHeartbeats 4000000 in
theorem queueOrder_calls (w : World) (A : Option Addr) (c0 : Nat) (l : List ByteArray) (hS : StrsAt w A c0 l) (room : Int) (hr : (Lit.int .u8 room).wf = true) :
    Calls Try.prog 3 #[.slice A l.length c0, .int .u8 room] w (OrdPost w) := by
  have hlc : l.length ≤ 9223372036854775807 := by have := hS.1; have := hS.2.1; omega
  have HS := Lib.hid hS
  have hrb : 0 ≤ room ∧ room ≤ 255 := by simp [Lit.wf, IntKind.min, IntKind.max, IntKind.signed, IntKind.bits] at hr; omega
  obtain ⟨n, hn⟩ : ∃ n : Nat, (n : Int) = 1 + room := ⟨(1 + room).toNat, by omega⟩
  have HN := Lib.hid (show 1 ≤ n ∧ n ≤ 256 by omega)
  clear hS hr
  by_cases h300 : l.length ≤ 300
  · have d300 : decide ((300 : Int) < (l.length : Int)) = false := decide_eq_false (by omega)
    have d300' : decide (300 < l.length) = false := decide_eq_false (by omega)
    have hw : wrap64 (1 + wrap64 room) = (n : Int) := by rw [IntWalk.wrap64_in room (by omega), ← hn]; exact IntWalk.wrap64_in _ (by omega)
    have HR := Lib.hid hrb
    have HNe := Lib.hid hn
    clear hrb hn
    go_enter Try.func3, Try.ntmps3
    go_wp2_with fail
    refine (alive_calls w).mono ?_
    rintro e w1 ⟨rfl, hb1⟩
    have HB1 := Lib.hid hb1
    clear hb1
    go_wp2_with fail
    simp only [hw]
    (with_reducible refine (newS n HN.out.1 (by have := HN.out.2; omega) w1).mono ?_)
    rintro e w2 ⟨rfl, hw2⟩
    have hz : w2.heap.size = w1.heap.size + 2 := by rw [hw2]; simp
    have HW2 := Lib.hid hw2
    clear hw hw2
    go_wp2_with fail
    (with_reducible refine (newS n HN.out.1 (by have := HN.out.2; omega) w2).mono ?_)
    rintro e w3 ⟨rfl, hw3⟩
    have H2 := Lib.hid (two_start HB1.out n w3 (by rw [hw3, hz, HW2.out]))
    rw [show w2.heap.size + 1 = w1.heap.size + 3 by omega]
    clear hz HW2
    generalize hb0 : w.heap.size = b0 at H2
    have hb0' := Lib.hid hb0
    generalize w1.heap.size + 3 = p at H2 ⊢
    generalize w1.heap.size + 2 = d at H2
    generalize w1.heap.size + 1 = q at H2 ⊢
    generalize w1.heap.size = c at H2
    clear hw3 HB1 hb0
    go_wp2_with fail
    go_loopg [8] l.length (fun m v8 wr => PushRel b0 q c p d n l w m v8 wr)
    case atStart => exact ⟨0, rfl, by omega, by simpa using H2.out⟩
    case round =>
      clear H2
      obtain ⟨i, rfl, hi, h2⟩ := hrel
      obtain ⟨n1, n2⟩ := HN.out
      by_cases hlt : i < l.length
      · have di : decide ((i : Int) < (l.length : Int)) = true := decide_eq_true (by omega)
        have di' : decide (i < l.length) = true := decide_eq_true hlt
        obtain ⟨a, rfl, hcell0⟩ := HS.out.at_ i hlt
        have hcell := pw_cell_below h2.bel hcell0
        obtain ⟨s1, r1, hc1⟩ := h2.c
        by_cases hin : i < n
        · have dn : decide ((i : Int) < (n : Int)) = true := decide_eq_true (by omega)
          have dn' : decide (i < n) = true := decide_eq_true hin
          have hs := Lib.hid (push_roomS wr q c n _ s1 r1 l[i] (cell_of_cells h2.q) hc1 (by simp; omega))
          have H3 := two_push h2 l[i] s1 r1 hc1
          rw [show l.take (min i n) ++ [l[i]] = l.take (min (i + 1) n) by
            rw [show min i n = i by omega, show min (i + 1) n = i + 1 by omega, List.take_succ_eq_append_getElem hlt]] at H3
          have H3 := Lib.hid H3
          generalize wr.setChan c n (((l.take (min i n)).map (Value.string)).toArray.push (Value.string l[i])) false (s1 + 1) r1 false = w5 at hs H3
          clear h2 hc1 hcell0
          go_wp2_with fail
          (with_reducible refine hs.out.mono ?_)
          rintro e w6 ⟨rfl, rfl⟩
          clear hs
          go_wp2_with fail
          go_roundg (gk - 1)
          case rel => exact ⟨i + 1, by go_num, by omega, H3.out⟩
          case measure => omega
        · have dn : decide ((i : Int) < (n : Int)) = false := decide_eq_false (by omega)
          have dn' : decide (i < n) = false := decide_eq_false hin
          have hs := Lib.hid (push_fullS wr q c n _ s1 r1 l[i] (cell_of_cells h2.q) hc1 (by simp; omega))
          rw [show min i n = min (i + 1) n by omega] at h2
          have H3 := Lib.hid h2
          clear h2 hc1 hcell0
          go_wp2_with fail
          (with_reducible refine hs.out.mono ?_)
          rintro e w6 ⟨rfl, rfl⟩
          clear hs
          go_wp2_with fail
          go_roundg (gk - 1)
          case rel => exact ⟨i + 1, by go_num, by omega, H3.out⟩
          case measure => omega
      · have di : decide ((i : Int) < (l.length : Int)) = false := decide_eq_false (by omega)
        have di' : decide (i < l.length) = false := decide_eq_false hlt
        obtain rfl : i = l.length := by omega
        rcases Nat.lt_or_ge l.length n with hmin | hmin
        · have dm : decide ((l.length : Int) < (n : Int)) = true := decide_eq_true (by omega)
          have dm2 : decide ((n : Int) < (l.length : Int)) = false := decide_eq_false (by omega)
          have dm3 : decide ((n : Int) ≤ (l.length : Int)) = false := decide_eq_false (by omega)
          obtain ⟨k, hk⟩ : ∃ k, l.length = k := ⟨_, rfl⟩
          rw [show min l.length n = k by omega] at h2
          have H2 := Lib.hid h2
          have HK := Lib.hid (show k ≤ n ∧ k ≤ l.length by omega)
          have HKK := Lib.hid hk
          clear h2 hlt hi hk
          go_wp2_with fail
          simp only [HKK.out]
          (with_reducible refine (move_sameS ⟨q, 0, none⟩ 5 wr).mono ?_)
          rintro e w4 ⟨rfl, rfl⟩
          go_wp2_with fail
          (with_reducible refine (two_move H2.out HK.out.1 (by omega) HK.out.2).mono ?_)
          rintro e w5 ⟨rfl, h5⟩
          have H5 := Lib.hid h5
          clear H2 h5
          go_wp2_with fail
          (with_reducible refine (two_lenq H5.out).mono ?_)
          rintro e w6 ⟨rfl, rfl⟩
          go_wp2_with fail
          have hkl : (l.take k).length = k := by rw [List.length_take]; have := HK.out.2; omega
          have hta := two_allp H5.out hkl (by have := HK.out.1; omega)
          have HTA := Lib.hid hta
          clear hta hkl
          (with_reducible refine HTA.out.mono ?_)
          rintro e w7 ⟨A7, cap7, rfl, hc7, hm7, hcells, h7⟩
          have H7 := Lib.hid h7
          have HC := Lib.hid hcells
          clear H5 HTA h7 hcells
          go_wp2_with fail
          (with_reducible refine (two_lenp H7.out).mono ?_)
          rintro e w8 ⟨rfl, rfl⟩
          go_wp2_with fail
          go_loopg [11] k (fun m v11 wr => CmpRel k w8 m v11 wr)
          case atStart => exact ⟨0, rfl, by omega, 0, rfl⟩
          case round =>
            obtain ⟨i, rfl, hi, dn, rfl⟩ := hrel
            by_cases hlt : i < k
            · have di : decide ((i : Int) < (k : Int)) = true := decide_eq_true (by omega)
              have di' : decide (i < k) = true := decide_eq_true hlt
              have hkk := HK.out.2
              obtain ⟨a7, rfl, hcell7⟩ := HC.out i (l[i]'(by omega)) (by rw [List.getElem?_take_of_lt hlt, List.getElem?_eq_getElem (by omega)])
              obtain ⟨a, rfl, hcell0⟩ := HS.out.at_ i (by omega)
              have hcell := pw_cell_below H7.out.bel hcell0
              clear hcell0
              generalize (l[i]'(by omega)) = x at hcell hcell7
              go_wp2_with fail
              go_quiet (fail)
              go_wp2_with fail
              go_roundg (gk - 1)
              case rel => exact ⟨i + 1, by go_num, by omega, _, rfl⟩
              case measure => omega
            · have di : decide ((i : Int) < (k : Int)) = false := decide_eq_false (by omega)
              have di' : decide (i < k) = false := decide_eq_false hlt
              clear hi
              go_wp2_with fail
              go_ret
              exact ⟨rfl, H7.out.bel.trans ⟨rfl, rfl, rfl, Nat.le_refl _, fun _ _ => rfl⟩⟩
        · have dm : decide ((l.length : Int) < (n : Int)) = false := decide_eq_false (by omega)
          have dm2 : ¬ (l.length : Int) < (n : Int) := by omega
          obtain ⟨k, hk⟩ : ∃ k, n = k := ⟨_, rfl⟩
          rw [show min l.length n = k by omega] at h2
          have H2 := Lib.hid h2
          have HK := Lib.hid (show k ≤ n ∧ k ≤ l.length by omega)
          have HKK := Lib.hid hk
          clear h2 hlt hi hk
          go_wp2_with fail
          simp only [HKK.out]
          (with_reducible refine (move_sameS ⟨q, 0, none⟩ 5 wr).mono ?_)
          rintro e w4 ⟨rfl, rfl⟩
          go_wp2_with fail
          (with_reducible refine (two_move H2.out HK.out.1 (by omega) HK.out.2).mono ?_)
          rintro e w5 ⟨rfl, h5⟩
          have H5 := Lib.hid h5
          clear H2 h5
          go_wp2_with fail
          (with_reducible refine (two_lenq H5.out).mono ?_)
          rintro e w6 ⟨rfl, rfl⟩
          go_wp2_with fail
          have hkl : (l.take k).length = k := by rw [List.length_take]; have := HK.out.2; omega
          have hta := two_allp H5.out hkl (by have := HK.out.1; omega)
          have HTA := Lib.hid hta
          clear hta hkl
          (with_reducible refine HTA.out.mono ?_)
          rintro e w7 ⟨A7, cap7, rfl, hc7, hm7, hcells, h7⟩
          have H7 := Lib.hid h7
          have HC := Lib.hid hcells
          clear H5 HTA h7 hcells
          go_wp2_with fail
          (with_reducible refine (two_lenp H7.out).mono ?_)
          rintro e w8 ⟨rfl, rfl⟩
          go_wp2_with fail
          go_loopg [11] k (fun m v11 wr => CmpRel k w8 m v11 wr)
          case atStart => exact ⟨0, rfl, by omega, 0, rfl⟩
          case round =>
            obtain ⟨i, rfl, hi, dn, rfl⟩ := hrel
            by_cases hlt : i < k
            · have di : decide ((i : Int) < (k : Int)) = true := decide_eq_true (by omega)
              have di' : decide (i < k) = true := decide_eq_true hlt
              have hkk := HK.out.2
              obtain ⟨a7, rfl, hcell7⟩ := HC.out i (l[i]'(by omega)) (by rw [List.getElem?_take_of_lt hlt, List.getElem?_eq_getElem (by omega)])
              obtain ⟨a, rfl, hcell0⟩ := HS.out.at_ i (by omega)
              have hcell := pw_cell_below H7.out.bel hcell0
              clear hcell0
              generalize (l[i]'(by omega)) = x at hcell hcell7
              go_wp2_with fail
              go_quiet (fail)
              go_wp2_with fail
              go_roundg (gk - 1)
              case rel => exact ⟨i + 1, by go_num, by omega, _, rfl⟩
              case measure => omega
            · have di : decide ((i : Int) < (k : Int)) = false := decide_eq_false (by omega)
              have di' : decide (i < k) = false := decide_eq_false hlt
              clear hi
              go_wp2_with fail
              go_ret
              exact ⟨rfl, H7.out.bel.trans ⟨rfl, rfl, rfl, Nat.le_refl _, fun _ _ => rfl⟩⟩
  · have d300 : decide ((300 : Int) < (l.length : Int)) = true := decide_eq_true (by omega)
    have d300' : decide (300 < l.length) = true := decide_eq_true (by omega)
    go_enter Try.func3, Try.ntmps3
    go_wp2_with fail
    refine (alive_calls w).mono ?_
    rintro e w1 ⟨rfl, hb1⟩
    have HB1 := Lib.hid hb1
    clear hb1
    go_wp2_with fail
    go_ret
    exact ⟨rfl, HB1.out⟩
end Go.Proofs.YtfoenpdfmhmkiaaLone
