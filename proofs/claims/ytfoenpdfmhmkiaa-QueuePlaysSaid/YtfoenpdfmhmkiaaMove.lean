/- Move, from one queue to another one. Written by wip/c12/mkm.py. -/
import Derived.Test.YtfoenpdfmhmkiaaAllR
import Derived.Deep.LoopGhost
import Derived.IntWalk
import Derived.LaidEqlPtr
set_option linter.unusedVariables false
set_option linter.unusedSimpArgs false
namespace Go.Proofs.YtfoenpdfmhmkiaaLone
open Go.Conc Go.RowKit
/-- Two channels alone have turned. -/
structure Two (c1 c2 : Nat) (w w' : World) : Prop where
  os : w'.os = w.os
  tape : w'.tape = w.tape
  output : w'.output = w.output
  size : w'.heap.size = w.heap.size
  other : ∀ k, k ≠ c1 → k ≠ c2 → w'.heap[k]? = w.heap[k]?
theorem Two.refl (c1 c2 : Nat) (w : World) : Two c1 c2 w w := ⟨rfl, rfl, rfl, rfl, fun _ _ _ => rfl⟩
theorem Two.trans {c1 c2 : Nat} {a b d : World} (h : Two c1 c2 a b) (k : Two c1 c2 b d) : Two c1 c2 a d := ⟨k.os.trans h.os, k.tape.trans h.tape, k.output.trans h.output, k.size.trans h.size, fun i h1 h2 => (k.other i h1 h2).trans (h.other i h1 h2)⟩
theorem Two.below {c1 c2 b : Nat} {w w' : World} (h : Two c1 c2 w w') (h1 : b ≤ c1) (h2 : b ≤ c2) : Below b w w' := ⟨h.os, h.tape, h.output, by rw [h.size]; exact Nat.le_refl _, fun k hk => h.other k (by omega) (by omega)⟩
theorem two_set1 (c1 c2 : Nat) (w : World) (cap : Nat) (buf : Array Value) (cl : Bool) (s r : Nat) (tm : Bool) : Two c1 c2 w (w.setChan c1 cap buf cl s r tm) := ⟨rfl, rfl, rfl, by simp [World.setChan], fun k h1 h2 => by simp only [World.setChan]; rw [Array.getElem?_setIfInBounds_ne (by omega)]⟩
theorem two_set2 (c1 c2 : Nat) (w : World) (cap : Nat) (buf : Array Value) (cl : Bool) (s r : Nat) (tm : Bool) : Two c1 c2 w (w.setChan c2 cap buf cl s r tm) := ⟨rfl, rfl, rfl, by simp [World.setChan], fun k h1 h2 => by simp only [World.setChan]; rw [Array.getElem?_setIfInBounds_ne (by omega)]⟩
theorem set_other (w : World) (c cap : Nat) (buf : Array Value) (cl : Bool) (s r : Nat) (tm : Bool) (k : Nat) (h : k ≠ c) : (w.setChan c cap buf cl s r tm).heap[k]? = w.heap[k]? := by simp only [World.setChan]; rw [Array.getElem?_setIfInBounds_ne (by omega)]
/-- How many are moved. -/
def mv (most : Int) (n room : Nat) : Nat := min most.toNat (min n room)

structure MoveAtS (W : World) (q1 c1 cap1 s1 r1 q2 c2 cap2 s2 r2 : Nat) (xs ys : List ByteArray) (k : Nat) (w : World) : Prop where
  q1 : w.cell? ⟨q1, 0, none⟩ = some (.chan (some c1))
  q2 : w.cell? ⟨q2, 0, none⟩ = some (.chan (some c2))
  h1 : w.heap[c1]? = some (.chan cap1 ((xs.drop k).map (Value.string)).toArray false s1 (r1 + k) false)
  h2 : w.heap[c2]? = some (.chan cap2 ((ys ++ xs.take k).map (Value.string)).toArray false (s2 + k) r2 false)
  two : Two c1 c2 W w
theorem move_stepS {W w : World} {q1 c1 cap1 s1 r1 q2 c2 cap2 s2 r2 k : Nat} {xs ys : List ByteArray} (hcc : c1 ≠ c2) (h : MoveAtS W q1 c1 cap1 s1 r1 q2 c2 cap2 s2 r2 xs ys k w) (hk : k < xs.length) :
    w.heap[c1]? = some (.chan cap1 ((Value.string (xs[k])) :: (xs.drop (k + 1)).map (Value.string)).toArray false s1 (r1 + k) false) ∧
    (w.setChan c1 cap1 ((xs.drop (k + 1)).map (Value.string)).toArray false s1 (r1 + k + 1) false).cell? ⟨q2, 0, none⟩ = some (.chan (some c2)) ∧
    (w.setChan c1 cap1 ((xs.drop (k + 1)).map (Value.string)).toArray false s1 (r1 + k + 1) false).heap[c2]? = some (.chan cap2 ((ys ++ xs.take k).map (Value.string)).toArray false (s2 + k) r2 false) ∧
    MoveAtS W q1 c1 cap1 s1 r1 q2 c2 cap2 s2 r2 xs ys (k + 1) ((w.setChan c1 cap1 ((xs.drop (k + 1)).map (Value.string)).toArray false s1 (r1 + k + 1) false).setChan c2 cap2 (((ys ++ xs.take k).map (Value.string)).toArray.push (Value.string (xs[k]))) false (s2 + k + 1) r2 false) := by
  obtain ⟨hq1, hq2, h1, h2, ht⟩ := h
  have n1 := cell_block_ne hq1 h1
  have n2 := cell_block_ne hq1 h2
  have n3 := cell_block_ne hq2 h1
  have n4 := cell_block_ne hq2 h2
  have e1 := List.drop_eq_getElem_cons hk
  have k1 : w.heap[c1]? = some (.chan cap1 ((Value.string (xs[k])) :: (xs.drop (k + 1)).map (Value.string)).toArray false s1 (r1 + k) false) := by rw [h1, e1]; rfl
  generalize hw1 : w.setChan c1 cap1 ((xs.drop (k + 1)).map (Value.string)).toArray false s1 (r1 + k + 1) false = w1
  have o1 : ∀ i, i ≠ c1 → w1.heap[i]? = w.heap[i]? := fun i hi => by rw [← hw1]; exact set_other _ _ _ _ _ _ _ _ i hi
  have l1 : c1 < w.heap.size := chan_lt h1
  have l2 : c2 < w.heap.size := chan_lt h2
  have g1 := heap_setChan w c1 cap1 ((xs.drop (k + 1)).map (Value.string)).toArray false s1 (r1 + k + 1) false l1
  rw [hw1] at g1
  have z1 : w1.heap.size = w.heap.size := by rw [← hw1]; simp [World.setChan]
  have t1 : Two c1 c2 w w1 := by rw [← hw1]; exact two_set1 _ _ _ _ _ _ _ _ _
  clear hw1
  have k2 : w1.cell? ⟨q2, 0, none⟩ = some (.chan (some c2)) := by rw [← hq2]; exact World.cell?_of_block (o1 q2 n3)
  have k3 : w1.heap[c2]? = some (.chan cap2 ((ys ++ xs.take k).map (Value.string)).toArray false (s2 + k) r2 false) := by rw [← h2]; exact o1 c2 (fun h => hcc h.symm)
  refine ⟨k1, k2, k3, ?_, ?_, ?_, ?_, ?_⟩
  · rw [← hq1]; exact World.cell?_of_block (by rw [set_other _ _ _ _ _ _ _ _ q1 n2]; exact o1 q1 n1)
  · rw [← k2]; exact World.cell?_of_block (by rw [set_other _ _ _ _ _ _ _ _ q2 n4])
  · rw [set_other _ _ _ _ _ _ _ _ c1 hcc, g1]; rfl
  · rw [heap_setChan w1 c2 _ _ _ _ _ _ (by omega)]
    rw [List.take_succ_eq_append_getElem hk]
    simp [Nat.add_assoc]
    rw [List.take_succ_eq_append_getElem (by simpa using hk)]
    simp
  · exact ht.trans (t1.trans (two_set2 _ _ _ _ _ _ _ _ _))
def MoveRelS (W : World) (q1 c1 cap1 s1 r1 q2 c2 cap2 s2 r2 : Nat) (xs ys : List ByteArray) (K n : Nat) (v7 : Value) (w : World) : Prop :=
  ∃ k : Nat, v7 = .int .i64 (k : Int) ∧ k + n = K ∧ MoveAtS W q1 c1 cap1 s1 r1 q2 c2 cap2 s2 r2 xs ys k w
def MovePostS (W : World) (q1 c1 cap1 s1 r1 q2 c2 cap2 s2 r2 : Nat) (xs ys : List ByteArray) (K : Nat) (e : Ending) (w : World) : Prop := e = .returned (.int .i64 (K : Int)) ∧ MoveAtS W q1 c1 cap1 s1 r1 q2 c2 cap2 s2 r2 xs ys K w
set_option maxRecDepth 100000 in
set_option maxHeartbeats 4000000 in
theorem moveS (most : Int) (w : World) (q1 c1 cap1 s1 r1 q2 c2 cap2 s2 r2 : Nat) (xs ys : List ByteArray) (hcc : c1 ≠ c2) (hqq : q1 ≠ q2) (hq1 : w.cell? ⟨q1, 0, none⟩ = some (.chan (some c1))) (hq2 : w.cell? ⟨q2, 0, none⟩ = some (.chan (some c2)))
    (h1 : w.heap[c1]? = some (.chan cap1 (xs.map (Value.string)).toArray false s1 r1 false)) (h2 : w.heap[c2]? = some (.chan cap2 (ys.map (Value.string)).toArray false s2 r2 false)) (hy : ys.length ≤ cap2) (hc : cap2 ≤ 4096) (o1 o2 : Array Value) (t1 t2 : TypeId) (hb1 : w.heap[q1]? = some (.cells o1 t1 (0, 0))) (hb2 : w.heap[q2]? = some (.cells o2 t2 (0, 0))) :
    Calls Try.prog 9 #[.pointer (some ⟨q1, 0, none⟩), .pointer (some ⟨q2, 0, none⟩), .int .i64 most] w (MovePostS w q1 c1 cap1 s1 r1 q2 c2 cap2 s2 r2 xs ys (mv most xs.length (cap2 - ys.length))) := by
  have H0 := Lib.hid (show MoveAtS w q1 c1 cap1 s1 r1 q2 c2 cap2 s2 r2 xs ys 0 w from ⟨hq1, hq2, by simpa using h1, by simpa using h2, Two.refl _ _ _⟩)
  have hmv := Lib.hid (show mv most xs.length (cap2 - ys.length) ≤ 4096 ∧ (mv most xs.length (cap2 - ys.length) : Int) ≤ max most 0 ∧ mv most xs.length (cap2 - ys.length) ≤ xs.length ∧ ys.length + mv most xs.length (cap2 - ys.length) ≤ cap2 ∧ ((mv most xs.length (cap2 - ys.length) : Int) < most → ys.length + mv most xs.length (cap2 - ys.length) < cap2 → xs.length = mv most xs.length (cap2 - ys.length)) by unfold mv; omega)
  generalize hM : mv most xs.length (cap2 - ys.length) = M at hmv ⊢
  have HCC := Lib.hid hcc
  have hinf : (Try.prog.info? 56).map (fun i => i.size) = some 1 := by kernel_rfl
  obtain ⟨i0, hi0, hi1⟩ := Option.map_eq_some_iff.1 hinf
  have hE : (binOp BinOp.eql 24 (.pointer (some ⟨q1, 0, none⟩)) (.pointer (some ⟨q2, 0, none⟩))).run Try.prog w = .ok (.bool false) w := run_eql_ptr_other w Try.underlying24 hi0 (by omega) (fun h => hqq (by injection h)) hb1 hb2
  clear hq1 hq2 h1 h2 hM hcc hb1 hb2 hi0 hi1 hinf hqq
  go_enter Try.func9, Try.ntmps9
  go_wp2_with fail
  go_loopg [7] M (fun n v7 wr => MoveRelS w q1 c1 cap1 s1 r1 q2 c2 cap2 s2 r2 xs ys M n v7 wr)
  case atStart => exact ⟨0, rfl, by omega, H0.out⟩
  case round =>
    clear H0
    obtain ⟨k, rfl, hk, hrel⟩ := hrel
    obtain ⟨m1, m2, m3, m4, m5⟩ := hmv.out
    have HX := Lib.hid (roomS wr q2 c2 cap2 _ (s2 + k) r2 hrel.q2 hrel.h2 (by simp; omega) hc)
    rw [show ((cap2 : Int) - ((((ys ++ xs.take k).map (Value.string)).toArray.size : Nat) : Int)) = (((cap2 - (ys.length + k) : Nat)) : Int) by simp; omega] at HX
    have HREL := Lib.hid hrel
    clear hrel
    by_cases hlt : k < M
    · have d1 : decide ((k : Int) < most) = true := decide_eq_true (by omega)
      have d1' : (k : Int) < most := by omega
      have hks : k < xs.length := by omega
      obtain ⟨a1, a2, a3, a4⟩ := move_stepS HCC.out HREL.out hks
      have HP := Lib.hid (pop_someS wr q1 c1 cap1 s1 (r1 + k) HREL.out.q1 (xs[k]) ((xs.drop (k + 1)).map (Value.string)) a1)
      generalize (wr.setChan c1 cap1 ((xs.drop (k + 1)).map (Value.string)).toArray false s1 (r1 + k + 1) false) = w1 at a2 a3 a4 HP
      have HU := Lib.hid (push_roomS w1 q2 c2 cap2 _ (s2 + k) r2 (xs[k]) a2 a3 (by simp; omega))
      have HA := Lib.hid a4
      clear a1 a2 a3 a4
      generalize xs[k] = x at HP HU HA
      generalize hd : cap2 - (ys.length + k) = d at HX
      have hd0 : decide (0 < (d : Int)) = true := decide_eq_true (by omega)
      have hd1 : 0 < d := by omega
      have hd2 : decide (0 < d) = true := decide_eq_true (by omega)
      have HD := Lib.hid hd
      clear hd
      go_wp2_with fail
      refine HX.out.mono ?_
      rintro e w' ⟨rfl, rfl⟩
      go_wp2_with fail
      refine HP.out.mono ?_
      rintro e w' ⟨rfl, rfl⟩
      go_wp2_with fail
      refine HU.out.mono ?_
      rintro e w2 ⟨rfl, rfl⟩
      generalize (w'.setChan c2 cap2 (((ys ++ xs.take k).map (Value.string)).toArray.push (Value.string x)) false (s2 + k + 1) r2 false) = w2 at HA ⊢
      go_wp2_with fail
      go_roundg (gk - 1)
      case rel => exact ⟨k + 1, by go_num, by omega, HA.out⟩
      case measure => omega
    · obtain rfl : k = M := by omega
      by_cases hm : (k : Int) < most
      · have d1 : decide ((k : Int) < most) = true := decide_eq_true hm
        by_cases hr : ys.length + k < cap2
        · have hx := m5 hm hr
          have h1 := HREL.out.h1
          rw [List.drop_of_length_le (by omega)] at h1
          have HP := Lib.hid (pop_noneS wr q1 c1 cap1 s1 (r1 + k) HREL.out.q1 h1)
          clear h1 m5 hx
          generalize hd : cap2 - (ys.length + k) = d at HX
          have hd0 : decide (0 < (d : Int)) = true := decide_eq_true (by omega)
          have hd1 : 0 < d := by omega
          have hd2 : decide (0 < d) = true := decide_eq_true (by omega)
          clear hd hk
          go_wp2_with fail
          refine HX.out.mono ?_
          rintro e w' ⟨rfl, rfl⟩
          go_wp2_with fail
          refine HP.out.mono ?_
          rintro e w' ⟨rfl, rfl⟩
          go_wp2_with fail
          go_ret
          exact ⟨rfl, HREL.out⟩
        · rw [show cap2 - (ys.length + k) = 0 by omega] at HX
          clear hk m5
          go_wp2_with fail
          refine HX.out.mono ?_
          rintro e w' ⟨rfl, rfl⟩
          go_wp2_with fail
          go_ret
          exact ⟨rfl, HREL.out⟩
      · have d1 : decide ((k : Int) < most) = false := decide_eq_false hm
        clear hk m5
        go_wp2_with fail
        go_ret
        exact ⟨rfl, HREL.out⟩
set_option maxRecDepth 100000 in
theorem move_sameS (q : Addr) (m : Int) (w : World) : Calls Try.prog 9 #[.pointer (some q), .pointer (some q), .int .i64 m] w fun e w' => e = .returned (.int .i64 0) ∧ w' = w := by
  have hinf : (Try.prog.info? 56).map (fun i => i.size) = some 1 := by kernel_rfl
  obtain ⟨i0, hi0, hi1⟩ := Option.map_eq_some_iff.1 hinf
  have hE : (binOp BinOp.eql 24 (.pointer (some q)) (.pointer (some q))).run Try.prog w = .ok (.bool true) w := run_eql_ptr_same w q Try.underlying24 hi0
  clear hi0 hi1 hinf
  go_enter Try.func9, Try.ntmps9
  go_wp2_with fail
  go_ret
  exact ⟨rfl, rfl⟩

structure MoveAtI (W : World) (q1 c1 cap1 s1 r1 q2 c2 cap2 s2 r2 : Nat) (xs ys : List Int) (k : Nat) (w : World) : Prop where
  q1 : w.cell? ⟨q1, 0, none⟩ = some (.chan (some c1))
  q2 : w.cell? ⟨q2, 0, none⟩ = some (.chan (some c2))
  h1 : w.heap[c1]? = some (.chan cap1 ((xs.drop k).map (Value.int .i64)).toArray false s1 (r1 + k) false)
  h2 : w.heap[c2]? = some (.chan cap2 ((ys ++ xs.take k).map (Value.int .i64)).toArray false (s2 + k) r2 false)
  two : Two c1 c2 W w
theorem move_stepI {W w : World} {q1 c1 cap1 s1 r1 q2 c2 cap2 s2 r2 k : Nat} {xs ys : List Int} (hcc : c1 ≠ c2) (h : MoveAtI W q1 c1 cap1 s1 r1 q2 c2 cap2 s2 r2 xs ys k w) (hk : k < xs.length) :
    w.heap[c1]? = some (.chan cap1 ((Value.int .i64 (xs[k])) :: (xs.drop (k + 1)).map (Value.int .i64)).toArray false s1 (r1 + k) false) ∧
    (w.setChan c1 cap1 ((xs.drop (k + 1)).map (Value.int .i64)).toArray false s1 (r1 + k + 1) false).cell? ⟨q2, 0, none⟩ = some (.chan (some c2)) ∧
    (w.setChan c1 cap1 ((xs.drop (k + 1)).map (Value.int .i64)).toArray false s1 (r1 + k + 1) false).heap[c2]? = some (.chan cap2 ((ys ++ xs.take k).map (Value.int .i64)).toArray false (s2 + k) r2 false) ∧
    MoveAtI W q1 c1 cap1 s1 r1 q2 c2 cap2 s2 r2 xs ys (k + 1) ((w.setChan c1 cap1 ((xs.drop (k + 1)).map (Value.int .i64)).toArray false s1 (r1 + k + 1) false).setChan c2 cap2 (((ys ++ xs.take k).map (Value.int .i64)).toArray.push (Value.int .i64 (xs[k]))) false (s2 + k + 1) r2 false) := by
  obtain ⟨hq1, hq2, h1, h2, ht⟩ := h
  have n1 := cell_block_ne hq1 h1
  have n2 := cell_block_ne hq1 h2
  have n3 := cell_block_ne hq2 h1
  have n4 := cell_block_ne hq2 h2
  have e1 := List.drop_eq_getElem_cons hk
  have k1 : w.heap[c1]? = some (.chan cap1 ((Value.int .i64 (xs[k])) :: (xs.drop (k + 1)).map (Value.int .i64)).toArray false s1 (r1 + k) false) := by rw [h1, e1]; rfl
  generalize hw1 : w.setChan c1 cap1 ((xs.drop (k + 1)).map (Value.int .i64)).toArray false s1 (r1 + k + 1) false = w1
  have o1 : ∀ i, i ≠ c1 → w1.heap[i]? = w.heap[i]? := fun i hi => by rw [← hw1]; exact set_other _ _ _ _ _ _ _ _ i hi
  have l1 : c1 < w.heap.size := chan_lt h1
  have l2 : c2 < w.heap.size := chan_lt h2
  have g1 := heap_setChan w c1 cap1 ((xs.drop (k + 1)).map (Value.int .i64)).toArray false s1 (r1 + k + 1) false l1
  rw [hw1] at g1
  have z1 : w1.heap.size = w.heap.size := by rw [← hw1]; simp [World.setChan]
  have t1 : Two c1 c2 w w1 := by rw [← hw1]; exact two_set1 _ _ _ _ _ _ _ _ _
  clear hw1
  have k2 : w1.cell? ⟨q2, 0, none⟩ = some (.chan (some c2)) := by rw [← hq2]; exact World.cell?_of_block (o1 q2 n3)
  have k3 : w1.heap[c2]? = some (.chan cap2 ((ys ++ xs.take k).map (Value.int .i64)).toArray false (s2 + k) r2 false) := by rw [← h2]; exact o1 c2 (fun h => hcc h.symm)
  refine ⟨k1, k2, k3, ?_, ?_, ?_, ?_, ?_⟩
  · rw [← hq1]; exact World.cell?_of_block (by rw [set_other _ _ _ _ _ _ _ _ q1 n2]; exact o1 q1 n1)
  · rw [← k2]; exact World.cell?_of_block (by rw [set_other _ _ _ _ _ _ _ _ q2 n4])
  · rw [set_other _ _ _ _ _ _ _ _ c1 hcc, g1]; rfl
  · rw [heap_setChan w1 c2 _ _ _ _ _ _ (by omega)]
    rw [List.take_succ_eq_append_getElem hk]
    simp [Nat.add_assoc]
    rw [List.take_succ_eq_append_getElem (by simpa using hk)]
    simp
  · exact ht.trans (t1.trans (two_set2 _ _ _ _ _ _ _ _ _))
def MoveRelI (W : World) (q1 c1 cap1 s1 r1 q2 c2 cap2 s2 r2 : Nat) (xs ys : List Int) (K n : Nat) (v7 : Value) (w : World) : Prop :=
  ∃ k : Nat, v7 = .int .i64 (k : Int) ∧ k + n = K ∧ MoveAtI W q1 c1 cap1 s1 r1 q2 c2 cap2 s2 r2 xs ys k w
def MovePostI (W : World) (q1 c1 cap1 s1 r1 q2 c2 cap2 s2 r2 : Nat) (xs ys : List Int) (K : Nat) (e : Ending) (w : World) : Prop := e = .returned (.int .i64 (K : Int)) ∧ MoveAtI W q1 c1 cap1 s1 r1 q2 c2 cap2 s2 r2 xs ys K w
set_option maxRecDepth 100000 in
set_option maxHeartbeats 4000000 in
theorem moveI (most : Int) (w : World) (q1 c1 cap1 s1 r1 q2 c2 cap2 s2 r2 : Nat) (xs ys : List Int) (hcc : c1 ≠ c2) (hqq : q1 ≠ q2) (hq1 : w.cell? ⟨q1, 0, none⟩ = some (.chan (some c1))) (hq2 : w.cell? ⟨q2, 0, none⟩ = some (.chan (some c2)))
    (h1 : w.heap[c1]? = some (.chan cap1 (xs.map (Value.int .i64)).toArray false s1 r1 false)) (h2 : w.heap[c2]? = some (.chan cap2 (ys.map (Value.int .i64)).toArray false s2 r2 false)) (hy : ys.length ≤ cap2) (hc : cap2 ≤ 4096) (o1 o2 : Array Value) (t1 t2 : TypeId) (hb1 : w.heap[q1]? = some (.cells o1 t1 (0, 0))) (hb2 : w.heap[q2]? = some (.cells o2 t2 (0, 0))) :
    Calls Try.prog 20 #[.pointer (some ⟨q1, 0, none⟩), .pointer (some ⟨q2, 0, none⟩), .int .i64 most] w (MovePostI w q1 c1 cap1 s1 r1 q2 c2 cap2 s2 r2 xs ys (mv most xs.length (cap2 - ys.length))) := by
  have H0 := Lib.hid (show MoveAtI w q1 c1 cap1 s1 r1 q2 c2 cap2 s2 r2 xs ys 0 w from ⟨hq1, hq2, by simpa using h1, by simpa using h2, Two.refl _ _ _⟩)
  have hmv := Lib.hid (show mv most xs.length (cap2 - ys.length) ≤ 4096 ∧ (mv most xs.length (cap2 - ys.length) : Int) ≤ max most 0 ∧ mv most xs.length (cap2 - ys.length) ≤ xs.length ∧ ys.length + mv most xs.length (cap2 - ys.length) ≤ cap2 ∧ ((mv most xs.length (cap2 - ys.length) : Int) < most → ys.length + mv most xs.length (cap2 - ys.length) < cap2 → xs.length = mv most xs.length (cap2 - ys.length)) by unfold mv; omega)
  generalize hM : mv most xs.length (cap2 - ys.length) = M at hmv ⊢
  have HCC := Lib.hid hcc
  have hinf : (Try.prog.info? 62).map (fun i => i.size) = some 1 := by kernel_rfl
  obtain ⟨i0, hi0, hi1⟩ := Option.map_eq_some_iff.1 hinf
  have hE : (binOp BinOp.eql 32 (.pointer (some ⟨q1, 0, none⟩)) (.pointer (some ⟨q2, 0, none⟩))).run Try.prog w = .ok (.bool false) w := run_eql_ptr_other w Try.underlying32 hi0 (by omega) (fun h => hqq (by injection h)) hb1 hb2
  clear hq1 hq2 h1 h2 hM hcc hb1 hb2 hi0 hi1 hinf hqq
  go_enter Try.func20, Try.ntmps20
  go_wp2_with fail
  go_loopg [7] M (fun n v7 wr => MoveRelI w q1 c1 cap1 s1 r1 q2 c2 cap2 s2 r2 xs ys M n v7 wr)
  case atStart => exact ⟨0, rfl, by omega, H0.out⟩
  case round =>
    clear H0
    obtain ⟨k, rfl, hk, hrel⟩ := hrel
    obtain ⟨m1, m2, m3, m4, m5⟩ := hmv.out
    have HX := Lib.hid (roomJ wr q2 c2 cap2 _ (s2 + k) r2 hrel.q2 hrel.h2 (by simp; omega) hc)
    rw [show ((cap2 : Int) - ((((ys ++ xs.take k).map (Value.int .i64)).toArray.size : Nat) : Int)) = (((cap2 - (ys.length + k) : Nat)) : Int) by simp; omega] at HX
    have HREL := Lib.hid hrel
    clear hrel
    by_cases hlt : k < M
    · have d1 : decide ((k : Int) < most) = true := decide_eq_true (by omega)
      have d1' : (k : Int) < most := by omega
      have hks : k < xs.length := by omega
      obtain ⟨a1, a2, a3, a4⟩ := move_stepI HCC.out HREL.out hks
      have HP := Lib.hid (pop_someI wr q1 c1 cap1 s1 (r1 + k) HREL.out.q1 (xs[k]) ((xs.drop (k + 1)).map (Value.int .i64)) a1)
      generalize (wr.setChan c1 cap1 ((xs.drop (k + 1)).map (Value.int .i64)).toArray false s1 (r1 + k + 1) false) = w1 at a2 a3 a4 HP
      have HU := Lib.hid (push_roomI w1 q2 c2 cap2 _ (s2 + k) r2 (xs[k]) a2 a3 (by simp; omega))
      have HA := Lib.hid a4
      clear a1 a2 a3 a4
      generalize xs[k] = x at HP HU HA
      generalize hd : cap2 - (ys.length + k) = d at HX
      have hd0 : decide (0 < (d : Int)) = true := decide_eq_true (by omega)
      have hd1 : 0 < d := by omega
      have hd2 : decide (0 < d) = true := decide_eq_true (by omega)
      have HD := Lib.hid hd
      clear hd
      go_wp2_with fail
      refine HX.out.mono ?_
      rintro e w' ⟨rfl, rfl⟩
      go_wp2_with fail
      refine HP.out.mono ?_
      rintro e w' ⟨rfl, rfl⟩
      go_wp2_with fail
      refine HU.out.mono ?_
      rintro e w2 ⟨rfl, rfl⟩
      generalize (w'.setChan c2 cap2 (((ys ++ xs.take k).map (Value.int .i64)).toArray.push (Value.int .i64 x)) false (s2 + k + 1) r2 false) = w2 at HA ⊢
      go_wp2_with fail
      go_roundg (gk - 1)
      case rel => exact ⟨k + 1, by go_num, by omega, HA.out⟩
      case measure => omega
    · obtain rfl : k = M := by omega
      by_cases hm : (k : Int) < most
      · have d1 : decide ((k : Int) < most) = true := decide_eq_true hm
        by_cases hr : ys.length + k < cap2
        · have hx := m5 hm hr
          have h1 := HREL.out.h1
          rw [List.drop_of_length_le (by omega)] at h1
          have HP := Lib.hid (pop_noneI wr q1 c1 cap1 s1 (r1 + k) HREL.out.q1 h1)
          clear h1 m5 hx
          generalize hd : cap2 - (ys.length + k) = d at HX
          have hd0 : decide (0 < (d : Int)) = true := decide_eq_true (by omega)
          have hd1 : 0 < d := by omega
          have hd2 : decide (0 < d) = true := decide_eq_true (by omega)
          clear hd hk
          go_wp2_with fail
          refine HX.out.mono ?_
          rintro e w' ⟨rfl, rfl⟩
          go_wp2_with fail
          refine HP.out.mono ?_
          rintro e w' ⟨rfl, rfl⟩
          go_wp2_with fail
          go_ret
          exact ⟨rfl, HREL.out⟩
        · rw [show cap2 - (ys.length + k) = 0 by omega] at HX
          clear hk m5
          go_wp2_with fail
          refine HX.out.mono ?_
          rintro e w' ⟨rfl, rfl⟩
          go_wp2_with fail
          go_ret
          exact ⟨rfl, HREL.out⟩
      · have d1 : decide ((k : Int) < most) = false := decide_eq_false hm
        clear hk m5
        go_wp2_with fail
        go_ret
        exact ⟨rfl, HREL.out⟩
set_option maxRecDepth 100000 in
theorem move_sameI (q : Addr) (m : Int) (w : World) : Calls Try.prog 20 #[.pointer (some q), .pointer (some q), .int .i64 m] w fun e w' => e = .returned (.int .i64 0) ∧ w' = w := by
  have hinf : (Try.prog.info? 62).map (fun i => i.size) = some 1 := by kernel_rfl
  obtain ⟨i0, hi0, hi1⟩ := Option.map_eq_some_iff.1 hinf
  have hE : (binOp BinOp.eql 32 (.pointer (some q)) (.pointer (some q))).run Try.prog w = .ok (.bool true) w := run_eql_ptr_same w q Try.underlying32 hi0
  clear hi0 hi1 hinf
  go_enter Try.func20, Try.ntmps20
  go_wp2_with fail
  go_ret
  exact ⟨rfl, rfl⟩
end Go.Proofs.YtfoenpdfmhmkiaaLone
