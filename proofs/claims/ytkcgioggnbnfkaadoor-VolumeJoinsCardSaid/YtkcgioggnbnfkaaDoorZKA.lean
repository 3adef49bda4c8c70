/- Laws over any program on blocks that move. -/
import Derived.Test.YtkcgioggnbnfkaaDoorZWWords
import Derived.Test.YtkcgioggnbnfkaaDoorZWLast
import Derived.Test.YtkcgioggnbnfkaaDoorZWMore
import Derived.Test.YtkcgioggnbnfkaaDoorZHKit
import Derived.IntWalk
import Derived.Lib.Hide
import Derived.Laws.CopyOwn
import Derived.Deep.RegionLaw
import Derived.Lib.AppendZerosOnto
import Derived.Maps.AppendAt
import Derived.Laws.CopyRow
set_option linter.unusedVariables false
set_option linter.unusedSimpArgs false
namespace Go.Proofs.YtkcgioggnbnfkaaDoorW.Mv
open Go.RowKit Go.Proofs.YtkcgioggnbnfkaaDoorW.PrintWords Go.Proofs.YtkcgioggnbnfkaaDoorW.PrintLast Go.Proofs.YtkcgioggnbnfkaaDoorW.PrintMore Go.Proofs.YtkcgioggnbnfkaaDoorW.HKit

theorem w64 {x : Int} (h0 : -9223372036854775808 ≤ x) (h1 : x ≤ 9223372036854775807) : wrap64 x = x := IntWalk.wrap64_in _ ⟨h0, h1⟩
theorem wadd1 (j : Nat) (h : j ≤ 4000000) : wrap64 ((j : Int) + 1) = ((j + 1 : Nat) : Int) := by rw [w64 (by omega) (by omega)]; omega
/-- A row stands where its block stands. -/
theorem own_stays {w w' : World} {B e n s : Nat} {v : Value} {xs : List Value} (h : w.ownsRow B e s v n xs) (hb : ∀ q, v.ownBlock = some q → w'.heap[q]? = w.heap[q]?) : w'.ownsRow B e s v n xs := by
  obtain ⟨h1, h2⟩ := h
  refine ⟨h1, ?_⟩
  rcases h2 with h2 | ⟨g, cap, cur, rfl, hg, hh, r⟩
  · exact .inl h2
  · exact .inr ⟨g, cap, cur, rfl, hg, (hb g rfl).trans hh, r⟩
/-- What a call on a thing that lies in the blocks of F has turned: its own blocks, and new ones; behind it the thing lies in those of F'. -/
def Moved (w w' : World) (F F' : Nat → Prop) : Prop := w.heap.size ≤ w'.heap.size ∧ (∀ i, i < w.heap.size → ¬ F i → w'.heap[i]? = w.heap[i]?) ∧ ∀ q, F' q → F q ∨ w.heap.size ≤ q
theorem Moved.trans {w w1 w2 : World} {F F1 F2 : Nat → Prop} (h : Moved w w1 F F1) (k : Moved w1 w2 F1 F2) : Moved w w2 F F2 := by
  obtain ⟨a1, a2, a3⟩ := h
  obtain ⟨b1, b2, b3⟩ := k
  refine ⟨Nat.le_trans a1 b1, fun i hi hn => (b2 i (Nat.lt_of_lt_of_le hi a1) fun hf => ?_).trans (a2 i hi hn), fun q hq => ?_⟩
  · rcases a3 i hf with h | h
    · exact hn h
    · omega
  · rcases b3 q hq with h | h
    · exact a3 q h
    · exact .inr (Nat.le_trans a1 h)
theorem own_C {w : World} {B e n : Nat} {kd : IntKind} {v : Value} {xs : List Int} (h : w.ownsRow B e 1 v n (nums kd xs)) (hn : n = xs.length) : ∃ A c, v = .slice A n c ∧ n ≤ c ∧ Kd.C (Kd.int kd) w A n xs ∧ (∀ q, v.ownBlock = some q → B ≤ q ∧ q < w.heap.size) ∧ (A = none → n = 0 ∧ c = 0) ∧ ∀ W : World, (∀ q, v.ownBlock = some q → W.heap[q]? = w.heap[q]?) → Kd.C (Kd.int kd) W A n xs := by
  subst hn
  have key : ∀ W : World, (∀ q, v.ownBlock = some q → W.heap[q]? = w.heap[q]?) → W.ownsRow B e 1 v xs.length (nums kd xs) := fun W hW => own_stays h hW
  have toC : ∀ W : World, ∀ A c, v = .slice A xs.length c → W.ownsRow B e 1 v xs.length (nums kd xs) → Kd.C (Kd.int kd) W A xs.length xs := by
    intro W A c hv ho
    obtain ⟨A', c', hv', hr⟩ := own_reads ho
    rw [hv] at hv'
    injection hv' with e1 e2 e3
    subst e1
    exact Kd.C_of_reads (enc := Value.int kd) (d := (0 : Int)) (h1 := fun _ => rfl) hr
  obtain ⟨A, c, hv, hr⟩ := own_reads h
  refine ⟨A, c, hv, ?_, toC w A c hv h, ?_, ?_, fun W hW => toC W A c hv (key W hW)⟩
  · rcases h.2 with ⟨e1, e2⟩ | ⟨g, cap, cur, e1, _, _, hnc, _⟩
    · omega
    · rw [hv] at e1
      injection e1 with _ _ e3
      omega
  · intro q hq
    exact ⟨own_base h q hq, own_lt h q hq⟩
  · intro hA
    subst hA
    rcases h.2 with ⟨e1, e2⟩ | ⟨g, cap, cur, e1, _⟩
    · rw [hv] at e1
      injection e1 with _ e3 e4
      exact ⟨e3, e4⟩
    · rw [hv] at e1
      injection e1 with e5
      cases e5
theorem C_none (k : IntKind) (w : World) : Kd.C (Kd.int k) w none 0 [] := Kd.C_of_reads (enc := Value.int k) (d := (0 : Int)) (h1 := fun _ => rfl) ⟨rfl, by decide, fun h => absurd h (by decide)⟩
theorem C_firsts {k : IntKind} {w : World} {A : Option Addr} {n m : Nat} {xs : List Int} (h : Kd.C (Kd.int k) w A n xs) (hm : m ≤ n) : Kd.C (Kd.int k) w A m (xs.take m) := by
  have hl := C_len h
  have := Kd.C_take (m := m) (by rw [hl]; exact h) (by omega)
  rwa [List.length_take, Nat.min_eq_left (by omega)] at this

end Go.Proofs.YtkcgioggnbnfkaaDoorW.Mv
/- All but some blocks is as it was. -/
set_option linter.unusedVariables false
set_option linter.unusedSimpArgs false
namespace Go.Proofs.YtkcgioggnbnfkaaDoorW.But
open Go.RowKit Go.Proofs.YtkcgioggnbnfkaaDoorW.PrintWords Go.Proofs.YtkcgioggnbnfkaaDoorW.PrintLast Go.Proofs.YtkcgioggnbnfkaaDoorW.PrintMore Go.Proofs.YtkcgioggnbnfkaaDoorW.HKit Go.Proofs.YtkcgioggnbnfkaaDoorW.Mv

/-- All but the blocks of F is as it was (new blocks aside). -/
structure But (F : Nat → Prop) (w w' : World) : Prop where
  os : w'.os = w.os
  tape : w'.tape = w.tape
  output : w'.output = w.output
  size : w.heap.size ≤ w'.heap.size
  block : ∀ k, k < w.heap.size → ¬ F k → w'.heap[k]? = w.heap[k]?
theorem But.trans {F : Nat → Prop} {a b c : World} (h : But F a b) (k : But F b c) : But F a c :=
  ⟨k.os.trans h.os, k.tape.trans h.tape, k.output.trans h.output, Nat.le_trans h.size k.size, fun i hi hn => (k.block i (Nat.lt_of_lt_of_le hi h.size) hn).trans (h.block i hi hn)⟩
theorem But.mono {F G : Nat → Prop} {a b : World} (h : But F a b) (hG : ∀ k, F k → G k) : But G a b := ⟨h.os, h.tape, h.output, h.size, fun i hi hn => h.block i hi fun hf => hn (hG i hf)⟩
theorem But.of_below {w w' : World} (F : Nat → Prop) (h : Below w.heap.size w w') : But F w w' := ⟨h.os, h.tape, h.output, h.size, fun i hi _ => h.block i hi⟩
theorem But.setCell {F : Nat → Prop} (w : World) (a : Addr) (u : Value) (ha : F a.block) : But F w (w.setCell a u) :=
  ⟨rfl, rfl, rfl, by simp [World.setCell], fun k _ hn => Below.heap_setCell w a u k fun h => hn (by rw [h]; exact ha)⟩
theorem But.setRow {F : Nat → Prop} (w : World) (g : Nat) (cs : Array Value) (ha : F g) : But F w (w.setRow g cs) :=
  ⟨rfl, rfl, rfl, by simp [World.setRow], fun k _ hn => by
    have : k ≠ g := fun h => hn (by rw [h]; exact ha)
    simp [World.setRow, Array.getElem?_modify, Ne.symm this]⟩
theorem But.cell {F : Nat → Prop} {w w' : World} (h : But F w w') {a : Addr} {v : Value} (hc : w.cell? a = some v) (hn : ¬ F a.block) : w'.cell? a = some v :=
  (World.cell?_of_block (h.block a.block (World.block_lt_of_cell? w a hc) hn)).trans hc
theorem But.heap {F : Nat → Prop} {w w' : World} (h : But F w w') {k : Nat} {o : Obj} (hk : w.heap[k]? = some o) (hn : ¬ F k) : w'.heap[k]? = some o := by
  have hl : k < w.heap.size := by
    by_cases hl : k < w.heap.size
    · exact hl
    · rw [Array.getElem?_eq_none (by omega)] at hk; cases hk
  rw [h.block k hl hn, hk]
theorem But.own {F : Nat → Prop} {w w' : World} (h : But F w w') {B e s n : Nat} {v : Value} {xs : List Value} (ho : w.ownsRow B e s v n xs) (hn : ∀ q, v.ownBlock = some q → ¬ F q) : w'.ownsRow B e s v n xs :=
  own_stays ho fun q hq => h.block q (own_lt ho q hq) (hn q hq)
end Go.Proofs.YtkcgioggnbnfkaaDoorW.But
/- Appends of bytes and of noughts to a row of the call's own: laws over any program. -/
set_option linter.unusedVariables false
set_option linter.unusedSimpArgs false
namespace Go.Proofs.YtkcgioggnbnfkaaDoorW.App
open Go.RowKit Go.Proofs.YtkcgioggnbnfkaaDoorW.PrintWords Go.Proofs.YtkcgioggnbnfkaaDoorW.PrintLast Go.Proofs.YtkcgioggnbnfkaaDoorW.PrintMore Go.Proofs.YtkcgioggnbnfkaaDoorW.HKit Go.Proofs.YtkcgioggnbnfkaaDoorW.Mv Go.Proofs.YtkcgioggnbnfkaaDoorW.But

section
variable {P : Program}
theorem C_none_len {k : IntKind} {w : World} {n : Nat} {ys : List Int} (h : Kd.C (Kd.int k) w none n ys) : n = 0 := by
  rcases Nat.eq_zero_or_pos n with h0 | h0
  · exact h0
  · obtain ⟨ad, he, _⟩ := Kd.at_int h 0 (by omega) (by omega)
    cases he
theorem grown_refl (w : World) (row : Option Nat) : w.grownBy w row := ⟨rfl, rfl, rfl, Nat.le_refl _, fun _ _ _ => rfl⟩
/-- append of bytes that are read (of none, and nil, too) to a row of the call's own. -/
theorem run_append_reads (w : World) (base t ty e : TypeId) (ht : P.underlying t = some (.slice e)) (hinfo : (P.info? e).map (fun i => (i.zero, i.size, i.bytes)) = some (some (.int .u8 0), 1, 1))
    (v : Value) (xs ys : List Int) (hown : w.ownsRow base e 1 v xs.length (nums .u8 xs)) (A : Option Addr) (n c : Nat) (hr : Kd.C (Kd.int .u8) w A n ys) (hlen : xs.length + n ≤ 140737488355328) (hbase : base ≤ w.heap.size) :
    ∃ v' w', (Builtin.append_ #[t, t] ty #[v, .slice A n c]).run P w = .ok v' w' ∧ w'.ownsRow base e 1 v' (xs ++ ys).length (nums .u8 (xs ++ ys)) ∧ w.grownBy w' v.ownBlock ∧ (v'.ownBlock = v.ownBlock ∨ v'.ownBlock = some w.heap.size) := by
  obtain ⟨i0, hi, hz0, hz1, hz2⟩ := info_parts hinfo
  have hl := C_len hr
  rcases A with _ | ad
  · obtain rfl := C_none_len hr
    obtain rfl : ys = [] := List.eq_nil_of_length_eq_zero hl
    rw [List.append_nil]
    refine ⟨v, w, ?_, hown, grown_refl _ _, .inl rfl⟩
    rcases hown.2 with ⟨rfl, h0⟩ | ⟨g, cap, cur, rfl, _, hg, hnc, _⟩
    · simp [Builtin.append_, run_underlying ht, sizeOf, typeInfo, hi, Builtin.lenOf, Builtin.firstCells]
    · simp [Builtin.append_, run_underlying ht, sizeOf, typeInfo, hi, Builtin.lenOf, Builtin.firstCells, hnc, storeCells]
  · have hcs : ∀ (j : Nat) u, (nums .u8 ys)[j]? = some u → w.cell? (ad.add j) = some u := by
      intro j u hj
      have hj1 : j < n := by
        rcases Nat.lt_or_ge j n with h | h
        · exact h
        · rw [List.getElem?_eq_none (by simpa [nums, hl] using h)] at hj; cases hj
      obtain ⟨ad', he, hc⟩ := Kd.at_int hr (j : Int) (by omega) (by omega)
      cases he
      rw [Int.toNat_natCast] at hc
      rw [hc]
      have : (nums .u8 ys)[j]? = some (.int .u8 (rd ys (j : Int))) := by simp [nums, rd, List.getD, hl, hj1]
      rw [this] at hj
      exact hj
    obtain ⟨v', w', h1, h2, h3, _, h5⟩ := run_append_own_at (P := P) w base t ty e i0 (.int .u8 0) 1 1 ht hi hz0 hz1 hz2 rfl (by decide) v xs.length (nums .u8 xs) hown ad n c (nums .u8 ys) (by simp [nums, hl]) hcs
      (by intro u hu; simp only [nums, List.mem_map] at hu; obtain ⟨q, _, rfl⟩ := hu; rfl) (by simp only [maxLen]; omega) (by omega) hbase
    refine ⟨v', w', h1, ?_, h3, h5⟩
    rw [nums_append, List.length_append, hl]
    exact h2
theorem zeroCells_one (k : Nat) : Builtin.zeroCells #[Value.int .u8 0] k = (nums .u8 (List.replicate k 0)).toArray := by
  apply Array.ext
  · simp [Builtin.zeroCells, nums]
  · intro i h1 h2
    simp [Builtin.zeroCells, nums, Nat.mod_one]
/-- append of so many noughts to a row of the call's own. -/
theorem run_append_zeros (w : World) (base t tn ty e : TypeId) (kn kq : IntKind) (ht : P.underlying t = some (.slice e)) (htn : P.underlying tn = some (.int kn)) (hinfo : (P.info? e).map (fun i => (i.zero, i.size, i.bytes)) = some (some (.int .u8 0), 1, 1))
    (v : Value) (xs : List Int) (hown : w.ownsRow base e 1 v xs.length (nums .u8 xs)) (k : Nat) (hlen : xs.length + k ≤ 140737488355328) (hbase : base ≤ w.heap.size) :
    ∃ v' w', (Builtin.append_ #[t, tn] ty #[v, .int kq k]).run P w = .ok v' w' ∧ w'.ownsRow base e 1 v' (xs ++ List.replicate k 0).length (nums .u8 (xs ++ List.replicate k 0)) ∧ w.grownBy w' v.ownBlock ∧ (v'.ownBlock = v.ownBlock ∨ v'.ownBlock = some w.heap.size) := by
  obtain ⟨i0, hi, hz0, hz1, hz2⟩ := info_parts hinfo
  have hw : IntKind.i64.wrap (k : Int) = k := by rw [IntKind.wrap_i64]; omega
  have hneg : ¬ ((k : Int) < 0) := by omega
  have h48 : ¬ (281474976710656 < (k : Int) * (i0.bytes : Int)) := by rw [hz2]; omega
  have hzv : ∀ W, (zeroValue e).run P W = .ok (.int .u8 0) W := fun W => by simp [zeroValue, typeInfo, hi, hz0]
  have hrl : (List.replicate k (0 : Int)).length = k := List.length_replicate
  by_cases hk : k = 0
  · subst hk
    rw [List.replicate_zero, List.append_nil]
    refine ⟨v, w, ?_, hown, grown_refl _ _, .inl rfl⟩
    rcases hown.2 with ⟨rfl, h0⟩ | ⟨g, cap, cur, rfl, _, hg, hnc, _⟩
    · simp [Builtin.append_, run_underlying ht, run_underlying htn, sizeOf, typeInfo, hi, asInt, asIntOf, hz2, IntKind.wrap_i64]
    · simp [Builtin.append_, run_underlying ht, run_underlying htn, sizeOf, typeInfo, hi, asInt, asIntOf, hz2, IntKind.wrap_i64, hnc, storeCells]
  · have hlen2 : (nums .u8 (xs ++ List.replicate k 0)).length = (xs ++ List.replicate k 0).length * 1 := by simp [nums]
    have hll : (xs ++ List.replicate k (0 : Int)).length = xs.length + k := by rw [List.length_append, hrl]
    rcases hown.2 with ⟨rfl, h0⟩ | ⟨g, cap, cur, rfl, hbg, hg, hnc, hcm, hcs, htk⟩
    · obtain rfl : xs = [] := List.eq_nil_of_length_eq_zero h0
      have hr := Lib.run_append_nil_zeros (P := P) w t tn ty e i0 (.int .u8 0) kq kn ht htn hi hz0 k (by omega) (by rw [hz1]; decide) (by omega) (by rw [hz2]; simp at hlen; omega)
      have hge := grownCap_ge w k 0 e
      have hgm := grownCap_le_maxLen w k 0 e (by simp only [maxLen]; simp at hlen; omega)
      refine ⟨_, _, hr, ⟨hlen2, .inr ⟨w.heap.size, grownCap w k 0 e, _, ?_, hbase, heap_alloc_new w.drew _, by rw [hll]; simpa using hge, hgm, ?_, ?_⟩⟩, ⟨rfl, rfl, rfl, by simp, fun j hj _ => (Below.heap_alloc w.drew _ j hj)⟩, .inr rfl⟩
      · rw [hll]; simp
      · have e1 : (Value.int IntKind.u8 0).cells.size = 1 := rfl
        simp [Builtin.zeroCells, e1]; omega
      · rw [hll]
        show List.take _ ((Builtin.zeroCells #[Value.int .u8 0] k) ++ (Builtin.zeroCells #[Value.int .u8 0] (grownCap w k 0 e - k))).toList = _
        rw [zeroCells_one, Array.toList_append, List.nil_append]
        rw [List.take_append_of_le_length (by simp [nums]), List.take_of_length_le (by simp [nums])]
    · rw [Nat.mul_one] at hcs htk
      by_cases hroom : xs.length + k ≤ cap
      · have hst := run_storeCells_at (P := P) g xs.length e (nums .u8 (List.replicate k 0)) 0 cur w hg (by simp [nums]; omega) (by intro u hu; simp only [nums, List.mem_map] at hu; obtain ⟨q, _, rfl⟩ := hu; rfl)
        simp only [Nat.add_zero] at hst
        have hadd : (⟨g, 0, none⟩ : Addr).add (xs.length * i0.size) = ⟨g, xs.length, none⟩ := by rw [hz1, Nat.mul_one]; unfold Addr.add; split <;> simp_all
        have hz48 : k * i0.size ≠ 0 := by rw [hz1]; omega
        have hrun : (Builtin.append_ #[t, tn] ty #[.slice (some ⟨g, 0, none⟩) xs.length cap, .int kq k]).run P w = .ok (.slice (some ⟨g, 0, none⟩) (xs.length + k) cap) (w.setRow g (cur.toList.take xs.length ++ nums .u8 (List.replicate k 0) ++ cur.toList.drop (xs.length + (nums .u8 (List.replicate k 0)).length)).toArray) := by
          have hzc : Builtin.zeroCells (Value.int .u8 0).cells k = (nums .u8 (List.replicate k 0)).toArray := zeroCells_one k
          simp [Builtin.append_, run_underlying ht, run_underlying htn, sizeOf, typeInfo, hi, asInt, asIntOf, hw, hneg, h48, hroom, hz48, hzv, hzc, hadd]
          rw [hst]
          simp [Result.andThen]
        refine ⟨_, _, hrun, ⟨hlen2, .inr ⟨g, cap, _, by rw [hll], hbg, setRow_heap w g cur _ e _ hg, by rw [hll]; exact hroom, hcm, ?_, ?_⟩⟩, ⟨rfl, rfl, rfl, by simp, fun q _ hq => setRow_other w g q _ (fun e => hq (by simp [Value.ownBlock, e]))⟩, .inl rfl⟩
        · simp [nums]; omega
        · rw [hll, Nat.mul_one, htk, nums_append, List.append_assoc]
          show List.take _ (nums .u8 xs ++ (nums .u8 (List.replicate k 0) ++ _)) = _
          rw [← List.append_assoc, List.take_append_of_le_length (by simp [nums]), List.take_of_length_le (by simp [nums])]
      · have hfc : (Builtin.firstCells i0.size xs.length (.slice (some ⟨g, 0, none⟩) xs.length cap)).run P w.drew = .ok (nums .u8 xs).toArray w.drew := by
          have hh : ∀ (j : Nat) u, (nums .u8 xs)[j]? = some u → w.drew.cell? ((⟨g, 0, none⟩ : Addr).add j) = some u := fun j u hj => (hown.cells (g := g) rfl) j u hj
          have := run_loadCells_list (P := P) w.drew ⟨g, 0, none⟩ (nums .u8 xs) hh
          simpa [Builtin.firstCells, hz1, nums] using this
        have hr := Lib.run_append_grow_zeros (P := P) w t tn ty e i0 (.int .u8 0) kq kn ht htn hi hz0 (some ⟨g, 0, none⟩) xs.length cap (nums .u8 xs) hfc k (by omega) (by rw [hz1]; decide) (by omega) (by omega) (by rw [hz2]; omega) (by rw [hz2]; exact growslice_fits (by omega) (by omega))
        have hge := grownCap_ge w (xs.length + k) cap e
        have hgm := grownCap_le_maxLen w (xs.length + k) cap e (by simp only [maxLen]; omega)
        refine ⟨_, _, hr, ⟨hlen2, .inr ⟨w.heap.size, grownCap w (xs.length + k) cap e, _, by rw [hll], hbase, heap_alloc_new w.drew _, by rw [hll]; exact hge, hgm, ?_, ?_⟩⟩, ⟨rfl, rfl, rfl, by simp, fun j hj _ => (Below.heap_alloc w.drew _ j hj)⟩, .inr rfl⟩
        · have e1 : (Value.int IntKind.u8 0).cells.size = 1 := rfl
          simp [Builtin.zeroCells, nums, e1]; omega
        · rw [hll, Nat.mul_one]
          show List.take _ ((nums .u8 xs).toArray ++ (Builtin.zeroCells #[Value.int .u8 0] k) ++ (Builtin.zeroCells #[Value.int .u8 0] (grownCap w (xs.length + k) cap e - (xs.length + k)))).toList = _
          rw [zeroCells_one, nums_append, Array.toList_append, Array.toList_append]
          rw [List.take_append_of_le_length (by simp [nums]), List.take_of_length_le (by simp [nums])]
section
variable {ops : Array Oper} {rest : List Oper} {o : Oper} {a : Act} {Q : Exit → Act → World → Prop}
theorem wpList_app_reads (w : World) (hgd : o.guard = none) (s x : Operand) (t : TypeId) (ho : o.op = .call { callee := .builtin .append, args := #[s, x], argTypes := #[t, t] })
    (base e : TypeId) (ht : P.underlying t = some (.slice e)) (hinfo : (P.info? e).map (fun i => (i.zero, i.size, i.bytes)) = some (some (.int .u8 0), 1, 1))
    (v : Value) (xs ys : List Int) (hs : a.eval s = v) (hown : w.ownsRow base e 1 v xs.length (nums .u8 xs)) (A : Option Addr) (n c : Nat) (hx : a.eval x = .slice A n c) (hr : Kd.C (Kd.int .u8) w A n ys) (hlen : xs.length + n ≤ 140737488355328) (hbase : base ≤ w.heap.size)
    (h : ∀ v' w', w'.ownsRow base e 1 v' (xs ++ ys).length (nums .u8 (xs ++ ys)) → w.grownBy w' v.ownBlock → (v'.ownBlock = v.ownBlock ∨ v'.ownBlock = some w.heap.size) → wpList P ops Q rest (a.put o.dst v') w') : wpList P ops Q (o :: rest) a w := by
  obtain ⟨v', w', h1, h2, h3, h4⟩ := run_append_reads (P := P) w base t o.type e ht hinfo v xs ys hown A n c hr hlen hbase
  exact Lib.wpList_append_run w hgd s x t t ho v (.slice A n c) hs hx v' w' h1 (h v' w' h2 h3 h4)
theorem wpList_app_zeros (w : World) (hgd : o.guard = none) (s x : Operand) (t tn : TypeId) (ho : o.op = .call { callee := .builtin .append, args := #[s, x], argTypes := #[t, tn] })
    (base e : TypeId) (kn kq : IntKind) (ht : P.underlying t = some (.slice e)) (htn : P.underlying tn = some (.int kn)) (hinfo : (P.info? e).map (fun i => (i.zero, i.size, i.bytes)) = some (some (.int .u8 0), 1, 1))
    (v : Value) (xs : List Int) (hs : a.eval s = v) (hown : w.ownsRow base e 1 v xs.length (nums .u8 xs)) (k : Nat) (hx : a.eval x = .int kq k) (hlen : xs.length + k ≤ 140737488355328) (hbase : base ≤ w.heap.size)
    (h : ∀ v' w', w'.ownsRow base e 1 v' (xs ++ List.replicate k 0).length (nums .u8 (xs ++ List.replicate k 0)) → w.grownBy w' v.ownBlock → (v'.ownBlock = v.ownBlock ∨ v'.ownBlock = some w.heap.size) → wpList P ops Q rest (a.put o.dst v') w') : wpList P ops Q (o :: rest) a w := by
  obtain ⟨v', w', h1, h2, h3, h4⟩ := run_append_zeros (P := P) w base t tn o.type e kn kq ht htn hinfo v xs hown k hlen hbase
  exact Lib.wpList_append_run w hgd s x t tn ho v (.int kq k) hs hx v' w' h1 (h v' w' h2 h3 h4)
end
end

end Go.Proofs.YtkcgioggnbnfkaaDoorW.App
/- Rows of rows of bytes of the call's own: laws over any program. -/
set_option linter.unusedVariables false
set_option linter.unusedSimpArgs false
namespace Go.Proofs.YtkcgioggnbnfkaaDoorW.Rwb
open Go.RowKit Go.Proofs.YtkcgioggnbnfkaaDoorW.PrintWords Go.Proofs.YtkcgioggnbnfkaaDoorW.PrintLast Go.Proofs.YtkcgioggnbnfkaaDoorW.PrintMore Go.Proofs.YtkcgioggnbnfkaaDoorW.HKit Go.Proofs.YtkcgioggnbnfkaaDoorW.Mv Go.Proofs.YtkcgioggnbnfkaaDoorW.But Go.Proofs.YtkcgioggnbnfkaaDoorW.App

/-- A row of the call's own, of rows of bytes of the call's own. -/
def RowsOwn (e : Nat) (W : World) (B : Nat) (cs : List Value) (xss : List (List Int)) : Prop := cs.length = xss.length ∧ ∀ r, ∀ h : r < cs.length, ∀ h2 : r < xss.length, W.ownsRow B e 1 cs[r] xss[r].length (nums .u8 xss[r])
theorem RowsOwn.nil (e : Nat) (W : World) (B : Nat) : RowsOwn e W B [] [] := ⟨rfl, fun r h => absurd h (Nat.not_lt_zero _)⟩
theorem RowsOwn.below {e : Nat} {W W' : World} {B : Nat} {cs : List Value} {xss : List (List Int)} (h : RowsOwn e W B cs xss) (hb : Below W.heap.size W W') : RowsOwn e W' B cs xss :=
  ⟨h.1, fun r hr h2 => own_stays (h.2 r hr h2) fun q hq => hb.block q (own_lt (h.2 r hr h2) q hq)⟩
/-- Only a block of another type has turned. -/
theorem RowsOwn.but {e t : Nat} {W W' : World} {B g : Nat} {cs : List Value} {xss : List (List Int)} (h : RowsOwn e W B cs xss) (hb : But (fun k => k = g) W W') {cells : Array Value} {fr : Nat × Nat} (hg : W.heap[g]? = some (.cells cells t fr)) (ht : e ≠ t) : RowsOwn e W' B cs xss :=
  ⟨h.1, fun r hr h2 => hb.own (h.2 r hr h2) fun q hq hqg => by
    subst hqg
    obtain ⟨c2, hc2⟩ := own_typed (h.2 r hr h2) q hq
    rw [hc2] at hg
    injection hg with hg
    injection hg with _ h3 _
    exact ht h3⟩
theorem But.of_grown {w w' : World} {g : Nat} (h : w.grownBy w' (some g)) : But (fun k => k = g) w w' := ⟨h.os, h.tape, h.output, h.size, fun k hk hn => h.block k hk (fun e => hn (Option.some.inj e))⟩
theorem below_of_grown_none {w w' : World} (h : w.grownBy w' none) : Below w.heap.size w w' := ⟨h.os, h.tape, h.output, h.size, fun k hk => h.block k hk (by simp)⟩
theorem RowsOwn.snoc {e : Nat} {W : World} {B : Nat} {cs : List Value} {xss : List (List Int)} (h : RowsOwn e W B cs xss) (u : Value) (xs : List Int) (hu : W.ownsRow B e 1 u xs.length (nums .u8 xs)) : RowsOwn e W B (cs ++ [u]) (xss ++ [xs]) := by
  refine ⟨by simp [h.1], fun r hr h2 => ?_⟩
  by_cases hlt : r < cs.length
  · have h3 : r < xss.length := by rw [← h.1]; exact hlt
    rw [List.getElem_append_left hlt, List.getElem_append_left h3]
    exact h.2 r hlt h3
  · have h1 : r = cs.length := by simp at hr; omega
    subst h1
    have h4 : (cs ++ [u])[cs.length] = u := by simp
    have h5 : (xss ++ [xs])[cs.length]'h2 = xs := by
      rw [List.getElem_append_right (by rw [h.1]; exact Nat.le_refl _)]
      simp [h.1]
    rw [h4, h5]
    exact hu
/-- The row grows by an append: its rows stay. -/
theorem RowsOwn.grown {e t : Nat} {W W' : World} {B b s n : Nat} {cs ds : List Value} {xss : List (List Int)} {v : Value} (h : RowsOwn e W B cs xss) (hv : W.ownsRow b t s v n ds) (hg : W.grownBy W' v.ownBlock) (ht : e ≠ t) : RowsOwn e W' B cs xss := by
  cases hq : v.ownBlock with
  | none => rw [hq] at hg; exact h.below (below_of_grown_none hg)
  | some g =>
    rw [hq] at hg
    obtain ⟨cells, hc⟩ := own_typed hv g hq
    exact h.but (But.of_grown hg) hc ht
/-- Rows of bytes that are read. -/
def RowsB (w : World) (A : Option Addr) (c : Nat) (xss : List (List Int)) : Prop := xss.length ≤ c ∧ c ≤ 9223372036854775807 ∧ (0 < xss.length → ∃ a, A = some a) ∧ ∀ a, A = some a → ∀ r, ∀ h : r < xss.length, ∃ Ar Cr, w.cell? (a.add r) = some (.slice Ar xss[r].length Cr) ∧ xss[r].length ≤ Cr ∧ Kd.C (Kd.int .u8) w Ar xss[r].length xss[r]
theorem RowsB.below {w w' : World} {A : Option Addr} {c : Nat} {xss : List (List Int)} (h : RowsB w A c xss) (hb : Below w.heap.size w w') : RowsB w' A c xss := by
  obtain ⟨h1, h2, h3, h4⟩ := h
  refine ⟨h1, h2, h3, fun a ha r hr => ?_⟩
  obtain ⟨Ar, Cr, k1, k2, k3⟩ := h4 a ha r hr
  exact ⟨Ar, Cr, pw_cell_below hb k1, k2, Kd.C_below k3 hb⟩
theorem RowsB.at_ {w : World} {A : Option Addr} {c : Nat} {xss : List (List Int)} (h : RowsB w A c xss) (r : Nat) (hr : r < xss.length) : ∃ a Ar Cr, A = some a ∧ w.cell? (a.add r) = some (.slice Ar xss[r].length Cr) ∧ xss[r].length ≤ Cr ∧ Kd.C (Kd.int .u8) w Ar xss[r].length xss[r] := by
  obtain ⟨h1, h2, h3, h4⟩ := h
  obtain ⟨a, ha⟩ := h3 (by omega)
  obtain ⟨Ar, Cr, k⟩ := h4 a ha r hr
  exact ⟨a, Ar, Cr, ha, k⟩
theorem rowsB_own {e t : Nat} {W : World} {B b : Nat} {v : Value} {cs : List Value} {xss : List (List Int)} (hv : W.ownsRow b t 1 v xss.length cs) (h : RowsOwn e W B cs xss) : ∃ A c, v = .slice A xss.length c ∧ RowsB W A c xss := by
  rcases hv.2 with ⟨rfl, h0⟩ | ⟨g, cap, cur, rfl, hg, hh, hnc, hcm, _⟩
  · obtain rfl : xss = [] := List.eq_nil_of_length_eq_zero h0
    exact ⟨none, 0, rfl, Nat.le_refl _, by decide, fun h => absurd h (Nat.lt_irrefl _), fun a ha r hr => absurd hr (Nat.not_lt_zero _)⟩
  · refine ⟨some ⟨g, 0, none⟩, cap, rfl, hnc, hcm, fun _ => ⟨_, rfl⟩, fun a ha r hr => ?_⟩
    injection ha with ha
    subst ha
    have hr1 : r < cs.length := by rw [h.1]; exact hr
    obtain ⟨Ar, Cr, h1, h2, h3, _⟩ := own_C (kd := .u8) (h.2 r hr1 hr) rfl
    exact ⟨Ar, Cr, by have := hv.cells (g := g) rfl r cs[r] (List.getElem?_eq_getElem hr1); rw [this, h1], h2, h3⟩
section
variable {P : Program} {ops : Array Oper} {rest : List Oper} {o : Oper} {a : Act} {Q : Exit → Act → World → Prop}
/-- append of one value of one cell to a row of the call's own. -/
theorem wpList_app_one (W : World) (hgd : o.guard = none) (s x : Operand) (t : TypeId) (ho : o.op = .call { callee := .builtin .append, args := #[s, x], argTypes := #[t, t] })
    (base e : TypeId) (z : Value) (by_ : Nat) (ht : P.underlying t = some (.slice e)) (hinfo : (P.info? e).map (fun i => (i.zero, i.size, i.bytes)) = some (some z, 1, by_)) (hz : z.cells.size = 1)
    (v : Value) (n : Nat) (cs : List Value) (hs : a.eval s = v) (hown : W.ownsRow base e 1 v n cs) (u : Value) (hx : a.eval x = .slice (some ⟨W.heap.size, 0, none⟩) 1 1) (hu : u.oneCell' = true) (hlen : (n + 1) * by_ ≤ 140737488355328) (hlen2 : n + 1 ≤ 140737488355328) (hbase : base ≤ W.heap.size)
    (h : ∀ v' w', w'.ownsRow base e 1 v' (n + 1) (cs ++ [u]) → (W.alloc (.cells #[u] e)).grownBy w' v.ownBlock → wpList P ops Q rest (a.put o.dst v') w') : wpList P ops Q (o :: rest) a (W.alloc (.cells #[u] e)) := by
  obtain ⟨i0, hi, hz0, hz1, hz2⟩ := info_parts hinfo
  exact wpList_append_own_at (W.alloc (.cells #[u] e)) hgd s x t ho base e i0 z 1 by_ ht hi hz0 hz1 hz2 hz (by decide) v n cs hs (own_stays hown (fun q hq => Below.heap_alloc W _ q (own_lt hown q hq))) ⟨W.heap.size, 0, none⟩ 1 1 [u] hx rfl (cell_one_new _ _ _)
    (by intro q hq; simp at hq; subst hq; exact hu) (by simp only [maxLen]; omega) hlen (Nat.le_trans hbase (by simp)) (fun v' w' h1 h2 _ _ => h v' w' h1 h2)
end

end Go.Proofs.YtkcgioggnbnfkaaDoorW.Rwb
/- Appends to a row whose block may bear a mark: laws over any program. -/
set_option linter.unusedVariables false
set_option linter.unusedSimpArgs false
namespace Go.Proofs.YtkcgioggnbnfkaaDoorW.Live
open Go.RowKit Go.Proofs.YtkcgioggnbnfkaaDoorW.PrintWords Go.Proofs.YtkcgioggnbnfkaaDoorW.PrintLast Go.Proofs.YtkcgioggnbnfkaaDoorW.PrintMore Go.Proofs.YtkcgioggnbnfkaaDoorW.HKit Go.Proofs.YtkcgioggnbnfkaaDoorW.Mv Go.Proofs.YtkcgioggnbnfkaaDoorW.But Go.Proofs.YtkcgioggnbnfkaaDoorW.App

theorem setCells_row_fr {g : Nat} {e : TypeId} {fr : Nat × Nat} : ∀ (vs : List Value) (o : Nat) (w : World) (cur : Array Value), w.heap[g]? = some (.cells cur e fr) → o + vs.length ≤ cur.size →
    (w.setCells g o vs).heap[g]? = some (.cells (cur.toList.take o ++ vs ++ cur.toList.drop (o + vs.length)).toArray e fr)
  | [], o, w, cur, h, _ => by
    show w.heap[g]? = _
    rw [h]
    simp
  | v :: r, o, w, cur, h, hl => by
    have h2 : (w.setCell ⟨g, o, none⟩ v).heap[g]? = some (.cells (cur.setIfInBounds o v) e fr) := by simp [World.setCell, Array.getElem?_modify, h]
    simp only [List.length_cons] at hl
    have h3 := setCells_row_fr r (o + 1) (w.setCell ⟨g, o, none⟩ v) _ h2 (by simp; omega)
    rw [World.setCells, h3, Array.toList_setIfInBounds]
    have ho : o < cur.toList.length := by rw [Array.length_toList]; omega
    congr 3
    rw [List.take_set, List.drop_set_of_lt (by omega)]
    simp only [List.length_cons]
    rw [show o + 1 + r.length = o + (r.length + 1) by omega]
    congr 1
    rw [List.take_succ_eq_append_getElem ho, List.set_append_right _ _ (by rw [List.length_take]; omega)]
    have ho' : o < cur.size := by omega
    simp [Nat.min_eq_left (Nat.le_of_lt ho')]
section
variable {P : Program} {ops : Array Oper} {rest : List Oper} {o : Oper} {a : Act} {Q : Exit → Act → World → Prop}
theorem live_typed {e : Nat} {w : World} {B : Nat} {v : Value} {xs : List Int} (h : Live e w B v xs) (k : Nat) (hk : v.ownBlock = some k) : B ≤ k ∧ ∃ cells fr, w.heap[k]? = some (.cells cells e fr) := by
  obtain ⟨g, cap, cells, fr, rfl, hB, hg, r⟩ := h
  have : g = k := by simpa [Value.ownBlock] using hk
  subst this
  exact ⟨hB, cells, fr, hg⟩
theorem live_moves {e : Nat} {w w' : World} {B : Nat} {v : Value} {xs : List Int} (h : Live e w B v xs) (hb : Below w.heap.size w w') : Live e w' B v xs := by
  obtain ⟨g, cap, cells, fr, hv, hB, hg, r⟩ := h
  exact ⟨g, cap, cells, fr, hv, hB, (hb.block g (Array.getElem?_eq_some_iff.1 hg).1).trans hg, r⟩
/-- append of bytes that are read to a row whose block may bear a mark behind its last cell. -/
theorem live_app {W : World} {B e t : Nat} (hgd : o.guard = none) (s x : Operand) (ho : o.op = .call { callee := .builtin .append, args := #[s, x], argTypes := #[t, t] })
    (ht : P.underlying t = some (.slice e)) (hinfo : (P.info? e).map (fun i => (i.zero, i.size, i.bytes)) = some (some (.int .u8 0), 1, 1))
    (v : Value) (xs ys : List Int) (hs : a.eval s = v) (A : Option Addr) (n c : Nat) (hx : a.eval x = .slice A n c) (hn : 0 < n) (hr : Kd.C (Kd.int .u8) W A n ys)
    (H : Live e W B v xs) (hB : B ≤ W.heap.size) (hl : xs.length + n ≤ 140737488355328)
    (h : ∀ v1 w1, Live e w1 B v1 (xs ++ ys) → W.grownBy w1 v.ownBlock → wpList P ops Q rest (a.put o.dst v1) w1) :
    wpList P ops Q (o :: rest) a W := by
  obtain ⟨i0, hi, hzz⟩ := Option.map_eq_some_iff.1 hinfo
  simp only [Prod.mk.injEq] at hzz
  obtain ⟨hz0, hz1, hz2⟩ := hzz
  obtain ⟨g, cap, cells, fr, rfl, hBg, hg, hc, hm, hle, htk, hf⟩ := H
  have hyl := C_len hr
  obtain ⟨ad, hA, _⟩ := Kd.at_int hr 0 (by omega) (by omega)
  subst hA
  have hys : ∀ (j : Nat) u, (nums .u8 ys)[j]? = some u → W.cell? (ad.add j) = some u := by
    intro j u hj
    have hj1 : j < n := by
      rcases Nat.lt_or_ge j n with h | h
      · exact h
      · rw [List.getElem?_eq_none (by simpa [nums, hyl] using h)] at hj; cases hj
    obtain ⟨ad', he, hc⟩ := Kd.at_int hr (j : Int) (by omega) (by omega)
    cases he
    rw [Int.toNat_natCast] at hc
    rw [hc]
    have : (nums .u8 ys)[j]? = some (.int .u8 (rd ys (j : Int))) := by simp [nums, rd, List.getD, hyl, hj1]
    rw [this] at hj
    exact hj
  have hone : ∀ u ∈ nums .u8 ys, u.oneCell' = true := by intro u hu; simp only [nums, List.mem_map] at hu; obtain ⟨q, _, rfl⟩ := hu; rfl
  have hcl : cells.toList.length = cells.size := Array.length_toList
  refine wpList_append_arg W hgd s x t ho e i0 (.int .u8 0) 1 1 ht hi hz0 hz1 hz2 rfl (by decide) g 0 xs.length cap (xs.map (Value.int .u8)) hs (by simp) (fun j u hj => ?_)
    ad n c (nums .u8 ys) hx (by simp [nums, hyl]) hys hone (fun hr j hj => ?_) (by simp only [maxLen]; omega) (by omega) (fun hr => ?_) (fun hr v1 w1 hown hgr => ?_)
  · rw [Nat.zero_add, cell_of_row _ g j cells e fr hg, ← Array.getElem?_toList]
    have hj1 : j < xs.length := by
      rcases Nat.lt_or_ge j xs.length with h | h
      · exact h
      · rw [List.getElem?_eq_none (by simpa using h)] at hj; cases hj
    have h1 : (cells.toList.take xs.length)[j]? = (xs.map (Value.int .u8))[j]? := by rw [htk]
    rw [List.getElem?_take, if_pos hj1] at h1
    rw [h1]; exact hj
  · have hj0 : j < n := by simpa [nums, hyl] using hj
    refine ⟨?_, live_frozen hg hf (by omega)⟩
    rw [cell_of_row _ g _ cells e fr hg, Array.getElem?_eq_getElem (by omega)]
    rfl
  · have hset : (W.setCells g (0 + xs.length * 1) (nums .u8 ys)).heap[g]? = some (.cells (cells.toList.take xs.length ++ nums .u8 ys ++ cells.toList.drop (xs.length + n)).toArray e fr) := by
      rw [Nat.zero_add, Nat.mul_one]
      have := setCells_row_fr (nums .u8 ys) xs.length W cells hg (by simp [nums, hyl]; omega)
      have e1 : (nums .u8 ys).length = n := by simp [nums, hyl]
      rw [e1] at this
      exact this
    refine h _ _ ⟨g, cap, _, fr, by rw [List.length_append, hyl], hBg, hset, by simp [nums, hyl]; omega, hm, by rw [List.length_append, hyl]; omega, ?_, ?_⟩ ⟨(setCells_same g _ _ W).1, (setCells_same g _ _ W).2.1, (setCells_same g _ _ W).2.2.1, by rw [(setCells_same g _ _ W).2.2.2]; exact Nat.le_refl _, fun k _ hk => setCells_far _ _ k (fun e => hk (by simp [Value.ownBlock, e]))⟩
    · rw [List.length_append, hyl]
      show List.take _ (cells.toList.take xs.length ++ nums .u8 ys ++ cells.toList.drop (xs.length + n)) = _
      rw [List.take_append_of_le_length (by simp [nums, hyl]; omega), htk, List.map_append, List.take_of_length_le (by simp [nums, hyl])]
      rfl
    · rcases hf with hf | hf
      · exact .inl hf
      · refine .inr ?_
        have : (cells.toList.take xs.length ++ nums .u8 ys ++ cells.toList.drop (xs.length + n)).toArray.size = cells.size := by simp [nums, hyl]; omega
        rw [this]; exact hf
  · have hgrow : W.grownBy w1 (Value.ownBlock (.slice (some ⟨g, 0, none⟩) xs.length cap)) := ⟨hgr.os, hgr.tape, hgr.output, hgr.size, fun k hk _ => hgr.block k hk (by simp)⟩
    rcases hown.2 with ⟨_, h0⟩ | ⟨g1, cap1, cur, rfl, hb1, hh1, h1, h2, h3, h4⟩
    · omega
    · refine h _ _ ⟨g1, cap1, cur, (0, 0), by rw [List.length_append, hyl], Nat.le_trans hB hb1, hh1, by omega, by simpa [maxLen] using h2, by rw [List.length_append, hyl]; exact h1, ?_, .inl rfl⟩ hgrow
      rw [List.length_append, List.map_append, hyl]
      simpa [nums] using h4
end
section
variable {P : Program}
theorem live_reads {e : Nat} {w : World} {B : Nat} {v : Value} {xs : List Int} (h : Live e w B v xs) : ∃ A c, v = .slice A xs.length c ∧ xs.length ≤ c ∧ Kd.C (Kd.int .u8) w A xs.length xs ∧ ∀ q, v.ownBlock = some q → B ≤ q ∧ q < w.heap.size := by
  obtain ⟨g, cap, cells, fr, rfl, hB, hg, hc, hm, hle, htk, hf⟩ := h
  refine ⟨_, _, rfl, hle, Kd.C_of_reads (enc := Value.int .u8) (d := (0 : Int)) (h1 := fun _ => rfl) ⟨rfl, by omega, fun hp => ⟨_, rfl, fun j hj => ?_⟩⟩, fun q hq => ?_⟩
  · rw [add_plain, cell_of_row w g j cells e fr hg]
    have h1 : (cells.toList.take xs.length)[j]? = (xs.map (Value.int .u8))[j]? := by rw [htk]
    rw [List.getElem?_take, if_pos hj] at h1
    rw [← Array.getElem?_toList, h1]
    simp [List.getElem?_eq_getElem hj, List.getD_eq_getElem?_getD]
  · have : g = q := by simpa [Value.ownBlock] using hq
    subst this
    exact ⟨hB, (Array.getElem?_eq_some_iff.1 hg).1⟩
end

end Go.Proofs.YtkcgioggnbnfkaaDoorW.Live
