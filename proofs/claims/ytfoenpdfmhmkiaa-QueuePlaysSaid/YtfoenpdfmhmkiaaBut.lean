/- All but some blocks is as it was. -/
import Derived.Test.YtfoenpdfmhmkiaaWWords
import Derived.Test.YtfoenpdfmhmkiaaWLast
import Derived.Test.YtfoenpdfmhmkiaaWMore
import Derived.Test.YtfoenpdfmhmkiaaHKit
import Derived.Test.YtfoenpdfmhmkiaaMv
import Derived.Laws.CopyOwn
import Derived.Deep.RegionLaw
import Derived.Lib.Hide
set_option linter.unusedVariables false
set_option linter.unusedSimpArgs false
namespace Go.Proofs.YtfoenpdfmhmkiaaW.But
open Go.RowKit Go.Proofs.YtfoenpdfmhmkiaaW.PrintWords Go.Proofs.YtfoenpdfmhmkiaaW.PrintLast Go.Proofs.YtfoenpdfmhmkiaaW.PrintMore Go.Proofs.YtfoenpdfmhmkiaaW.HKit Go.Proofs.YtfoenpdfmhmkiaaW.Mv

/-- All but the blocks of F is as it was (new blocks aside). -/
structure But (F : Nat → Prop) (w w' : World) : Prop where
  os : w'.os = w.os
  tape : w'.tape = w.tape
  output : w'.output = w.output
  size : w.heap.size ≤ w'.heap.size
  block : ∀ k, k < w.heap.size → ¬ F k → w'.heap[k]? = w.heap[k]?
theorem But.refl (F : Nat → Prop) (w : World) : But F w w := ⟨rfl, rfl, rfl, Nat.le_refl _, fun _ _ _ => rfl⟩
theorem But.trans {F : Nat → Prop} {a b c : World} (h : But F a b) (k : But F b c) : But F a c :=
  ⟨k.os.trans h.os, k.tape.trans h.tape, k.output.trans h.output, Nat.le_trans h.size k.size, fun i hi hn => (k.block i (Nat.lt_of_lt_of_le hi h.size) hn).trans (h.block i hi hn)⟩
theorem But.mono {F G : Nat → Prop} {a b : World} (h : But F a b) (hG : ∀ k, F k → G k) : But G a b := ⟨h.os, h.tape, h.output, h.size, fun i hi hn => h.block i hi fun hf => hn (hG i hf)⟩
theorem But.of_below {w w' : World} (F : Nat → Prop) (h : Below w.heap.size w w') : But F w w' := ⟨h.os, h.tape, h.output, h.size, fun i hi _ => h.block i hi⟩
theorem But.below {F : Nat → Prop} {w w' : World} {base : Nat} (h : But F w w') (hF : ∀ k, F k → base ≤ k) (hb : base ≤ w.heap.size) : Below base w w' :=
  ⟨h.os, h.tape, h.output, h.size, fun k hk => h.block k (by omega) fun hf => by have := hF k hf; omega⟩
/-- Where the blocks of F are new, nothing of old has turned. -/
theorem But.fresh {F : Nat → Prop} {w0 w w' : World} (h0 : Below w0.heap.size w0 w) (h : But F w w') (hF : ∀ k, F k → w0.heap.size ≤ k) : Below w0.heap.size w0 w' := h0.trans (h.below hF h0.size)
theorem But.setCell {F : Nat → Prop} (w : World) (a : Addr) (u : Value) (ha : F a.block) : But F w (w.setCell a u) :=
  ⟨rfl, rfl, rfl, by simp [World.setCell], fun k _ hn => Below.heap_setCell w a u k fun h => hn (by rw [h]; exact ha)⟩
theorem But.setRow {F : Nat → Prop} (w : World) (g : Nat) (cs : Array Value) (ha : F g) : But F w (w.setRow g cs) :=
  ⟨rfl, rfl, rfl, by simp [World.setRow], fun k _ hn => by
    have : k ≠ g := fun h => hn (by rw [h]; exact ha)
    simp [World.setRow, Array.getElem?_modify, Ne.symm this]⟩
theorem But.cell {F : Nat → Prop} {w w' : World} (h : But F w w') {a : Addr} {v : Value} (hc : w.cell? a = some v) (hn : ¬ F a.block) : w'.cell? a = some v :=
  (World.cell?_of_block (h.block a.block (World.block_lt_of_cell? w a hc) hn)).trans hc
theorem But.heap {F : Nat → Prop} {w w' : World} (h : But F w w') {k : Nat} {o : Obj} (hk : w.heap[k]? = some o) (hn : ¬ F k) : w'.heap[k]? = some o := by
  have hl : k < w.heap.size := by
    by_cases hl : k < w.heap.size
    · exact hl
    · rw [Array.getElem?_eq_none (by omega)] at hk; cases hk
  rw [h.block k hl hn, hk]
theorem But.own {F : Nat → Prop} {w w' : World} (h : But F w w') {B e s n : Nat} {v : Value} {xs : List Value} (ho : w.ownsRow B e s v n xs) (hn : ∀ q, v.ownBlock = some q → ¬ F q) : w'.ownsRow B e s v n xs :=
  own_stays ho fun q hq => h.block q (own_lt ho q hq) (hn q hq)
/-- copy(dst, src) of slices into a block of its own, as one step of a region that draws: only that block has turned. -/
theorem step_copy_but {P : Program} {ops : Array Oper} {o : Oper} {a : Act} {w : World} {K : Act → World → Prop} {Q : Exit → Act → World → Prop} {E : Prop} (hgd : o.guard = none) (d s : Operand) (dT sT : TypeId)
    (ho : o.op = .call { callee := .builtin .copy, args := #[d, s], argTypes := #[dT, sT] }) (elem : TypeId) (hu : P.underlying dT = some (.slice elem)) (hsz : (P.info? elem).map (·.size) = some 1)
    (dp sp : Option Addr) (dLen dCap sLen sCap : Nat) (hd : a.eval d = .slice dp dLen dCap) (hs : a.eval s = .slice sp sLen sCap)
    (g off : Nat) (cur : List Value) (t : TypeId) (hg : w.heap[g]? = some (.cells cur.toArray t (0, 0))) (cs : List Value) (hn : cs.length = Nat.min sLen dLen)
    (hpos : 0 < cs.length → dp = some ⟨g, off, none⟩ ∧ ∃ ad, sp = some ad ∧ ∀ j v, cs[j]? = some v → w.cell? (ad.add j) = some v)
    (hfit : off + cs.length ≤ cur.length) (h1 : ∀ v ∈ cs, v.oneCell' = true)
    (h : ∀ w', w'.heap[g]? = some (.cells (splice cur off cs).toArray t (0, 0)) → But (· = g) w w' → K (a.put o.dst (goInt cs.length)) w') :
    if Region.wanted o (yielded ops a.tmps) = true then Oper.wp P o a w K Q else E := by
  have hw : Region.wanted o (yielded ops a.tmps) = true := by simp [Region.wanted, hgd]
  rw [if_pos hw]
  by_cases h0 : cs.length = 0
  · obtain rfl : cs = [] := List.eq_nil_of_length_eq_zero h0
    have hrun := run_copy_none (P := P) w dT sT o.type elem dp sp dLen dCap sLen sCap hu hsz (by simpa using hn.symm)
    unfold Oper.wp
    simp [execOp, ho, resolve, invoke, builtin, hd, hs, hrun, Result.andThen]
    exact h w (by simpa [splice] using hg) (But.refl _ _)
  · obtain ⟨rfl, ad, rfl, hsrc⟩ := hpos (by omega)
    have hrun := run_copy_row (P := P) w dT sT o.type elem g off dLen dCap ad sLen sCap cur.toArray t cs hu hsz hg hn hsrc (by simpa using hfit) h1
    unfold Oper.wp
    simp [execOp, ho, resolve, invoke, builtin, hd, hs, hrun, Result.andThen]
    exact h _ (by simpa [splice] using setRow_heap w g _ _ t _ hg) (But.setRow _ _ _ rfl)

end Go.Proofs.YtfoenpdfmhmkiaaW.But
