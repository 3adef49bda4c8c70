/- All but some blocks is as it was. -/
import Derived.Test.YtoabboeongbloaaDoorWWords
import Derived.Test.YtoabboeongbloaaDoorWLast
import Derived.Test.YtoabboeongbloaaDoorWMore
import Derived.Test.YtoabboeongbloaaDoorHKit
import Derived.Test.YtoabboeongbloaaDoorMv
import Derived.Laws.CopyOwn
import Derived.Deep.RegionLaw
import Derived.Lib.Hide
import Derived.Test.YtoabboeongbloaaDoorMark
import Derived.Test.YtoabboeongbloaaDoorPHeadGetsx
import Derived.Test.YtoabboeongbloaaDoorSumsB
import Derived.Laws.OwnMore
set_option linter.unusedVariables false
set_option linter.unusedSimpArgs false
namespace Go.Proofs.YtoabboeongbloaaDoorW.But
open Go.RowKit Go.Proofs.YtoabboeongbloaaDoorW.PrintWords Go.Proofs.YtoabboeongbloaaDoorW.PrintLast Go.Proofs.YtoabboeongbloaaDoorW.PrintMore Go.Proofs.YtoabboeongbloaaDoorW.HKit Go.Proofs.YtoabboeongbloaaDoorW.Mv

/-- All but the blocks of F is as it was (new blocks aside). -/
structure But (F : Nat → Prop) (w w' : World) : Prop where
  os : w'.os = w.os
  tape : w'.tape = w.tape
  output : w'.output = w.output
  size : w.heap.size ≤ w'.heap.size
  block : ∀ k, k < w.heap.size → ¬ F k → w'.heap[k]? = w.heap[k]?
theorem But.refl (F : Nat → Prop) (w : World) : But F w w := ⟨rfl, rfl, rfl, Nat.le_refl _, fun _ _ _ => rfl⟩
theorem But.trans {F : Nat → Prop} {a b c : World} (h : But F a b) (k : But F b c) : But F a c :=
  ⟨k.os.trans h.os, k.tape.trans h.tape, k.output.trans h.output, Nat.le_trans h.size k.size, fun i hi hn => (k.block i (Nat.lt_of_lt_of_le hi h.size) hn).trans (h.block i hi hn)⟩
theorem But.mono {F G : Nat → Prop} {a b : World} (h : But F a b) (hG : ∀ k, F k → G k) : But G a b := ⟨h.os, h.tape, h.output, h.size, fun i hi hn => h.block i hi fun hf => hn (hG i hf)⟩
theorem But.of_below {w w' : World} (F : Nat → Prop) (h : Below w.heap.size w w') : But F w w' := ⟨h.os, h.tape, h.output, h.size, fun i hi _ => h.block i hi⟩
theorem But.below {F : Nat → Prop} {w w' : World} {base : Nat} (h : But F w w') (hF : ∀ k, F k → base ≤ k) (hb : base ≤ w.heap.size) : Below base w w' :=
  ⟨h.os, h.tape, h.output, h.size, fun k hk => h.block k (by omega) fun hf => by have := hF k hf; omega⟩
/-- Where the blocks of F are new, nothing of old has turned. -/
theorem But.fresh {F : Nat → Prop} {w0 w w' : World} (h0 : Below w0.heap.size w0 w) (h : But F w w') (hF : ∀ k, F k → w0.heap.size ≤ k) : Below w0.heap.size w0 w' := h0.trans (h.below hF h0.size)
theorem But.setCell {F : Nat → Prop} (w : World) (a : Addr) (u : Value) (ha : F a.block) : But F w (w.setCell a u) :=
  ⟨rfl, rfl, rfl, by simp [World.setCell], fun k _ hn => Below.heap_setCell w a u k fun h => hn (by rw [h]; exact ha)⟩
theorem But.setRow {F : Nat → Prop} (w : World) (g : Nat) (cs : Array Value) (ha : F g) : But F w (w.setRow g cs) :=
  ⟨rfl, rfl, rfl, by simp [World.setRow], fun k _ hn => by
    have : k ≠ g := fun h => hn (by rw [h]; exact ha)
    simp [World.setRow, Array.getElem?_modify, Ne.symm this]⟩
theorem But.cell {F : Nat → Prop} {w w' : World} (h : But F w w') {a : Addr} {v : Value} (hc : w.cell? a = some v) (hn : ¬ F a.block) : w'.cell? a = some v :=
  (World.cell?_of_block (h.block a.block (World.block_lt_of_cell? w a hc) hn)).trans hc
theorem But.heap {F : Nat → Prop} {w w' : World} (h : But F w w') {k : Nat} {o : Obj} (hk : w.heap[k]? = some o) (hn : ¬ F k) : w'.heap[k]? = some o := by
  have hl : k < w.heap.size := by
    by_cases hl : k < w.heap.size
    · exact hl
    · rw [Array.getElem?_eq_none (by omega)] at hk; cases hk
  rw [h.block k hl hn, hk]
theorem But.own {F : Nat → Prop} {w w' : World} (h : But F w w') {B e s n : Nat} {v : Value} {xs : List Value} (ho : w.ownsRow B e s v n xs) (hn : ∀ q, v.ownBlock = some q → ¬ F q) : w'.ownsRow B e s v n xs :=
  own_stays ho fun q hq => h.block q (own_lt ho q hq) (hn q hq)
/-- copy(dst, src) of slices into a block of its own, as one step of a region that draws: only that block has turned. -/
theorem step_copy_but {P : Program} {ops : Array Oper} {o : Oper} {a : Act} {w : World} {K : Act → World → Prop} {Q : Exit → Act → World → Prop} {E : Prop} (hgd : o.guard = none) (d s : Operand) (dT sT : TypeId)
    (ho : o.op = .call { callee := .builtin .copy, args := #[d, s], argTypes := #[dT, sT] }) (elem : TypeId) (hu : P.underlying dT = some (.slice elem)) (hsz : (P.info? elem).map (·.size) = some 1)
    (dp sp : Option Addr) (dLen dCap sLen sCap : Nat) (hd : a.eval d = .slice dp dLen dCap) (hs : a.eval s = .slice sp sLen sCap)
    (g off : Nat) (cur : List Value) (t : TypeId) (hg : w.heap[g]? = some (.cells cur.toArray t (0, 0))) (cs : List Value) (hn : cs.length = Nat.min sLen dLen)
    (hpos : 0 < cs.length → dp = some ⟨g, off, none⟩ ∧ ∃ ad, sp = some ad ∧ ∀ j v, cs[j]? = some v → w.cell? (ad.add j) = some v)
    (hfit : off + cs.length ≤ cur.length) (h1 : ∀ v ∈ cs, v.oneCell' = true)
    (h : ∀ w', w'.heap[g]? = some (.cells (splice cur off cs).toArray t (0, 0)) → But (· = g) w w' → K (a.put o.dst (goInt cs.length)) w') :
    if Region.wanted o (yielded ops a.tmps) = true then Oper.wp P o a w K Q else E := by
  have hw : Region.wanted o (yielded ops a.tmps) = true := by simp [Region.wanted, hgd]
  rw [if_pos hw]
  by_cases h0 : cs.length = 0
  · obtain rfl : cs = [] := List.eq_nil_of_length_eq_zero h0
    have hrun := run_copy_none (P := P) w dT sT o.type elem dp sp dLen dCap sLen sCap hu hsz (by simpa using hn.symm)
    unfold Oper.wp
    simp [execOp, ho, resolve, invoke, builtin, hd, hs, hrun, Result.andThen]
    exact h w (by simpa [splice] using hg) (But.refl _ _)
  · obtain ⟨rfl, ad, rfl, hsrc⟩ := hpos (by omega)
    have hrun := run_copy_row (P := P) w dT sT o.type elem g off dLen dCap ad sLen sCap cur.toArray t cs hu hsz hg hn hsrc (by simpa using hfit) h1
    unfold Oper.wp
    simp [execOp, ho, resolve, invoke, builtin, hd, hs, hrun, Result.andThen]
    exact h _ (by simpa [splice] using setRow_heap w g _ _ t _ hg) (But.setRow _ _ _ rfl)

end Go.Proofs.YtoabboeongbloaaDoorW.But
/- head's maker: what its methods do once an error stands. -/
set_option linter.unusedVariables false
set_option linter.unusedSimpArgs false
namespace Go.Proofs.YtoabboeongbloaaDoor.Maker
open Go.RowKit Go.Proofs.YtoabboeongbloaaDoorW.PrintWords Go.Proofs.YtoabboeongbloaaDoorW.PrintLast Go.Proofs.YtoabboeongbloaaDoorW.PrintMore Go.Proofs.YtoabboeongbloaaDoorW.Mv Go.Proofs.YtoabboeongbloaaDoorW.HKit Go.Proofs.YtoabboeongbloaaDoor.HeadA
set_option maxHeartbeats 1000000 in
theorem text_stays (g : Nat) (e : Int) (sp : Value) (a b : Int) (t : ByteArray) (w : World) (he : ¬ e = 0) (hg : w.cell? ⟨g, 2, none⟩ = some (.int .u8 e)) :
    Calls Tryd.prog 24 #[.pointer (some ⟨g, 0, none⟩), .agg #[.int .i64 a, .int .i64 b], .string t] w fun e' w' => e' = .returned (.tuple #[]) ∧ Below w.heap.size w w' := by
  have d1 : (e != 0) = true := bne_iff_ne.2 he
  have hb := (Below.refl w.heap.size w).alloc (Nat.le_refl _) (.cells #[.int .i64 a, .int .i64 b] 60)
  have hc := pw_cell_below hb hg
  have HB := Lib.hid hb
  clear hb he hg
  go_enter Tryd.func24, Tryd.ntmps24
  go_wp2_with fail
  (try simp only [Exit.inBlock, Exit.then]); refine bodyPost_ret (results_none rfl _ _ _) rfl ?_
  exact ⟨rfl, HB.out⟩
theorem number_stays (g : Nat) (e fld n : Int) (w : World) (he : ¬ e = 0) (hg : w.cell? ⟨g, 2, none⟩ = some (.int .u8 e)) :
    Calls Tryd.prog 25 #[.pointer (some ⟨g, 0, none⟩), .int .i64 fld, .int .i64 n] w fun e' w' => e' = .returned (.tuple #[]) ∧ w' = w := by
  have d1 : (e != 0) = true := bne_iff_ne.2 he
  clear he
  go_enter Tryd.func25, Tryd.ntmps25
  go_wp2_with fail
  (try simp only [Exit.inBlock, Exit.then]); refine bodyPost_ret (results_none rfl _ _ _) rfl ?_
  exact ⟨rfl, rfl⟩
/-- A maker: block g holds it, block B its 512 bytes. -/
def MakerAt (w : World) (g B : Nat) (xs : List Int) (wide : Bool) (e : Int) : Prop :=
  w.heap[g]? = some (.cells #[.slice (some ⟨B, 0, none⟩) 512 512, .bool wide, .int .u8 e] 58 (0, 0)) ∧ w.heap[B]? = some (.cells (nums .u8 xs).toArray 5 (0, 0)) ∧ xs.length = 512 ∧ B ≠ g
theorem maker_cells {w : World} {g : Nat} {a b c : Value} {t : TypeId} (h : w.heap[g]? = some (.cells #[a, b, c] t (0, 0))) : w.cell? ⟨g, 0, none⟩ = some a ∧ w.cell? ⟨g, 1, none⟩ = some b ∧ w.cell? ⟨g, 2, none⟩ = some c := by
  refine ⟨?_, ?_, ?_⟩ <;> simp [World.cell?, h]
theorem maker_free {w : World} {g : Nat} {cs : Array Value} {t : TypeId} (h : w.heap[g]? = some (.cells cs t (0, 0))) (i : Nat) : w.frozen? ⟨g, i, none⟩ = false := by simp [World.frozen?, h]
theorem maker_below {w w' : World} {g B : Nat} {xs : List Int} {wide : Bool} {e : Int} (h : MakerAt w g B xs wide e) (hb : Below w.heap.size w w') : MakerAt w' g B xs wide e := by
  obtain ⟨h1, h2, h3⟩ := h
  have l1 : g < w.heap.size := by
    by_cases hl : g < w.heap.size
    · exact hl
    · rw [Array.getElem?_eq_none (by omega)] at h1; cases h1
  have l2 : B < w.heap.size := by
    by_cases hl : B < w.heap.size
    · exact hl
    · rw [Array.getElem?_eq_none (by omega)] at h2; cases h2
  exact ⟨(hb.block _ l1).trans h1, (hb.block _ l2).trans h2, h3⟩
theorem maker_code {w : World} {g B : Nat} {xs : List Int} {wide : Bool} {e : Int} (h : MakerAt w g B xs wide e) (u : Int) : MakerAt (w.setCell ⟨g, 2, none⟩ (.int .u8 u)) g B xs wide u := by
  obtain ⟨h1, h2, h3, h4⟩ := h
  refine ⟨?_, ?_, h3, h4⟩
  · simp [World.setCell, h1, Array.getElem?_modify]
  · have : ¬ g = B := fun h => h4 h.symm
    simp [World.setCell, Array.getElem?_modify, this, h2]
set_option maxHeartbeats 1000000 in
theorem text_fails (g B base : Nat) (xs : List Int) (wide : Bool) (a b r2 : Int) (t : ByteArray) (w : World) (ht : t.size ≤ 140737488351232) (hm : MakerAt w g B xs wide 0) (hg : base ≤ g) (hp : (Txt.putOf t b).2 = r2) (h0 : ¬ r2 = 0) (hbs : base ≤ w.heap.size) :
    Calls Tryd.prog 24 #[.pointer (some ⟨g, 0, none⟩), .agg #[.int .i64 a, .int .i64 b], .string t] w fun e' w' => e' = .returned (.tuple #[]) ∧ MakerAt w' g B xs wide r2 ∧ Below base w w' := by
  have hb := (Below.refl w.heap.size w).alloc (Nat.le_refl _) (.cells #[.int .i64 a, .int .i64 b] 60)
  have hm1 := maker_below hm hb
  obtain ⟨q0, q1, q2⟩ := maker_cells hm1.1
  have HB := Lib.hid hb
  have HM := Lib.hid hm1
  have HP := Lib.hid hp
  have d2 : (r2 == 0) = false := beq_eq_false_iff_ne.2 h0
  have hput := Txt.put_calls t b (w.alloc (.cells #[.int .i64 a, .int .i64 b] 60)) ht
  rw [HP.out] at hput
  have HPUT := Lib.hid hput
  clear hb hm hm1 hp h0 hput
  go_enter Tryd.func24, Tryd.ntmps24
  go_wp2_with fail
  (with_reducible refine HPUT.out.mono ?_)
  rintro e w1 ⟨v1, rfl, hR, hb1⟩
  have HM1 := Lib.hid (maker_below HM.out hb1)
  have HB1 := Lib.hid (HB.out.trans (hb1.mono HB.out.size))
  clear hb1 HM HB HPUT q0 q1 q2
  obtain ⟨q0, q1, q2⟩ := maker_cells HM1.out.1
  have hfz : w1.frozen? ⟨g, 2, none⟩ = false := maker_free HM1.out.1 2
  have HM2 := Lib.hid (maker_code HM1.out r2)
  obtain ⟨k0, k1, k2⟩ := maker_cells HM2.out.1
  have HB2 := Lib.hid (((show Below base w (w1.setCell ⟨g, 2, none⟩ (.int .u8 r2)) from (HB1.out.mono hbs).setCell hg _)))
  go_wp2_with fail
  all_goals exact bodyPost_end (results_none rfl _ _ _) rfl ⟨rfl, HM2.out, HB2.out⟩
end Go.Proofs.YtoabboeongbloaaDoor.Maker
/- head's maker: what its methods do while no error stands. -/
set_option linter.unusedVariables false
set_option linter.unusedSimpArgs false
namespace Go.Proofs.YtoabboeongbloaaDoor.Maker
open Go.RowKit Go.Proofs.YtoabboeongbloaaDoorW.PrintWords Go.Proofs.YtoabboeongbloaaDoorW.PrintLast Go.Proofs.YtoabboeongbloaaDoorW.PrintMore Go.Proofs.YtoabboeongbloaaDoorW.Mv Go.Proofs.YtoabboeongbloaaDoorW.HKit Go.Proofs.YtoabboeongbloaaDoorW.But Go.Proofs.YtoabboeongbloaaDoor.HeadA
theorem splice_nums (cur ys : List Int) (f : Nat) : splice (nums .u8 cur) f (nums .u8 ys) = nums .u8 (splice cur f ys) := by
  unfold splice nums
  simp
theorem one_nums (ys : List Int) : ∀ v ∈ nums .u8 ys, v.oneCell' = true := by
  intro v hv
  simp only [nums, List.mem_map] at hv
  obtain ⟨q, _, rfl⟩ := hv
  rfl
/-- The cells that a row's C tells. -/
theorem C_src {w : World} {A : Option Addr} {n : Nat} {ys : List Int} (h : Kd.C (Kd.int .u8) w A n ys) (h0 : 0 < ys.length) : ∃ ad, A = some ad ∧ ∀ (j : Nat) (v : Value), (nums .u8 ys)[j]? = some v → w.cell? (ad.add j) = some v := by
  have hr := Kd.reads_of_C (enc := Value.int .u8) (d := (0 : Int)) (h1 := fun _ => rfl) h
  obtain ⟨hl, _, hc⟩ := hr
  obtain ⟨ad, hA, hcc⟩ := hc (by omega)
  refine ⟨ad, hA, fun j v hj => ?_⟩
  have hjl : j < ys.length := by
    by_cases hh : j < ys.length
    · exact hh
    · rw [List.getElem?_eq_none (by simp [nums]; omega)] at hj; cases hj
  rw [hcc j (by omega)]
  simp only [nums, List.getElem?_map, List.getElem?_eq_getElem hjl, Option.map_some, Option.some.injEq] at hj
  rw [← hj]
  simp [List.getD, hjl]
theorem maker_but {F : Nat → Prop} {w w' : World} {g B : Nat} {xs : List Int} {wide : Bool} {e : Int} (h : MakerAt w g B xs wide e) (hb : But F w w') (hg : ¬ F g) (hB : ¬ F B) : MakerAt w' g B xs wide e := by
  obtain ⟨h1, h2, h3⟩ := h
  exact ⟨hb.heap h1 hg, hb.heap h2 hB, h3⟩
theorem maker_row {w w' : World} {g B : Nat} {xs ys : List Int} {wide : Bool} {e : Int} (h : MakerAt w g B xs wide e) (hb : But (· = B) w w') (hB : w'.heap[B]? = some (.cells (nums .u8 ys).toArray 5 (0, 0))) (hl : ys.length = 512) : MakerAt w' g B ys wide e := by
  obtain ⟨h1, h2, h3, h4⟩ := h
  exact ⟨hb.heap h1 (fun h => h4 h.symm), hB, hl, h4⟩
/-- The maker's blocks. -/
def MkF (g B : Nat) : Nat → Prop := fun k => k = g ∨ k = B
theorem maker_lt {w : World} {g B : Nat} {xs : List Int} {wide : Bool} {e : Int} (h : MakerAt w g B xs wide e) : g < w.heap.size ∧ B < w.heap.size := by
  obtain ⟨h1, h2, h3⟩ := h
  refine ⟨?_, ?_⟩
  · by_cases hl : g < w.heap.size
    · exact hl
    · rw [Array.getElem?_eq_none (by omega)] at h1; cases h1
  · by_cases hl : B < w.heap.size
    · exact hl
    · rw [Array.getElem?_eq_none (by omega)] at h2; cases h2
set_option maxHeartbeats 1000000 in
set_option maxRecDepth 100000 in
theorem text_writes (g B : Nat) (xs ys : List Int) (wide : Bool) (f s : Nat) (t : ByteArray) (w : World) (ht : t.size ≤ 140737488351232) (hm : MakerAt w g B xs wide 0) (hp : Txt.putOf t s = (ys, 0)) (hys : ys.length = s) (hfs : f + s < 512) :
    Calls Tryd.prog 24 #[.pointer (some ⟨g, 0, none⟩), .agg #[.int .i64 f, .int .i64 s], .string t] w fun e' w' => e' = .returned (.tuple #[]) ∧ MakerAt w' g B (splice xs f ys) wide 0 ∧ But (MkF g B) w w' := by
  have hb := (Below.refl w.heap.size w).alloc (Nat.le_refl _) (.cells #[.int .i64 f, .int .i64 s] 60)
  have hm1 := maker_below hm hb
  obtain ⟨q0, q1, q2⟩ := maker_cells hm1.1
  have hput := Txt.put_calls t s (w.alloc (.cells #[.int .i64 f, .int .i64 s] 60)) ht
  rw [hp] at hput
  have hsp : (w.alloc (.cells #[.int .i64 f, .int .i64 s] 60)).heap[w.heap.size]? = some (.cells #[.int .i64 f, .int .i64 s] 60 (0, 0)) := heap_alloc_new w _
  have HSP := Lib.hid hsp
  have HB := Lib.hid (But.of_below (MkF g B) hb)
  have HM := Lib.hid hm1
  have HYS := Lib.hid hys
  have HLG := Lib.hid (maker_lt hm)
  have HFS := Lib.hid hfs
  have HPUT := Lib.hid hput
  clear hb hm hm1 hp hput hsp hys hfs
  go_enter Tryd.func24, Tryd.ntmps24
  go_wp2_with fail
  (with_reducible refine HPUT.out.mono ?_)
  rintro e w1 ⟨v1, rfl, hR, hb1⟩
  obtain ⟨A1, c1, rfl, hc1, hC1⟩ := Kd.R_reads hR
  have HM1 := Lib.hid (maker_below HM.out hb1)
  have HB1 := Lib.hid (HB.out.trans (But.of_below (MkF g B) hb1))
  have HSP1 := Lib.hid ((But.of_below (fun _ => False) hb1).heap HSP.out (fun h => h))
  have HR := Lib.hid hR
  clear hb1 HM HB HPUT q0 q1 q2 HSP hR hC1
  obtain ⟨q0, q1, q2⟩ := maker_cells HM1.out.1
  have hfz : w1.frozen? ⟨g, 2, none⟩ = false := maker_free HM1.out.1 2
  have HM2 := Lib.hid (maker_code HM1.out 0)
  obtain ⟨k0, k1, k2⟩ := maker_cells HM2.out.1
  have hB2 : But (MkF g B) w1 (w1.setCell ⟨g, 2, none⟩ (.int .u8 0)) := But.setCell _ _ _ (Or.inl rfl)
  have HB2 := Lib.hid (HB1.out.trans hB2)
  have hlg : g < w.heap.size := HLG.out.1
  have hlB : B < w.heap.size := HLG.out.2
  have HSP2 := Lib.hid (hB2.heap HSP1.out (by rintro (h | h) <;> omega))
  have s0 : (w1.setCell ⟨g, 2, none⟩ (.int .u8 0)).cell? ⟨w.heap.size, 0, none⟩ = some (.int .i64 f) := by simp [World.cell?, HSP2.out]
  have s1 : (w1.setCell ⟨g, 2, none⟩ (.int .u8 0)).cell? ⟨w.heap.size, 1, none⟩ = some (.int .i64 s) := by simp [World.cell?, HSP2.out]
  have HC2 := Lib.hid (show Kd.C (Kd.int .u8) (w1.setCell ⟨g, 2, none⟩ (.int .u8 0)) A1 ys.length ys from (Kd.R_reads' (Kd.R_far (Kd.R_bound HR.out) (p := ⟨g, 2, none⟩) (fun k hk => by have h1 := hk.2.1; have h3 : (w.alloc (.cells #[.int .i64 f, .int .i64 s] 60)).heap.size = w.heap.size + 1 := (by simp); intro h2; rw [h3] at h1; have h4 : k = g := h2; omega) (.int .u8 0))).2.2)
  clear hB2 HB1 HSP1 HR HM1 hlg hlB
  go_wp2_with fail
  generalize w1.setCell ⟨g, 2, none⟩ (.int .u8 0) = w2 at *
  have HA := Lib.hid (show cutAt (some ⟨B, 0, none⟩) 512 f = some ⟨B, f, none⟩ by unfold cutAt; have := HFS.out; rw [if_neg (by omega)]; simp [Addr.add]; try omega)
  go_region_law (first | ((refine goes_ Tryd.func36 (by kernel_rfl) rfl #[.agg #[.int .i64 (f : Int), .int .i64 (s : Int)], .slice (some ⟨B, 0, none⟩) 512 512] (by simp [Region.wanted]) rfl rfl (by simp [Act.eval, Act.put]) ?_); (refine (of_calls (some ⟨B, 0, none⟩) 512 512 f s _ (by have := HFS.out; omega) (by omega) (by omega)).mono ?_); (rintro e w4 ⟨rfl, hw4⟩); (have hb5 : Below w2.drew.heap.size w2.drew w4 := by (rw [hw4]; exact ((Below.refl _ w2.drew).alloc (Nat.le_refl _) _))); (have hb4 : Below w2.heap.size w2 w4 := ⟨hb5.os, hb5.tape, hb5.output, hb5.size, hb5.block⟩); (have HB4 := Lib.hid hb4); (clear hw4 hb4 hb5); (refine ⟨_, rfl, ?_⟩)) | (refine step_copy_but rfl (.tmp 32) (.tmp 33) 25 25 rfl 5 Tryd.underlying25 (by kernel_rfl) (some ⟨B, f, none⟩) A1 s (512 - f) ys.length c1 (by simp [Act.eval, Act.put]; exact HA.out) (by simp [Act.eval, Act.put]) B f (nums .u8 xs) 5 (maker_below HM2.out HB4.out).2.1 (nums .u8 ys) (by simp [nums, HYS.out]) (fun h0 => ⟨rfl, C_src (Kd.C_below HC2.out HB4.out) (by simpa [nums] using h0)⟩) (by have h1 := HYS.out; have h2 := HFS.out; have h3 := HM2.out.2.2.1; simp [nums]; omega) (one_nums ys) (fun w5 h5 hb5 => ?_)))
  all_goals
    have h3 := HM2.out.2.2.1
    have hfin := maker_row (maker_below HM2.out HB4.out) hb5 (by rw [h5, splice_nums]) (show (splice xs f ys).length = 512 by unfold splice; simp; have h1 := HYS.out; have h2 := HFS.out; omega)
    have HFIN := Lib.hid hfin
    have HBF := Lib.hid ((HB2.out.trans (But.of_below _ HB4.out)).trans (hb5.mono (G := MkF g B) (fun k h => Or.inr h)))
    clear hfin h5 hb5 h3
    go_wp2_with fail
    all_goals exact bodyPost_end (results_none rfl _ _ _) rfl ⟨rfl, HFIN.out, HBF.out⟩
set_option maxHeartbeats 1000000 in
theorem text_refused (g B : Nat) (xs : List Int) (wide : Bool) (a b r2 : Int) (t : ByteArray) (w : World) (ht : t.size ≤ 140737488351232) (hm : MakerAt w g B xs wide 0) (hp : (Txt.putOf t b).2 = r2) (h0 : ¬ r2 = 0) :
    Calls Tryd.prog 24 #[.pointer (some ⟨g, 0, none⟩), .agg #[.int .i64 a, .int .i64 b], .string t] w fun e' w' => e' = .returned (.tuple #[]) ∧ MakerAt w' g B xs wide r2 ∧ But (MkF g B) w w' := by
  have hb := (Below.refl w.heap.size w).alloc (Nat.le_refl _) (.cells #[.int .i64 a, .int .i64 b] 60)
  have hm1 := maker_below hm hb
  obtain ⟨q0, q1, q2⟩ := maker_cells hm1.1
  have HB := Lib.hid (But.of_below (MkF g B) hb)
  have HM := Lib.hid hm1
  have d2 : (r2 == 0) = false := beq_eq_false_iff_ne.2 h0
  have hput := Txt.put_calls t b (w.alloc (.cells #[.int .i64 a, .int .i64 b] 60)) ht
  rw [hp] at hput
  have HPUT := Lib.hid hput
  clear hb hm hm1 hp h0 hput
  go_enter Tryd.func24, Tryd.ntmps24
  go_wp2_with fail
  (with_reducible refine HPUT.out.mono ?_)
  rintro e w1 ⟨v1, rfl, hR, hb1⟩
  have HM1 := Lib.hid (maker_below HM.out hb1)
  have HB1 := Lib.hid (HB.out.trans (But.of_below (MkF g B) hb1))
  clear hb1 HM HB HPUT q0 q1 q2
  obtain ⟨q0, q1, q2⟩ := maker_cells HM1.out.1
  have hfz : w1.frozen? ⟨g, 2, none⟩ = false := maker_free HM1.out.1 2
  have HM2 := Lib.hid (maker_code HM1.out r2)
  obtain ⟨k0, k1, k2⟩ := maker_cells HM2.out.1
  have hB2 : But (MkF g B) w1 (w1.setCell ⟨g, 2, none⟩ (.int .u8 r2)) := But.setCell _ _ _ (Or.inl rfl)
  have HB2 := Lib.hid (HB1.out.trans hB2)
  clear hB2
  go_wp2_with fail
  all_goals exact bodyPost_end (results_none rfl _ _ _) rfl ⟨rfl, HM2.out, HB2.out⟩
/-- What maker.text makes of the bytes and the code. -/
def mText (st : List Int × Int) (f s : Nat) (t : ByteArray) : List Int × Int := if st.2 = 0 then (if (Txt.putOf t s).2 = 0 then (splice st.1 f (Txt.putOf t s).1, 0) else (st.1, (Txt.putOf t s).2)) else st
theorem putOf_len (t : ByteArray) (s : Nat) (h : (Txt.putOf t s).2 = 0) : (Txt.putOf t s).1.length = s := by
  unfold Txt.putOf at *
  split
  · rename_i h1; rw [if_pos h1] at h; cases h
  · rename_i h1; rw [if_neg h1] at h
    split
    · rename_i h2; rw [if_pos h2] at h; cases h
    · rename_i h2; rw [if_neg h2] at h
      split
      · rename_i h3; rw [if_pos h3] at h; cases h
      · rw [Int.toNat_natCast]; exact fieldOf_length _ _
theorem text_calls (g B : Nat) (st : List Int × Int) (wide : Bool) (f s : Nat) (t : ByteArray) (w : World) (ht : t.size ≤ 140737488351232) (hm : MakerAt w g B st.1 wide st.2) (hfs : f + s < 512) :
    Calls Tryd.prog 24 #[.pointer (some ⟨g, 0, none⟩), .agg #[.int .i64 f, .int .i64 s], .string t] w fun e' w' => e' = .returned (.tuple #[]) ∧ MakerAt w' g B (mText st f s t).1 wide (mText st f s t).2 ∧ But (MkF g B) w w' := by
  obtain ⟨xs, e⟩ := st
  unfold mText
  by_cases he : e = 0
  · subst he
    by_cases hp : (Txt.putOf t s).2 = 0
    · rw [if_pos rfl, if_pos hp]
      exact text_writes g B xs _ wide f s t w ht hm (Prod.ext rfl hp) (putOf_len t s hp) hfs
    · rw [if_pos rfl, if_neg hp]
      exact text_refused g B xs wide f s _ t w ht hm rfl hp
  · rw [if_neg he]
    refine (text_stays g e .nilIface f s t w he (maker_cells hm.1).2.2).mono ?_
    rintro e' w' ⟨rfl, hb⟩
    exact ⟨rfl, maker_below hm hb, But.of_below _ hb⟩
end Go.Proofs.YtoabboeongbloaaDoor.Maker
/- head's maker: its numbers. -/
set_option linter.unusedVariables false
set_option linter.unusedSimpArgs false
namespace Go.Proofs.YtoabboeongbloaaDoor.Maker
open Go.RowKit Go.Proofs.YtoabboeongbloaaDoorW.PrintWords Go.Proofs.YtoabboeongbloaaDoorW.PrintLast Go.Proofs.YtoabboeongbloaaDoorW.PrintMore Go.Proofs.YtoabboeongbloaaDoorW.Mv Go.Proofs.YtoabboeongbloaaDoorW.HKit Go.Proofs.YtoabboeongbloaaDoorW.But Go.Proofs.YtoabboeongbloaaDoor.HeadA Go.Proofs.YtoabboeongbloaaDoor.PHeadGets
set_option maxHeartbeats 1000000 in
theorem number_neg (g B : Nat) (xs : List Int) (wide : Bool) (fld n r1 r2 : Int) (r3 : Bool) (w : World) (hm : MakerAt w g B xs wide 0) (hf : head_number.f fld = some (r1, r2, r3)) (h0 : n < 0) (h8 : ¬ fld = 8) :
    Calls Tryd.prog 25 #[.pointer (some ⟨g, 0, none⟩), .int .i64 fld, .int .i64 n] w fun e' w' => e' = .returned (.tuple #[]) ∧ MakerAt w' g B xs wide 5 ∧ But (MkF g B) w w' := by
  have HN := Lib.hid (head_number.calls fld r1 r2 r3 w hf)
  obtain ⟨q0, q1, q2⟩ := maker_cells hm.1
  have d2 : decide (n < 0) = true := decide_eq_true h0
  have d3 : (fld != 8) = true := bne_iff_ne.2 h8
  have HM := Lib.hid hm
  clear hf hm h0 h8
  go_enter Tryd.func25, Tryd.ntmps25
  go_wp2_with fail
  (with_reducible refine HN.out.mono ?_)
  rintro e w1 ⟨rfl, hb1⟩
  have hb2 := ((Below.refl w1.heap.size w1).alloc (Nat.le_refl _) (.cells #[.int .i64 r1, .int .i64 r2] 60))
  have hm1 := maker_below (maker_below HM.out hb1) hb2
  have hB := (But.of_below (MkF g B) hb1).trans (But.of_below (MkF g B) hb2)
  obtain ⟨p0, p1, p2⟩ := maker_cells hm1.1
  have hfz : (w1.alloc (.cells #[.int .i64 r1, .int .i64 r2] 60)).frozen? ⟨g, 2, none⟩ = false := maker_free hm1.1 2
  have HM2 := Lib.hid (maker_code hm1 5)
  have HB2 := Lib.hid (hB.trans (But.setCell (F := MkF g B) _ ⟨g, 2, none⟩ (.int .u8 5) (Or.inl rfl)))
  clear hb1 hb2 hm1 hB HN HM q0 q1 q2
  go_wp2_with fail
  (try simp only [Exit.inBlock, Exit.then]); refine bodyPost_ret (results_none rfl _ _ _) rfl ?_
  exact ⟨rfl, HM2.out, HB2.out⟩
set_option maxHeartbeats 2000000 in
set_option maxRecDepth 100000 in
theorem number_refused (k g B : Nat) (xs ys : List Int) (wide : Bool) (fld n c : Int) (f s : Nat) (r3 : Bool) (w : World) (hm : MakerAt w g B xs wide 0) (hf : head_number.f fld = some ((f : Int), (s : Int), r3)) (h0 : n < 0 → fld = 8) (hp : num_Put.f k n s wide = some (ys, c)) (hc : ¬ c = 0) :
    Calls Tryd.prog 25 #[.pointer (some ⟨g, 0, none⟩), .int .i64 fld, .int .i64 n] w fun e' w' => e' = .returned (.tuple #[]) ∧ MakerAt w' g B xs wide c ∧ But (MkF g B) w w' := by
  have HN := Lib.hid (head_number.calls fld f s r3 w hf)
  obtain ⟨q0, q1, q2⟩ := maker_cells hm.1
  have HM := Lib.hid hm
  have HP := Lib.hid hp
  have d5 : (c == 0) = false := beq_eq_false_iff_ne.2 hc
  have HD : Hid ((decide (n < 0) = true ∧ (fld != 8) = false) ∨ decide (n < 0) = false) := Lib.hid (by
    by_cases h : n < 0
    · exact .inl ⟨decide_eq_true h, bne_eq_false_iff_eq.2 (h0 h)⟩
    · exact .inr (decide_eq_false h))
  clear hf hm h0 hp hc
  go_enter Tryd.func25, Tryd.ntmps25
  go_wp2_with fail
  (with_reducible refine HN.out.mono ?_)
  rintro e w1 ⟨rfl, hb1⟩
  have hb2 := ((Below.refl w1.heap.size w1).alloc (Nat.le_refl _) (.cells #[.int .i64 (f : Int), .int .i64 (s : Int)] 60))
  have hm1 := maker_below (maker_below HM.out hb1) hb2
  have hB := (But.of_below (MkF g B) hb1).trans (But.of_below (MkF g B) hb2)
  have hsp : (w1.alloc (.cells #[.int .i64 (f : Int), .int .i64 (s : Int)] 60)).heap[w1.heap.size]? = some (.cells #[.int .i64 (f : Int), .int .i64 (s : Int)] 60 (0, 0)) := heap_alloc_new w1 _
  obtain ⟨p0, p1, p2⟩ := maker_cells hm1.1
  have HM1 := Lib.hid hm1
  have HB1 := Lib.hid hB
  have HSP := Lib.hid hsp
  clear hb1 hb2 hm1 hB HN HM q0 q1 q2 hsp
  go_upto_region 2 with (fail)
  obtain ⟨wA, hwA⟩ : ∃ wA, wA = w1.alloc (.cells #[.int .i64 (f : Int), .int .i64 (s : Int)] 60) := ⟨_, rfl⟩
  rw [← hwA] at p0 p1 p2 HM1 HB1 HSP ⊢
  have s1 : wA.cell? ⟨w1.heap.size, 1, none⟩ = some (.int .i64 s) := by simp [World.cell?, HSP.out]
  clear hwA
  rcases HD.out with ⟨d2, d3⟩ | d2
  all_goals clear HD
  all_goals go_upto_region 5 with (fail)
  all_goals go_region_law ((refine goes_ Tryd.func46 (by kernel_rfl) rfl #[.int .i64 n, .int .i64 (s : Int), .bool wide] (by simp [Region.wanted]) rfl rfl (by simp [Act.eval, Act.put]) ?_); (refine (num_Put.calls k n s wide ys c wA.drew HP.out).mono ?_); (rintro e w4 ⟨v4, rfl, hR4, hb5⟩); (have hb4 : Below wA.heap.size wA w4 := ⟨hb5.os, hb5.tape, hb5.output, hb5.size, hb5.block⟩); (have HB4 := Lib.hid hb4); (have HM4 := Lib.hid (maker_below HM1.out hb4)); (have hfz : w4.frozen? ⟨g, 2, none⟩ = false := maker_free HM4.out.1 2); (have m0 := (maker_cells HM4.out.1).2.2); (clear hb4 hb5 hR4); (refine ⟨_, rfl, ?_⟩))
  all_goals
    have HM5 := Lib.hid (maker_code HM4.out c)
    have hB5 := (HB1.out.trans (But.of_below (MkF g B) HB4.out)).trans (But.setCell (F := MkF g B) w4 ⟨g, 2, none⟩ (.int .u8 c) (Or.inl rfl))
    have HB5 := Lib.hid hB5
    have k2 := (maker_cells HM5.out.1).2.2
    clear hB5 m0 hfz
    go_wp2_with fail
    all_goals exact bodyPost_end (results_none rfl _ _ _) rfl ⟨rfl, HM5.out, HB5.out⟩
set_option maxHeartbeats 2000000 in
set_option maxRecDepth 100000 in
theorem number_writes (k g B : Nat) (xs ys : List Int) (wide : Bool) (fld n : Int) (f s : Nat) (r3 : Bool) (w : World) (hm : MakerAt w g B xs wide 0) (hf : head_number.f fld = some ((f : Int), (s : Int), r3)) (h0 : n < 0 → fld = 8) (hp : num_Put.f k n s wide = some (ys, 0)) (hys : ys.length = s) (hfs : f + s < 512) :
    Calls Tryd.prog 25 #[.pointer (some ⟨g, 0, none⟩), .int .i64 fld, .int .i64 n] w fun e' w' => e' = .returned (.tuple #[]) ∧ MakerAt w' g B (splice xs f ys) wide 0 ∧ But (MkF g B) w w' := by
  have HN := Lib.hid (head_number.calls fld f s r3 w hf)
  obtain ⟨q0, q1, q2⟩ := maker_cells hm.1
  have HM := Lib.hid hm
  have HP := Lib.hid hp
  have HYS := Lib.hid hys
  have HFS := Lib.hid hfs
  have HD : Hid ((decide (n < 0) = true ∧ (fld != 8) = false) ∨ decide (n < 0) = false) := Lib.hid (by
    by_cases h : n < 0
    · exact .inl ⟨decide_eq_true h, bne_eq_false_iff_eq.2 (h0 h)⟩
    · exact .inr (decide_eq_false h))
  clear hf hm h0 hp hys hfs
  go_enter Tryd.func25, Tryd.ntmps25
  go_wp2_with fail
  (with_reducible refine HN.out.mono ?_)
  rintro e w1 ⟨rfl, hb1⟩
  have hb2 := ((Below.refl w1.heap.size w1).alloc (Nat.le_refl _) (.cells #[.int .i64 (f : Int), .int .i64 (s : Int)] 60))
  have hm1 := maker_below (maker_below HM.out hb1) hb2
  have hB := (But.of_below (MkF g B) hb1).trans (But.of_below (MkF g B) hb2)
  have HNE := Lib.hid (show w1.heap.size ≠ g ∧ w1.heap.size ≠ B by have h1 := maker_lt HM.out; have h2 := hb1.size; omega)
  have hsp : (w1.alloc (.cells #[.int .i64 (f : Int), .int .i64 (s : Int)] 60)).heap[w1.heap.size]? = some (.cells #[.int .i64 (f : Int), .int .i64 (s : Int)] 60 (0, 0)) := heap_alloc_new w1 _
  obtain ⟨p0, p1, p2⟩ := maker_cells hm1.1
  have HM1 := Lib.hid hm1
  have HB1 := Lib.hid hB
  have HSP := Lib.hid hsp
  clear hb1 hb2 hm1 hB HN HM q0 q1 q2 hsp
  go_upto_region 2 with (fail)
  obtain ⟨wA, hwA⟩ : ∃ wA, wA = w1.alloc (.cells #[.int .i64 (f : Int), .int .i64 (s : Int)] 60) := ⟨_, rfl⟩
  rw [← hwA] at p0 p1 p2 HM1 HB1 HSP ⊢
  have s1 : wA.cell? ⟨w1.heap.size, 1, none⟩ = some (.int .i64 s) := by simp [World.cell?, HSP.out]
  clear hwA
  rcases HD.out with ⟨d2, d3⟩ | d2
  all_goals clear HD
  all_goals go_upto_region 5 with (fail)
  all_goals go_region_law ((refine goes_ Tryd.func46 (by kernel_rfl) rfl #[.int .i64 n, .int .i64 (s : Int), .bool wide] (by simp [Region.wanted]) rfl rfl (by simp [Act.eval, Act.put]) ?_); (refine (num_Put.calls k n s wide ys 0 wA.drew HP.out).mono ?_); (rintro e w4 ⟨v4, rfl, hR4, hb5⟩); (have hb4 : Below wA.heap.size wA w4 := ⟨hb5.os, hb5.tape, hb5.output, hb5.size, hb5.block⟩); (have HB4 := Lib.hid hb4); (have HM4 := Lib.hid (maker_below HM1.out hb4)); (have hfz : w4.frozen? ⟨g, 2, none⟩ = false := maker_free HM4.out.1 2); (have m0 := (maker_cells HM4.out.1).2.2); (have HR4 := Lib.hid hR4); (clear hb4 hb5 hR4); (refine ⟨_, rfl, ?_⟩))
  all_goals
    obtain ⟨A1, c1, rfl, hc1, hC1⟩ := Kd.R_reads HR4.out
    have hszA : wA.drew.heap.size = wA.heap.size := rfl
    have hlt := maker_lt HM1.out
    have HM5 := Lib.hid (maker_code HM4.out 0)
    have HB5 := Lib.hid ((HB1.out.trans (But.of_below (MkF g B) HB4.out)).trans (But.setCell (F := MkF g B) w4 ⟨g, 2, none⟩ (.int .u8 0) (Or.inl rfl)))
    have HC5 := Lib.hid (show Kd.C (Kd.int .u8) (w4.setCell ⟨g, 2, none⟩ (.int .u8 0)) A1 ys.length ys from (Kd.R_reads' (Kd.R_far (Kd.R_bound HR4.out) (p := ⟨g, 2, none⟩) (fun k hk => by have h1 := hk.2.1; intro h2; have h4 : k = g := h2; omega) (.int .u8 0))).2.2)
    have hlw : w1.heap.size < wA.heap.size := by
      by_cases hl : w1.heap.size < wA.heap.size
      · exact hl
      · have := HSP.out; rw [Array.getElem?_eq_none (by omega)] at this; cases this
    have hspg : w1.heap.size ≠ g := HNE.out.1
    have hspB : w1.heap.size ≠ B := HNE.out.2
    have HSP5 := Lib.hid ((But.setCell (F := (· = g)) w4 ⟨g, 2, none⟩ (.int .u8 0) rfl).heap ((But.of_below (fun _ => False) HB4.out).heap HSP.out (fun h => h)) hspg)
    clear hC1 HR4 hlt hlw hspg hspB hszA HM4 m0 hfz HB1 HB4 HM1 p0 p1 p2 s1
    obtain ⟨k0, k1, k2⟩ := maker_cells HM5.out.1
    generalize w4.setCell ⟨g, 2, none⟩ (.int .u8 0) = w5 at *
    have s0 : w5.cell? ⟨w1.heap.size, 0, none⟩ = some (.int .i64 f) := by simp [World.cell?, HSP5.out]
    have s1 : w5.cell? ⟨w1.heap.size, 1, none⟩ = some (.int .i64 s) := by simp [World.cell?, HSP5.out]
    have HA := Lib.hid (show cutAt (some ⟨B, 0, none⟩) 512 f = some ⟨B, f, none⟩ by unfold cutAt; have := HFS.out; rw [if_neg (by omega)]; simp [Addr.add]; try omega)
    go_upto_region 7 with (fail)
    go_region_law (first | ((refine goes_ Tryd.func36 (by kernel_rfl) rfl #[.agg #[.int .i64 (f : Int), .int .i64 (s : Int)], .slice (some ⟨B, 0, none⟩) 512 512] (by simp [Region.wanted]) rfl rfl (by simp [Act.eval, Act.put]) ?_); (refine (of_calls (some ⟨B, 0, none⟩) 512 512 f s _ (by have := HFS.out; omega) (by omega) (by omega)).mono ?_); (rintro e w6 ⟨rfl, hw6⟩); (have hb5 : Below w5.drew.heap.size w5.drew w6 := by (rw [hw6]; exact ((Below.refl _ w5.drew).alloc (Nat.le_refl _) _))); (have hb4 : Below w5.heap.size w5 w6 := ⟨hb5.os, hb5.tape, hb5.output, hb5.size, hb5.block⟩); (have HB6 := Lib.hid hb4); (clear hw6 hb4 hb5); (refine ⟨_, rfl, ?_⟩)) | (refine step_copy_but rfl (.tmp 52) (.tmp 53) 25 25 rfl 5 Tryd.underlying25 (by kernel_rfl) (some ⟨B, f, none⟩) A1 s (512 - f) ys.length c1 (by simp [Act.eval, Act.put]; exact HA.out) (by simp [Act.eval, Act.put]) B f (nums .u8 xs) 5 (maker_below HM5.out HB6.out).2.1 (nums .u8 ys) (by simp [nums, HYS.out]) (fun h0 => ⟨rfl, C_src (Kd.C_below HC5.out HB6.out) (by simpa [nums] using h0)⟩) (by have h1 := HYS.out; have h2 := HFS.out; have h3 := HM5.out.2.2.1; simp [nums]; omega) (one_nums ys) (fun w7 h7 hb7 => ?_)))
    all_goals
      have h3 := HM5.out.2.2.1
      have hfin := maker_row (maker_below HM5.out HB6.out) hb7 (by rw [h7, splice_nums]) (show (splice xs f ys).length = 512 by unfold splice; simp; have h1 := HYS.out; have h2 := HFS.out; omega)
      have HFIN := Lib.hid hfin
      have HBF := Lib.hid ((HB5.out.trans (But.of_below _ HB6.out)).trans (hb7.mono (G := MkF g B) (fun k h => Or.inr h)))
      clear hfin h7 hb7 h3
      go_wp2_with fail
      all_goals exact bodyPost_end (results_none rfl _ _ _) rfl ⟨rfl, HFIN.out, HBF.out⟩
end Go.Proofs.YtoabboeongbloaaDoor.Maker
/- The bytes of any number in a field: over numbers and lists alone. -/
set_option linter.unusedVariables false
set_option linter.unusedSimpArgs false
namespace Go.Proofs.YtoabboeongbloaaDoor.NumP
open Go.RowKit Go.Proofs.YtoabboeongbloaaDoorW.PrintWords Go.Proofs.YtoabboeongbloaaDoorW.PrintLast Go.Proofs.YtoabboeongbloaaDoorW.PrintMore Go.Proofs.YtoabboeongbloaaDoor.PHeadGets
/-! ### Small words: numbers that fit, rounds, bytes of a cut -/
theorem w64 {n : Int} (h0 : -9223372036854775808 ≤ n) (h1 : n ≤ 9223372036854775807) : wrap64 n = n := by unfold wrap64; omega
theorem bt_nonneg (s : ByteArray) (i : Int) : 0 ≤ bt s i := (bt_range s i).1
theorem bt_le (s : ByteArray) (i : Int) : bt s i ≤ 255 := (bt_range s i).2
theorem bt_nat (s : ByteArray) (n : Nat) (h : n < s.size) : bt s (n : Int) = ((s[n]'h).toNat : Int) := by simp [bt, h]
theorem bt_out (s : ByteArray) (i : Int) (h : s.size ≤ i.toNat) : bt s i = 0 := by unfold bt; rw [dif_neg (by omega)]
theorem bt_extract (s : ByteArray) (m n : Nat) (i : Nat) (hi : m + i < n) (hn : n ≤ s.size) : bt (s.extract m n) (i : Int) = bt s ((m + i : Nat) : Int) := by
  have h1 : i < (s.extract m n).size := by rw [ByteArray.size_extract]; omega
  rw [bt_nat _ _ h1, bt_nat _ _ (by omega)]
  rw [ByteArray.getElem_extract]
theorem bytes_ext {a b : ByteArray} (hs : a.size = b.size) (h : ∀ i : Nat, i < a.size → bt a (i : Int) = bt b (i : Int)) : a = b := by
  apply ByteArray.ext_getElem hs
  intro i h1 h2
  have := h i h1
  rw [bt_nat _ _ h1, bt_nat _ _ h2] at this
  exact UInt8.toNat_inj.1 (by omega)
theorem toList_eq_nil (s : ByteArray) : s.toList = ([] : List UInt8) ↔ s.size = 0 := by
  rw [ByteArray.toList_eq]
  constructor
  · intro h
    have : s.data.toList.length = 0 := by rw [h]; rfl
    rwa [data_length] at this
  · intro h
    apply List.eq_nil_of_length_eq_zero
    rwa [data_length]
theorem toList_inj {a b : ByteArray} : a.toList = b.toList ↔ a = b := by
  constructor
  · intro h
    rw [ByteArray.toList_eq, ByteArray.toList_eq] at h
    exact ByteArray.ext (Array.toList_inj.1 h)
  · intro h; rw [h]
theorem wf_i64_bd {n : Int} (h : (Lit.int .i64 n).wf = true) : -9223372036854775808 ≤ n ∧ n ≤ 9223372036854775807 := by
  simp [Lit.wf, IntKind.min, IntKind.max, IntKind.signed, IntKind.bits] at h
  omega
theorem wf_u8_bd {n : Int} (h : (Lit.int .u8 n).wf = true) : 0 ≤ n ∧ n ≤ 255 := by
  simp [Lit.wf, IntKind.min, IntKind.max, IntKind.signed, IntKind.bits] at h
  omega
/-- Sums that fit (no equation with a wrap stays in a context: linear arithmetic would look into it). -/
theorem wadd1 (n : Nat) (h : n < 9223372036854775807) : wrap64 ((n : Int) + 1) = ((n + 1 : Nat) : Int) := by rw [w64 (by omega) (by omega)]; omega
theorem wadd4 (n : Nat) (h : n < 9223372036854775803) : wrap64 ((n : Int) + 4) = ((n + 4 : Nat) : Int) := by rw [w64 (by omega) (by omega)]; omega
theorem wsub1 (n : Nat) (h0 : 0 < n) (h : n < 9223372036854775807) : wrap64 ((n : Int) - 1) = ((n - 1 : Nat) : Int) := by rw [w64 (by omega) (by omega)]; omega
/-! ### What is put -/
/-- Digits, the highest first, so many. -/
def digs (b : Int) (n : Int) : Nat → List Int
  | 0 => []
  | w + 1 => digs b (n / b) w ++ [n % b]
theorem digs_len (b : Int) : ∀ (w : Nat) (n : Int), (digs b n w).length = w
  | 0, _ => rfl
  | w + 1, n => by unfold digs; rw [List.length_append, digs_len b w]; rfl
def oct (n : Int) (w : Nat) : List Int := (digs 8 n w).map (· + 48)
theorem oct_len (n : Int) (w : Nat) : (oct n w).length = w := by unfold oct; rw [List.length_map, digs_len]
def mostOf (w : Nat) : Int := if w < 1 then 0 else if w > 20 then 9223372036854775807 else 8 ^ w - 1
def fitsB (n : Int) (w : Nat) : Bool := decide (8 < w) || (decide (-(256 ^ (w - 1)) ≤ n) && decide (n < 256 ^ (w - 1)))
def putOf (n : Int) (w : Nat) (wide : Bool) : List Int × Int :=
  if 0 ≤ n ∧ n ≤ mostOf (w - 1) then (oct n (w - 1) ++ [0], 0)
  else if 0 ≤ n ∧ n ≤ mostOf w then (oct n w, 0)
  else if wide = true ∧ fitsB n w = true then ((if n < 0 then 255 else 128) :: digs 256 n (w - 1), 0)
  else ([], 5)
theorem most_fin : ∀ w : Fin 33, num_Most.f ((w.val : Nat) : Int) = some (mostOf w.val) := by decide +kernel
theorem most_eq (w : Nat) (h : w ≤ 32) : num_Most.f (w : Int) = some (mostOf w) := most_fin ⟨w, by omega⟩
theorem and7 (x : Int) : Go.bits .and .i64 x 7 = x % 8 := by
  have h1 : (BitVec.ofInt 64 x).toNat = (x % 18446744073709551616).toNat := by rw [BitVec.toNat_ofInt]; rfl
  have h3 : (BitVec.ofInt 64 x &&& BitVec.ofInt 64 7).toNat = (x % 18446744073709551616).toNat % 8 := by
    rw [BitVec.toNat_and, h1]
    exact Nat.and_two_pow_sub_one_eq_mod _ 3
  show IntKind.i64.wrap ((BitVec.ofInt 64 x &&& BitVec.ofInt 64 7).toNat : Int) = _
  rw [h3, IntKind.wrap_i64]
  omega
theorem set_zero (m : Nat) (B : List Int) (v : Int) : (List.replicate (m + 1) (0 : Int) ++ B).set m v = List.replicate m 0 ++ (v :: B) := by
  rw [List.replicate_succ', List.append_assoc, List.set_append_right _ _ (by rw [List.length_replicate]; exact Nat.le_refl _), List.length_replicate, Nat.sub_self]
  rfl
theorem zeros_len (m : Nat) (B : List Int) : (List.replicate m (0 : Int) ++ B).length = m + B.length := by rw [List.length_append, List.length_replicate]
theorem wpred (m : Nat) (h : m < 9223372036854775807) : wrap64 ((m : Int) - 1) = (m : Int) - 1 := w64 (by omega) (by omega)
theorem octal_l0 : ∀ (m : Nat) (n : Int) (B : List Int), m ≤ 40 → Ev (fun k => num_octal.l0 k n (List.replicate m 0 ++ B) ((m : Int) - 1)) (oct n m ++ B)
  | 0, n, B, hm => by
    refine Ev.step (fun k => num_octal.l0.eq_2 _ _ _ k) ?_
    simp only [if_neg (show ¬ ((0 : Nat) : Int) - 1 ≥ 0 by omega), List.replicate_zero, List.nil_append]
    exact Ev.now _
  | m + 1, n, B, hm => by
    have ih := octal_l0 m (n / 8) ((n % 8 + 48) :: B) (by omega)
    refine Ev.step (fun k => num_octal.l0.eq_2 _ _ _ k) ?_
    have e1 : (((m + 1 : Nat) : Int) - 1) = (m : Int) := by omega
    rw [e1]
    simp only [if_pos (show (m : Int) ≥ 0 by omega), if_pos (show 0 ≤ (m : Int) by omega), zeros_len, if_pos (show (m : Int) < ((m + 1 + B.length : Nat) : Int) by omega), and7, Int.toNat_natCast, set_zero, wpred m (by omega)]
    have e2 : (48 + n % 8 % 256) % 256 = n % 8 + 48 := by omega
    have e3 : oct n (m + 1) ++ B = oct (n / 8) m ++ ((n % 8 + 48) :: B) := by
      unfold oct
      rw [digs, List.map_append, List.append_assoc]
      rfl
    rw [e2, e3]
    exact ih
theorem octal_ev (n : Int) (w : Nat) (h : w ≤ 32) : Ev (fun k => num_octal.f k n (w : Int)) (oct n w) := by
  unfold num_octal.f
  simp only [if_pos (show 0 ≤ (w : Int) by omega), Int.toNat_natCast, if_pos (show w ≤ 281474976710656 by omega), wpred w (by omega)]
  have := octal_l0 w n [] (by omega)
  rw [List.append_nil, List.append_nil] at this
  exact this
theorem fits_eq (n : Int) (w : Nat) (h0 : 2 ≤ w) (h : w ≤ 32) : num_fits.f n (w : Int) = some (fitsB n w) := by
  unfold num_fits.f fitsB
  by_cases h8 : 8 < w
  · rw [if_pos (by omega), decide_eq_true h8, Bool.true_or]
  · rw [if_neg (by omega), decide_eq_false h8, Bool.false_or, wpred w (by omega), w64 (n := 8 * ((w : Int) - 1)) (by omega) (by omega), if_pos (by omega)]
    have key : ∀ P : Int, 0 < P → shr .i64 n (8 * ((w : Int) - 1)) = n / P → (256 : Int) ^ (w - 1) = P → (if shr .i64 n (8 * ((w : Int) - 1)) = 0 then some true else some (shr .i64 n (8 * ((w : Int) - 1)) == (-1))) = some (decide (-(256 ^ (w - 1)) ≤ n) && decide (n < 256 ^ (w - 1))) := by
      intro P hP e1 e2
      rw [e1, e2]
      have hdm := Int.mul_ediv_add_emod n P
      have hm0 := Int.emod_nonneg n (show P ≠ 0 by omega)
      have hm1 := Int.emod_lt_of_pos n hP
      generalize n / P = q at *
      generalize n % P = r at *
      by_cases hq : q = 0
      · subst hq
        rw [if_pos rfl, Int.mul_zero] at *
        simp only [Option.some.injEq]
        symm
        rw [Bool.and_eq_true, decide_eq_true_eq, decide_eq_true_eq]
        omega
      · rw [if_neg hq]
        congr 1
        by_cases hq1 : q = -1
        · subst hq1
          have : P * -1 = -P := by omega
          rw [this] at hdm
          symm
          rw [show ((-1 : Int) == -1) = true from rfl, Bool.and_eq_true, decide_eq_true_eq, decide_eq_true_eq]
          omega
        · have : (q == -1) = false := beq_eq_false_iff_ne.2 hq1
          rw [this]
          symm
          rw [Bool.and_eq_false_iff, decide_eq_false_iff_not, decide_eq_false_iff_not]
          rcases (show q < 0 ∨ 0 ≤ q by omega) with hneg | hpos
          · left
            have : P * q ≤ P * -2 := Int.mul_le_mul_of_nonneg_left (by omega) (by omega)
            omega
          · right
            have : P * 1 ≤ P * q := Int.mul_le_mul_of_nonneg_left (by omega) (by omega)
            omega
    have hw : w = 2 ∨ w = 3 ∨ w = 4 ∨ w = 5 ∨ w = 6 ∨ w = 7 ∨ w = 8 := by omega
    rcases hw with rfl | rfl | rfl | rfl | rfl | rfl | rfl
    · exact key 256 (by omega) rfl rfl
    · exact key 65536 (by omega) rfl rfl
    · exact key 16777216 (by omega) rfl rfl
    · exact key 4294967296 (by omega) rfl rfl
    · exact key 1099511627776 (by omega) rfl rfl
    · exact key 281474976710656 (by omega) rfl rfl
    · exact key 72057594037927936 (by omega) rfl rfl
theorem put_l0 : ∀ (m : Nat) (n : Int) (B : List Int), m ≤ 40 → Ev (fun k => num_Put.l0 k n (0 :: (List.replicate m 0 ++ B)) (m : Int)) ((if n < 0 then 255 else 128) :: (digs 256 n m ++ B), 0)
  | 0, n, B, hm => by
    refine Ev.step (fun k => num_Put.l0.eq_2 _ _ _ k) ?_
    simp only [if_neg (show ¬ ((0 : Nat) : Int) > 0 by omega), List.replicate_zero, List.nil_append, if_pos (show (0 : Int) < ((0 :: B : List Int).length : Int) by rw [List.length_cons]; omega), Option.bind_some, Int.toNat_zero, List.set_cons_zero, digs]
    by_cases hn : n < 0
    · simp only [if_pos hn]; exact Ev.now _
    · simp only [if_neg hn]; exact Ev.now _
  | m + 1, n, B, hm => by
    have ih := put_l0 m (n / 256) ((n % 256) :: B) (by omega)
    refine Ev.step (fun k => num_Put.l0.eq_2 _ _ _ k) ?_
    have hl : (0 :: (List.replicate (m + 1) (0 : Int) ++ B)).length = m + 2 + B.length := by rw [List.length_cons, zeros_len]; omega
    have e4 : wrap64 (((m + 1 : Nat) : Int) - 1) = (m : Int) := by rw [w64 (by omega) (by omega)]; omega
    simp only [if_pos (show ((m + 1 : Nat) : Int) > 0 by omega), if_pos (show 0 ≤ ((m + 1 : Nat) : Int) by omega), hl, if_pos (show ((m + 1 : Nat) : Int) < ((m + 2 + B.length : Nat) : Int) by omega), Int.toNat_natCast, List.set_cons_succ, set_zero, e4]
    have e1 : (if n / 256 < 0 then (255 : Int) else 128) = if n < 0 then 255 else 128 := by
      by_cases hn : n < 0
      · rw [if_pos hn, if_pos (by omega)]
      · rw [if_neg hn, if_neg (by omega)]
    have e3 : digs 256 n (m + 1) ++ B = digs 256 (n / 256) m ++ ((n % 256) :: B) := by
      rw [digs, List.append_assoc]
      rfl
    rw [e1] at ih
    rw [e3]
    exact ih
theorem put_ev (n : Int) (w : Nat) (wide : Bool) (h0 : 2 ≤ w) (h : w ≤ 32) : Ev (fun k => num_Put.f k n (w : Int) wide) (putOf n w wide) := by
  have hp : wrap64 ((w : Int) - 1) = ((w - 1 : Nat) : Int) := wsub1 w (by omega) (by omega)
  have h2 : Ev (fun k => num_Put.j2 k n (w : Int) wide false) (if wide = true ∧ fitsB n w = true then ((if n < 0 then 255 else 128) :: digs 256 n (w - 1), 0) else ([], 5)) := by
    refine Ev.step (fun k => num_Put.j2.eq_2 _ _ _ _ k) ?_
    simp only [if_neg Bool.false_ne_true]
    cases wide with
    | false =>
      simp only [if_neg Bool.false_ne_true, false_and, if_false, Bool.false_eq_true]
      exact Ev.now _
    | true =>
      simp only [if_true, fits_eq n w h0 h, Option.bind_some, true_and]
      cases hf : fitsB n w with
      | false =>
        simp only [if_neg Bool.false_ne_true]
        exact Ev.now _
      | true =>
        simp only [if_true, if_pos (show 0 ≤ (w : Int) by omega), Int.toNat_natCast, if_pos (show w ≤ 281474976710656 by omega), hp]
        have := put_l0 (w - 1) n [] (by omega)
        rw [List.append_nil, List.append_nil, ← List.replicate_succ, show w - 1 + 1 = w by omega] at this
        exact this
  have h1 : Ev (fun k => num_Put.j1 k n (w : Int) wide false) (if 0 ≤ n ∧ n ≤ mostOf w then (oct n w, 0) else if wide = true ∧ fitsB n w = true then ((if n < 0 then 255 else 128) :: digs 256 n (w - 1), 0) else ([], 5)) := by
    refine Ev.step (fun k => num_Put.j1.eq_2 _ _ _ _ k) ?_
    simp only [if_neg Bool.false_ne_true]
    by_cases hn : 0 ≤ n
    · simp only [if_pos (show n ≥ 0 from hn), most_eq w h, Option.bind_some]
      by_cases hm : n ≤ mostOf w
      · simp only [decide_eq_true hm, if_pos (show 0 ≤ n ∧ n ≤ mostOf w from ⟨hn, hm⟩)]
        refine Ev.step (fun k => num_Put.j2.eq_2 _ _ _ _ k) ?_
        simp only [if_true]
        refine Ev.bind (octal_ev n w h) ?_
        exact Ev.now _
      · simp only [decide_eq_false hm, if_neg (show ¬ (0 ≤ n ∧ n ≤ mostOf w) from fun x => hm x.2)]
        exact h2
    · simp only [if_neg (show ¬ n ≥ 0 from hn), if_neg (show ¬ (0 ≤ n ∧ n ≤ mostOf w) from fun x => hn x.1)]
      exact h2
  unfold num_Put.f putOf
  simp only [if_neg (show ¬ (w : Int) < 2 by omega), decide_eq_false (show ¬ (w : Int) > 32 by omega)]
  refine Ev.step (fun k => num_Put.j0.eq_2 _ _ _ _ k) ?_
  simp only [if_neg Bool.false_ne_true, hp]
  by_cases hn : 0 ≤ n
  · simp only [if_pos (show n ≥ 0 from hn), most_eq (w - 1) (by omega), Option.bind_some]
    by_cases hm : n ≤ mostOf (w - 1)
    · simp only [decide_eq_true hm, if_pos (show 0 ≤ n ∧ n ≤ mostOf (w - 1) from ⟨hn, hm⟩)]
      refine Ev.step (fun k => num_Put.j1.eq_2 _ _ _ _ k) ?_
      simp only [if_true, hp]
      refine Ev.bind (octal_ev n (w - 1) (by omega)) ?_
      simp only [oct_len, if_pos (show w - 1 < 140737488355328 by omega)]
      exact Ev.now _
    · simp only [decide_eq_false hm, if_neg (show ¬ (0 ≤ n ∧ n ≤ mostOf (w - 1)) from fun x => hm x.2)]
      exact h1
  · simp only [if_neg (show ¬ n ≥ 0 from hn), if_neg (show ¬ (0 ≤ n ∧ n ≤ mostOf (w - 1)) from fun x => hn x.1)]
    exact h1
theorem put_no (n w : Int) (wide : Bool) (h : w < 2 ∨ 32 < w) : Ev (fun k => num_Put.f k n w wide) ([], 2) := by
  unfold num_Put.f
  have e : ∀ b : Bool, b = true → Ev (fun k => num_Put.j0 k n w wide b) ([], 2) := by
    intro b hb
    subst hb
    refine Ev.step (fun k => num_Put.j0.eq_2 _ _ _ _ k) ?_
    simp only [if_true]
    exact Ev.now _
  by_cases h2 : w < 2
  · simp only [if_pos h2]; exact e true rfl
  · simp only [if_neg h2]; exact e _ (decide_eq_true (by omega))
end Go.Proofs.YtoabboeongbloaaDoor.NumP
/- head's maker: its late fields. -/
set_option linter.unusedVariables false
set_option linter.unusedSimpArgs false
namespace Go.Proofs.YtoabboeongbloaaDoor.Maker
open Go.RowKit Go.Proofs.YtoabboeongbloaaDoorW.PrintWords Go.Proofs.YtoabboeongbloaaDoorW.PrintLast Go.Proofs.YtoabboeongbloaaDoorW.PrintMore Go.Proofs.YtoabboeongbloaaDoorW.Mv Go.Proofs.YtoabboeongbloaaDoorW.HKit Go.Proofs.YtoabboeongbloaaDoorW.But Go.Proofs.YtoabboeongbloaaDoor.HeadA Go.Proofs.YtoabboeongbloaaDoor.PHeadGets
/-- What maker.number makes of the bytes and the code. -/
def mNum (st : List Int × Int) (f s : Nat) (fld n : Int) (wide : Bool) : List Int × Int :=
  if st.2 = 0 then (if n < 0 ∧ ¬ fld = 8 then (st.1, 5) else if (NumP.putOf n s wide).2 = 0 then (splice st.1 f (NumP.putOf n s wide).1, 0) else (st.1, (NumP.putOf n s wide).2)) else st
theorem numput_len (n : Int) (s : Nat) (wide : Bool) (h2 : 2 ≤ s) (h : (NumP.putOf n s wide).2 = 0) : (NumP.putOf n s wide).1.length = s := by
  unfold NumP.putOf at *
  split
  · simp [NumP.oct_len]; omega
  · rename_i h1
    rw [if_neg h1] at h
    split
    · simp [NumP.oct_len]
    · rename_i h3
      rw [if_neg h3] at h
      split
      · simp [NumP.digs_len]; omega
      · rename_i h4
        rw [if_neg h4] at h
        cases h
theorem number_calls (g B : Nat) (st : List Int × Int) (wide : Bool) (fld n : Int) (f s : Nat) (r3 : Bool) (w : World) (hm : MakerAt w g B st.1 wide st.2) (hf : head_number.f fld = some ((f : Int), (s : Int), r3)) (h2 : 2 ≤ s) (hs : s ≤ 32) (hfs : f + s < 512) :
    Calls Tryd.prog 25 #[.pointer (some ⟨g, 0, none⟩), .int .i64 fld, .int .i64 n] w fun e' w' => e' = .returned (.tuple #[]) ∧ MakerAt w' g B (mNum st f s fld n wide).1 wide (mNum st f s fld n wide).2 ∧ But (MkF g B) w w' := by
  obtain ⟨xs, e⟩ := st
  unfold mNum
  by_cases he : e = 0
  · subst he
    rw [if_pos rfl]
    by_cases hn : n < 0 ∧ ¬ fld = 8
    · rw [if_pos hn]
      exact number_neg g B xs wide fld n f s r3 w hm hf hn.1 hn.2
    · rw [if_neg hn]
      have hn' : n < 0 → fld = 8 := fun h => by
        by_cases h8 : fld = 8
        · exact h8
        · exact absurd ⟨h, h8⟩ hn
      obtain ⟨k, hk⟩ := (NumP.put_ev n s wide h2 hs).rounds
      by_cases hc : (NumP.putOf n s wide).2 = 0
      · rw [if_pos hc]
        exact number_writes k g B xs _ wide fld n f s r3 w hm hf hn' (hk.trans (congrArg some (Prod.ext rfl hc))) (numput_len n s wide h2 hc) hfs
      · rw [if_neg hc]
        exact number_refused k g B xs _ wide fld n _ f s r3 w hm hf hn' hk hc
  · rw [if_neg he]
    refine (number_stays g e fld n w he (maker_cells hm.1).2.2).mono ?_
    rintro e' w' ⟨rfl, rfl⟩
    exact ⟨rfl, hm, But.refl _ _⟩
/-- What a header has. -/
structure Raw where
  mark : Int
  flag : Int
  name : ByteArray
  link : ByteArray
  pre : ByteArray
  user : ByteArray
  group : ByteArray
  mode : Int
  uid : Int
  gid : Int
  size : Int
  time : Int
  major : Int
  minor : Int
def rawC (r : Raw) : Array Value := #[.int .i64 r.mark, .int .u8 r.flag, .string r.name, .string r.link, .string r.pre, .string r.user, .string r.group, .int .i64 r.mode, .int .i64 r.uid, .int .i64 r.gid, .int .i64 r.size, .int .i64 r.time, .int .i64 r.major, .int .i64 r.minor]
def lateOf (st : List Int × Int) (r : Raw) (wide dev : Bool) : List Int × Int :=
  let b := mText (mText st 265 32 r.user) 297 32 r.group
  let c := if dev = true then mNum (mNum b 329 8 11 r.major wide) 337 8 12 r.minor wide else b
  if r.mark = 1 then mText c 345 155 r.pre else c
/-- The header's things in block R, the spans in S and behind. -/
def Bun (W : World) (R S : Nat) (r : Raw) : Prop := W.heap[R]? = some (.cells (rawC r) 23 (0, 0)) ∧ W.heap[S]? = some (.cells #[.int .i64 0, .int .i64 100] 60 (0, 0)) ∧ W.heap[S + 1]? = some (.cells #[.int .i64 157, .int .i64 100] 60 (0, 0)) ∧ W.heap[S + 1 + 1]? = some (.cells #[.int .i64 265, .int .i64 32] 60 (0, 0)) ∧ W.heap[S + 1 + 1 + 1]? = some (.cells #[.int .i64 297, .int .i64 32] 60 (0, 0)) ∧ W.heap[S + 1 + 1 + 1 + 1]? = some (.cells #[.int .i64 345, .int .i64 155] 60 (0, 0))
theorem bun_but {W W' : World} {R S g B : Nat} {r : Raw} (h : Bun W R S r) (hb : But (MkF g B) W W') (hg : ∀ k, k = g ∨ k = B → k ≠ R ∧ k < S) : Bun W' R S r := by
  obtain ⟨h0, h1, h2, h3, h4, h5⟩ := h
  have hR : ¬ MkF g B R := fun h => (hg R h).1 rfl
  have hS : ∀ j, ¬ MkF g B (S + j) := fun j h => by have := (hg _ h).2; omega
  exact ⟨hb.heap h0 hR, hb.heap h1 (hS 0), hb.heap h2 (hS 1), hb.heap h3 (hS 2), hb.heap h4 (hS 3), hb.heap h5 (hS 4)⟩
theorem two_cells {W : World} {k : Nat} {a b : Value} {t : TypeId} (h : W.heap[k]? = some (.cells #[a, b] t (0, 0))) : W.cell? ⟨k, 0, none⟩ = some a ∧ W.cell? ⟨k, 1, none⟩ = some b := by
  refine ⟨?_, ?_⟩ <;> simp [World.cell?, h]
theorem raw_cells {W : World} {k : Nat} {r : Raw} (h : W.heap[k]? = some (.cells (rawC r) 23 (0, 0))) : W.cell? ⟨k, 0, none⟩ = some (.int .i64 r.mark) ∧ W.cell? ⟨k, 1, none⟩ = some (.int .u8 r.flag) ∧ W.cell? ⟨k, 2, none⟩ = some (.string r.name) ∧ W.cell? ⟨k, 3, none⟩ = some (.string r.link) ∧ W.cell? ⟨k, 4, none⟩ = some (.string r.pre) ∧ W.cell? ⟨k, 5, none⟩ = some (.string r.user) ∧ W.cell? ⟨k, 6, none⟩ = some (.string r.group) ∧ W.cell? ⟨k, 7, none⟩ = some (.int .i64 r.mode) ∧ W.cell? ⟨k, 8, none⟩ = some (.int .i64 r.uid) ∧ W.cell? ⟨k, 9, none⟩ = some (.int .i64 r.gid) ∧ W.cell? ⟨k, 10, none⟩ = some (.int .i64 r.size) ∧ W.cell? ⟨k, 11, none⟩ = some (.int .i64 r.time) ∧ W.cell? ⟨k, 12, none⟩ = some (.int .i64 r.major) ∧ W.cell? ⟨k, 13, none⟩ = some (.int .i64 r.minor) := by
  refine ⟨?_, ?_, ?_, ?_, ?_, ?_, ?_, ?_, ?_, ?_, ?_, ?_, ?_, ?_⟩ <;> simp [World.cell?, h, rawC]
theorem text_at (g B : Nat) (st : List Int × Int) (wide : Bool) (a b : Int) (f s : Nat) (t : ByteArray) (w : World) (ha : a = f) (hb : b = s) (ht : t.size ≤ 140737488351232) (hm : MakerAt w g B st.1 wide st.2) (hfs : f + s < 512) :
    Calls Tryd.prog 24 #[.pointer (some ⟨g, 0, none⟩), .agg #[.int .i64 a, .int .i64 b], .string t] w fun e' w' => e' = .returned (.tuple #[]) ∧ MakerAt w' g B (mText st f s t).1 wide (mText st f s t).2 ∧ But (MkF g B) w w' := by
  subst ha hb
  exact text_calls g B st wide f s t w ht hm hfs
theorem five_allocs {w W : World} {a b c d e : Obj} (h : W = (((((w.alloc a).alloc b).alloc c).alloc d).alloc e)) : Below w.heap.size w W ∧ W.heap[w.heap.size]? = some a ∧ W.heap[w.heap.size + 1]? = some b ∧ W.heap[w.heap.size + 1 + 1]? = some c ∧ W.heap[w.heap.size + 1 + 1 + 1]? = some d ∧ W.heap[w.heap.size + 1 + 1 + 1 + 1]? = some e := by
  subst h
  have s1 : (w.alloc a).heap.size = w.heap.size + 1 := by simp
  have s2 : ((w.alloc a).alloc b).heap.size = w.heap.size + 1 + 1 := by simp
  have s3 : (((w.alloc a).alloc b).alloc c).heap.size = w.heap.size + 1 + 1 + 1 := by simp
  have s4 : ((((w.alloc a).alloc b).alloc c).alloc d).heap.size = w.heap.size + 1 + 1 + 1 + 1 := by simp
  refine ⟨((((((Below.refl _ w).alloc (Nat.le_refl _) a).alloc (by omega) b).alloc (by omega) c).alloc (by omega) d).alloc (by omega) e), ?_, ?_, ?_, ?_, ?_⟩
  · rw [Below.heap_alloc _ _ _ (by omega), Below.heap_alloc _ _ _ (by omega), Below.heap_alloc _ _ _ (by omega), Below.heap_alloc _ _ _ (by omega)]; exact heap_alloc_new w a
  · rw [Below.heap_alloc _ _ _ (by omega), Below.heap_alloc _ _ _ (by omega), Below.heap_alloc _ _ _ (by omega), ← s1]; exact heap_alloc_new _ b
  · rw [Below.heap_alloc _ _ _ (by omega), Below.heap_alloc _ _ _ (by omega), ← s2]; exact heap_alloc_new _ c
  · rw [Below.heap_alloc _ _ _ (by omega), ← s3]; exact heap_alloc_new _ d
  · rw [← s4]; exact heap_alloc_new _ e
set_option maxHeartbeats 2000000 in
set_option maxRecDepth 100000 in
theorem late_calls (g B : Nat) (st : List Int × Int) (r : Raw) (wide dev : Bool) (w : World) (hm : MakerAt w g B st.1 wide st.2) (h1 : r.user.size ≤ 100000) (h2 : r.group.size ≤ 100000) (h3 : r.pre.size ≤ 100000) :
    Calls Tryd.prog 26 #[.pointer (some ⟨g, 0, none⟩), .agg (rawC r), .bool dev] w fun e' w' => e' = .returned (.tuple #[]) ∧ MakerAt w' g B (lateOf st r wide dev).1 wide (lateOf st r wide dev).2 ∧ But (MkF g B) w w' := by
  have hlt := maker_lt hm
  have HM := Lib.hid hm
  obtain ⟨F, hF⟩ : ∃ F, F = lateOf st r wide dev := ⟨_, rfl⟩
  rw [← hF]
  unfold lateOf at hF
  have HF := Lib.hid hF
  clear hF
  have hsp := fun W => head_spans.calls 0 100 157 100 265 32 297 32 345 155 W rfl
  have HSP := Lib.hid hsp
  have hb0 := (Below.refl w.heap.size w).alloc (Nat.le_refl _) (.cells (rawC r) 23)
  have hraw : (w.alloc (.cells (rawC r) 23)).heap[w.heap.size]? = some (.cells (rawC r) 23 (0, 0)) := heap_alloc_new w _
  have HRAW := Lib.hid hraw
  have HB0 := Lib.hid hb0
  have HLT := Lib.hid hlt
  clear hm hsp hb0 hraw hlt
  obtain ⟨wa, hwa⟩ : ∃ wa, wa = w.alloc (.cells (rawC r) 23) := ⟨_, rfl⟩
  rw [← hwa] at HRAW HB0
  have HWA := Lib.hid (show wa.heap.size = w.heap.size + 1 by rw [hwa]; simp)
  go_enter Tryd.func26, Tryd.ntmps26
  go_upto_region 1 with (fail)
  rw [← hwa]
  clear hwa
  go_wp2_with fail
  (with_reducible refine (HSP.out _).mono ?_)
  rintro e w1 ⟨rfl, hb1⟩
  go_upto_region 2 with (fail)
  obtain ⟨W2, hW2⟩ : ∃ W2, W2 = (((((w1.alloc (.cells #[.int .i64 0, .int .i64 100] 60)).alloc (.cells #[.int .i64 157, .int .i64 100] 60)).alloc (.cells #[.int .i64 265, .int .i64 32] 60)).alloc (.cells #[.int .i64 297, .int .i64 32] 60)).alloc (.cells #[.int .i64 345, .int .i64 155] 60)) := ⟨_, rfl⟩
  rw [← hW2]
  obtain ⟨b2, n0, n1, n2, n3, n4⟩ := five_allocs hW2
  have b02 : Below w.heap.size w W2 := (HB0.out.trans (hb1.mono HB0.out.size)).trans (b2.mono (Nat.le_trans HB0.out.size hb1.size))
  have HB2 := Lib.hid (But.of_below (MkF g B) b02)
  have HM2 := Lib.hid (maker_below HM.out b02)
  have HBn2 : Hid (Bun W2 w.heap.size w1.heap.size r) := Lib.hid ⟨(But.of_below (fun _ => False) b2).heap ((But.of_below (fun _ => False) hb1).heap HRAW.out (fun h => h)) (fun h => h), n0, n1, n2, n3, n4⟩
  have HG : Hid (∀ k, k = g ∨ k = B → k ≠ w.heap.size ∧ k < w1.heap.size) := Lib.hid (by
    have e1 := HLT.out
    have e2 := hb1.size
    have e3 := HB0.out.size
    rintro k (h | h) <;> omega)
  have h1' := Lib.hid h1
  have h2' := Lib.hid h2
  have h3' := Lib.hid h3
  clear b02 b2 n0 n1 n2 n3 n4 hb1 HRAW HB0 HWA HLT HM HSP hW2 h1 h2 h3
  obtain ⟨mk, fl, nm, ln, pr, us, gr, n7, n8, n9, n10, n11, n12, n13⟩ := r
  dsimp only at h1' h2' h3' HF
  obtain ⟨b0, b1, b2, b3, b4, b5⟩ := HBn2.out
  obtain ⟨r0, r1, r2, r3, r4, r5, r6, r7, r8, r9, r10, r11, r12, r13⟩ := raw_cells b0
  obtain ⟨u0, v0⟩ := two_cells b1
  obtain ⟨u1, v1⟩ := two_cells b2
  obtain ⟨u2, v2⟩ := two_cells b3
  obtain ⟨u3, v3⟩ := two_cells b4
  obtain ⟨u4, v4⟩ := two_cells b5
  obtain ⟨q0, q1, q2⟩ := maker_cells HM2.out.1
  clear b0 b1 b2 b3 b4 b5
  dsimp only at r0 r1 r2 r3 r4 r5 r6 r7 r8 r9 r10 r11 r12 r13
  have Z1 := h1'.out
  have Z2 := h2'.out
  have Z3 := h3'.out
  go_wp2_with fail
  (with_reducible refine (text_at g B st wide 265 32 265 32 us W2 rfl rfl (by omega) HM2.out (by decide)).mono ?_)
  rintro e W3 ⟨rfl, hm3, hb3⟩
  have HM3 := Lib.hid hm3
  have HBn3 := Lib.hid (bun_but HBn2.out hb3 HG.out)
  have HB3 := Lib.hid (HB2.out.trans hb3)
  clear r0 r1 r2 r3 r4 r5 r6 r7 r8 r9 r10 r11 r12 r13 u0 u1 u2 u3 u4 v0 v1 v2 v3 v4 q0 q1 q2
  clear hm3 hb3 HM2 HBn2 HB2
  obtain ⟨b0, b1, b2, b3, b4, b5⟩ := HBn3.out
  obtain ⟨r0, r1, r2, r3, r4, r5, r6, r7, r8, r9, r10, r11, r12, r13⟩ := raw_cells b0
  obtain ⟨u0, v0⟩ := two_cells b1
  obtain ⟨u1, v1⟩ := two_cells b2
  obtain ⟨u2, v2⟩ := two_cells b3
  obtain ⟨u3, v3⟩ := two_cells b4
  obtain ⟨u4, v4⟩ := two_cells b5
  obtain ⟨q0, q1, q2⟩ := maker_cells HM3.out.1
  clear b0 b1 b2 b3 b4 b5
  dsimp only at r0 r1 r2 r3 r4 r5 r6 r7 r8 r9 r10 r11 r12 r13
  generalize mText st 265 32 us = sa at *
  go_wp2_with fail
  (with_reducible refine (text_at g B sa wide 297 32 297 32 gr W3 rfl rfl (by omega) HM3.out (by decide)).mono ?_)
  rintro e W4 ⟨rfl, hm4, hb4⟩
  have HM4 := Lib.hid hm4
  have HBn4 := Lib.hid (bun_but HBn3.out hb4 HG.out)
  have HB4 := Lib.hid (HB3.out.trans hb4)
  clear r0 r1 r2 r3 r4 r5 r6 r7 r8 r9 r10 r11 r12 r13 u0 u1 u2 u3 u4 v0 v1 v2 v3 v4 q0 q1 q2
  clear hm4 hb4 HM3 HBn3 HB3
  obtain ⟨b0, b1, b2, b3, b4, b5⟩ := HBn4.out
  obtain ⟨r0, r1, r2, r3, r4, r5, r6, r7, r8, r9, r10, r11, r12, r13⟩ := raw_cells b0
  obtain ⟨u0, v0⟩ := two_cells b1
  obtain ⟨u1, v1⟩ := two_cells b2
  obtain ⟨u2, v2⟩ := two_cells b3
  obtain ⟨u3, v3⟩ := two_cells b4
  obtain ⟨u4, v4⟩ := two_cells b5
  obtain ⟨q0, q1, q2⟩ := maker_cells HM4.out.1
  clear b0 b1 b2 b3 b4 b5
  dsimp only at r0 r1 r2 r3 r4 r5 r6 r7 r8 r9 r10 r11 r12 r13
  generalize mText sa 297 32 gr = sb at *
  cases dev
  · have hf := HF.out
    simp only [Bool.false_eq_true, ↓reduceIte] at hf
    clear HF
    have HF := Lib.hid hf
    clear hf
    by_cases h1m : mk = 1
    · have d1 : (mk == 1) = true := beq_iff_eq.2 h1m
      have hf := HF.out
      rw [if_pos h1m] at hf
      have HF1 := Lib.hid hf
      clear h1m hf HF
      go_wp2_with fail
      (with_reducible refine (text_at g B sb wide 345 155 345 155 pr W4 rfl rfl (by omega) HM4.out (by decide)).mono ?_)
      rintro e W5 ⟨rfl, hm5, hb5⟩
      have HM5 := Lib.hid hm5
      have HBn5 := Lib.hid (bun_but HBn4.out hb5 HG.out)
      have HB5 := Lib.hid (HB4.out.trans hb5)
      clear r0 r1 r2 r3 r4 r5 r6 r7 r8 r9 r10 r11 r12 r13 u0 u1 u2 u3 u4 v0 v1 v2 v3 v4 q0 q1 q2
      clear hm5 hb5 HM4 HBn4 HB4
      obtain ⟨b0, b1, b2, b3, b4, b5⟩ := HBn5.out
      obtain ⟨r0, r1, r2, r3, r4, r5, r6, r7, r8, r9, r10, r11, r12, r13⟩ := raw_cells b0
      obtain ⟨u0, v0⟩ := two_cells b1
      obtain ⟨u1, v1⟩ := two_cells b2
      obtain ⟨u2, v2⟩ := two_cells b3
      obtain ⟨u3, v3⟩ := two_cells b4
      obtain ⟨u4, v4⟩ := two_cells b5
      obtain ⟨q0, q1, q2⟩ := maker_cells HM5.out.1
      clear b0 b1 b2 b3 b4 b5
      dsimp only at r0 r1 r2 r3 r4 r5 r6 r7 r8 r9 r10 r11 r12 r13
      go_wp2_with fail
      exact bodyPost_end (results_none rfl _ _ _) rfl ⟨rfl, by rw [HF1.out]; exact HM5.out, HB5.out⟩
    · have d1 : (mk == 1) = false := beq_eq_false_iff_ne.2 h1m
      have hf := HF.out
      rw [if_neg h1m] at hf
      have HF1 := Lib.hid hf
      clear h1m hf HF
      go_wp2_with fail
      exact bodyPost_end (results_none rfl _ _ _) rfl ⟨rfl, by rw [HF1.out]; exact HM4.out, HB4.out⟩
  · have hf := HF.out
    simp only [↓reduceIte] at hf
    clear HF
    have HF := Lib.hid hf
    clear hf
    go_wp2_with fail
    (with_reducible refine (number_calls g B sb wide 11 n12 329 8 true W4 HM4.out (by decide) (by decide) (by decide) (by decide)).mono ?_)
    rintro e W5 ⟨rfl, hm5, hb5⟩
    have HM5 := Lib.hid hm5
    have HBn5 := Lib.hid (bun_but HBn4.out hb5 HG.out)
    have HB5 := Lib.hid (HB4.out.trans hb5)
    clear r0 r1 r2 r3 r4 r5 r6 r7 r8 r9 r10 r11 r12 r13 u0 u1 u2 u3 u4 v0 v1 v2 v3 v4 q0 q1 q2
    clear hm5 hb5 HM4 HBn4 HB4
    obtain ⟨b0, b1, b2, b3, b4, b5⟩ := HBn5.out
    obtain ⟨r0, r1, r2, r3, r4, r5, r6, r7, r8, r9, r10, r11, r12, r13⟩ := raw_cells b0
    obtain ⟨u0, v0⟩ := two_cells b1
    obtain ⟨u1, v1⟩ := two_cells b2
    obtain ⟨u2, v2⟩ := two_cells b3
    obtain ⟨u3, v3⟩ := two_cells b4
    obtain ⟨u4, v4⟩ := two_cells b5
    obtain ⟨q0, q1, q2⟩ := maker_cells HM5.out.1
    clear b0 b1 b2 b3 b4 b5
    dsimp only at r0 r1 r2 r3 r4 r5 r6 r7 r8 r9 r10 r11 r12 r13
    generalize mNum sb 329 8 11 n12 wide = sc at *
    go_wp2_with fail
    (with_reducible refine (number_calls g B sc wide 12 n13 337 8 true W5 HM5.out (by decide) (by decide) (by decide) (by decide)).mono ?_)
    rintro e W6 ⟨rfl, hm6, hb6⟩
    have HM6 := Lib.hid hm6
    have HBn6 := Lib.hid (bun_but HBn5.out hb6 HG.out)
    have HB6 := Lib.hid (HB5.out.trans hb6)
    clear r0 r1 r2 r3 r4 r5 r6 r7 r8 r9 r10 r11 r12 r13 u0 u1 u2 u3 u4 v0 v1 v2 v3 v4 q0 q1 q2
    clear hm6 hb6 HM5 HBn5 HB5
    obtain ⟨b0, b1, b2, b3, b4, b5⟩ := HBn6.out
    obtain ⟨r0, r1, r2, r3, r4, r5, r6, r7, r8, r9, r10, r11, r12, r13⟩ := raw_cells b0
    obtain ⟨u0, v0⟩ := two_cells b1
    obtain ⟨u1, v1⟩ := two_cells b2
    obtain ⟨u2, v2⟩ := two_cells b3
    obtain ⟨u3, v3⟩ := two_cells b4
    obtain ⟨u4, v4⟩ := two_cells b5
    obtain ⟨q0, q1, q2⟩ := maker_cells HM6.out.1
    clear b0 b1 b2 b3 b4 b5
    dsimp only at r0 r1 r2 r3 r4 r5 r6 r7 r8 r9 r10 r11 r12 r13
    generalize mNum sc 337 8 12 n13 wide = sd at *
    by_cases h1m : mk = 1
    · have d1 : (mk == 1) = true := beq_iff_eq.2 h1m
      have hf := HF.out
      rw [if_pos h1m] at hf
      have HF1 := Lib.hid hf
      clear h1m hf HF
      go_wp2_with fail
      (with_reducible refine (text_at g B sd wide 345 155 345 155 pr W6 rfl rfl (by omega) HM6.out (by decide)).mono ?_)
      rintro e W7 ⟨rfl, hm7, hb7⟩
      have HM7 := Lib.hid hm7
      have HBn7 := Lib.hid (bun_but HBn6.out hb7 HG.out)
      have HB7 := Lib.hid (HB6.out.trans hb7)
      clear r0 r1 r2 r3 r4 r5 r6 r7 r8 r9 r10 r11 r12 r13 u0 u1 u2 u3 u4 v0 v1 v2 v3 v4 q0 q1 q2
      clear hm7 hb7 HM6 HBn6 HB6
      obtain ⟨b0, b1, b2, b3, b4, b5⟩ := HBn7.out
      obtain ⟨r0, r1, r2, r3, r4, r5, r6, r7, r8, r9, r10, r11, r12, r13⟩ := raw_cells b0
      obtain ⟨u0, v0⟩ := two_cells b1
      obtain ⟨u1, v1⟩ := two_cells b2
      obtain ⟨u2, v2⟩ := two_cells b3
      obtain ⟨u3, v3⟩ := two_cells b4
      obtain ⟨u4, v4⟩ := two_cells b5
      obtain ⟨q0, q1, q2⟩ := maker_cells HM7.out.1
      clear b0 b1 b2 b3 b4 b5
      dsimp only at r0 r1 r2 r3 r4 r5 r6 r7 r8 r9 r10 r11 r12 r13
      go_wp2_with fail
      exact bodyPost_end (results_none rfl _ _ _) rfl ⟨rfl, by rw [HF1.out]; exact HM7.out, HB7.out⟩
    · have d1 : (mk == 1) = false := beq_eq_false_iff_ne.2 h1m
      have hf := HF.out
      rw [if_neg h1m] at hf
      have HF1 := Lib.hid hf
      clear h1m hf HF
      go_wp2_with fail
      exact bodyPost_end (results_none rfl _ _ _) rfl ⟨rfl, by rw [HF1.out]; exact HM6.out, HB6.out⟩
end Go.Proofs.YtoabboeongbloaaDoor.Maker
/- head.Make: its walk. -/
set_option linter.unusedVariables false
set_option linter.unusedSimpArgs false
namespace Go.Proofs.YtoabboeongbloaaDoor.Maker
open Go.RowKit Go.Proofs.YtoabboeongbloaaDoorW.PrintWords Go.Proofs.YtoabboeongbloaaDoorW.PrintLast Go.Proofs.YtoabboeongbloaaDoorW.PrintMore Go.Proofs.YtoabboeongbloaaDoorW.Mv Go.Proofs.YtoabboeongbloaaDoorW.HKit Go.Proofs.YtoabboeongbloaaDoorW.But Go.Proofs.YtoabboeongbloaaDoor.HeadA Go.Proofs.YtoabboeongbloaaDoor.PHeadGets Go.Proofs.YtoabboeongbloaaDoor.SumP Go.Proofs.YtoabboeongbloaaDoor.Sums Go.Proofs.YtoabboeongbloaaDoor.Fmt
/-- copy(dst, s): a text that fits, at a place of a row's block. -/
theorem run_copy_str_at {P : Program} (w : World) (dT sT ty e : TypeId) (g off n cap : Nat) (s : ByteArray) (cur : List Value)
    (hu : P.underlying dT = some (.slice e)) (hs : (P.info? e).map (·.size) = some 1) (hg : w.heap[g]? = some (.cells cur.toArray e (0, 0))) (hn : s.size ≤ n) (hfit : off + s.size ≤ cur.length) :
    (Builtin.copy_ #[dT, sT] ty #[.slice (some ⟨g, off, none⟩) n cap, .string s]).run P w =
      .ok (goInt s.size) (w.setRow g (splice cur off (Lib.byteCells s.data.toList)).toArray) := by
  have hlen : (Lib.byteCells s.data.toList).length = s.size := by simp [Lib.byteCells]
  have hst := run_storeCells_at P g off e (Lib.byteCells s.data.toList) 0 cur.toArray w hg (by rw [hlen]; simpa using hfit) (Lib.byteCells_one _)
  have hmin : Nat.min s.size n = s.size := Nat.min_eq_left hn
  have htk : List.take s.size (List.map (fun b : UInt8 => Value.int IntKind.u8 (b.toNat : Int)) s.data.toList) = Lib.byteCells s.data.toList := by
    rw [List.take_of_length_le (by simp)]; rfl
  rw [hlen] at hst
  simp only [Nat.add_zero] at hst
  cases hq : P.info? e with
  | none => simp [hq] at hs
  | some i =>
    simp [Builtin.copy_, run_underlying hu, Builtin.lenOf, Builtin.firstCells, sizeOf, typeInfo, hq, hmin]
    rw [htk, hst]
    simp [Result.andThen, splice, hlen]
theorem byteCells_nums (s : ByteArray) : Lib.byteCells s.data.toList = nums .u8 (bytesOf s) := by simp [Lib.byteCells, nums, bytesOf]
def ustarG : List Int := [117, 115, 116, 97, 114, 32, 32, 0]
def ustarP : List Int := [117, 115, 116, 97, 114, 0, 48, 48]
/-- The maker's state ahead of the flag. -/
def makeA (r : Raw) (wide : Bool) : List Int × Int :=
  let s0 := mText (List.replicate 512 0, 0) 0 100 r.name
  let s1 := mNum s0 100 8 4 r.mode wide
  let s2 := mNum s1 108 8 5 r.uid wide
  let s3 := mNum s2 116 8 6 r.gid wide
  let s4 := mNum s3 124 12 7 r.size wide
  let s5 := mNum s4 136 12 8 r.time wide
  mText s5 157 100 r.link
def makeB (r : Raw) (wide dev : Bool) : List Int × Int :=
  let a := makeA r wide
  if r.mark = 0 then a else
    let b := (splice a.1 257 ustarG, a.2)
    lateOf (if r.mark = 1 then (splice b.1 257 ustarP, b.2) else b) r wide dev
def knownB (c : Int) : Bool := decide (c = 0 ∨ c = 120 ∨ c = 103 ∨ c = 76 ∨ c = 75 ∨ (48 ≤ c ∧ c ≤ 55))
theorem known_f (c : Int) : head_known.f c = some (knownB c) := by
  unfold head_known.f knownB
  repeat' split
  all_goals simp_all
  all_goals try omega
def makeOf (r : Raw) (wide dev : Bool) : List Int × Int :=
  if r.mark < 0 ∨ 2 < r.mark then ([], 2) else if knownB r.flag = false then ([], 9) else
    let st := makeB r wide dev
    if st.2 = 0 then (sealOf (st.1.set 156 r.flag), 0) else ([], st.2)
theorem two_allocs {w W : World} {a b : Obj} (h : W = (w.alloc a).alloc b) : Below w.heap.size w W ∧ W.heap[w.heap.size]? = some a ∧ W.heap[w.heap.size + 1]? = some b := by
  subst h
  have s1 : (w.alloc a).heap.size = w.heap.size + 1 := by simp
  refine ⟨(((Below.refl _ w).alloc (Nat.le_refl _) a).alloc (by omega) b), ?_, ?_⟩
  · rw [Below.heap_alloc _ _ _ (by omega)]; exact heap_alloc_new w a
  · rw [← s1]; exact heap_alloc_new _ b
theorem made_zero : madeCells #[.int .u8 0] 512 = (nums .u8 (List.replicate 512 0)).toArray := by
  apply Array.ext'
  rw [toList_madeCells_one]
  show _ = nums .u8 _
  unfold nums
  rw [List.map_replicate]
theorem maker_set {w : World} {g B : Nat} {xs : List Int} {wide : Bool} {e : Int} (h : MakerAt w g B xs wide e) (i : Nat) (v : Int) (hi : i < 512) : MakerAt (w.setCell ⟨B, i, none⟩ (.int .u8 v)) g B (xs.set i v) wide e := by
  obtain ⟨h1, h2, h3, h4⟩ := h
  have h5 : ¬ B = g := h4
  refine ⟨?_, ?_, by simpa using h3, h4⟩
  · simp [World.setCell, Array.getElem?_modify, h5, h1]
  · simp [World.setCell, Array.getElem?_modify, h2, nums, List.map_set]
theorem maker_cell {w : World} {g B : Nat} {xs : List Int} {wide : Bool} {e : Int} (h : MakerAt w g B xs wide e) (i : Nat) (hi : i < 512) : w.cell? ⟨B, i, none⟩ = some (.int .u8 (rd xs (i : Int))) := by
  obtain ⟨h1, h2, h3, h4⟩ := h
  have hl : i < xs.length := by omega
  simp [World.cell?, h2, nums, rd, List.getD, hl]
theorem maker_C {w : World} {g B : Nat} {xs : List Int} {wide : Bool} {e : Int} (h : MakerAt w g B xs wide e) : Kd.C (Kd.int .u8) w (some ⟨B, 0, none⟩) xs.length xs := by
  have h3 := h.2.2.1
  refine Kd.C_of_reads (enc := Value.int .u8) (d := (0 : Int)) (h1 := fun _ => rfl) ⟨rfl, by omega, fun _ => ⟨_, rfl, fun j hj => ?_⟩⟩
  have := maker_cell h j (by omega)
  cases j <;> simpa [Addr.add, rd] using this
theorem bytes_splice {xs ys : List Int} {f : Nat} (hx : Bytes xs) (hy : Bytes ys) : Bytes (splice xs f ys) := by
  intro x h
  unfold splice at h
  simp only [List.mem_append] at h
  rcases h with h | h | h
  · exact hx x (List.mem_of_mem_take h)
  · exact hy x h
  · exact hx x (List.mem_of_mem_drop h)
theorem bytes_bytesOf (s : ByteArray) : Bytes (bytesOf s) := by
  intro b h
  simp only [bytesOf, List.mem_map] at h
  obtain ⟨u, _, rfl⟩ := h
  have := u.toNat_lt
  omega
theorem bytes_rep (n : Nat) : Bytes (List.replicate n 0) := by
  intro x h
  rw [List.eq_of_mem_replicate h]
  omega
theorem bytes_append {a b : List Int} (ha : Bytes a) (hb : Bytes b) : Bytes (a ++ b) := by
  intro x h
  rcases List.mem_append.1 h with h | h
  · exact ha x h
  · exact hb x h
theorem bytes_field (s : ByteArray) (n : Nat) : Bytes (Go.Proofs.YtoabboeongbloaaDoorW.HKit.fieldOf s n) := by
  unfold Go.Proofs.YtoabboeongbloaaDoorW.HKit.fieldOf
  exact bytes_append (fun x h => bytes_bytesOf s x (List.mem_of_mem_take h)) (bytes_rep _)
theorem bytes_put (s : ByteArray) (n : Int) : Bytes (Txt.putOf s n).1 := by
  unfold Txt.putOf
  repeat' split
  · intro x h; cases h
  · intro x h; cases h
  · intro x h; cases h
  · exact bytes_field _ _
theorem digs_bd (b : Int) (hb : 2 ≤ b) : ∀ (w : Nat) (n : Int), ∀ x ∈ NumP.digs b n w, 0 ≤ x ∧ x < b := by
  intro w
  induction w with
  | zero => intro n x h; cases h
  | succ w ih =>
    intro n x h
    unfold NumP.digs at h
    simp only [List.mem_append, List.mem_cons, List.not_mem_nil, or_false] at h
    rcases h with h | rfl
    · exact ih _ x h
    · exact ⟨Int.emod_nonneg _ (by omega), Int.emod_lt_of_pos _ (by omega)⟩
theorem bytes_oct (n : Int) (w : Nat) : Bytes (NumP.oct n w) := by
  intro x h
  unfold NumP.oct at h
  simp only [List.mem_map] at h
  obtain ⟨y, hy, rfl⟩ := h
  have := digs_bd 8 (by omega) w n y hy
  omega
theorem bytes_num (n : Int) (w : Nat) (wide : Bool) : Bytes (NumP.putOf n w wide).1 := by
  unfold NumP.putOf
  split
  · refine bytes_append (bytes_oct _ _) ?_
    intro x h
    simp only [List.mem_cons, List.not_mem_nil, or_false] at h
    omega
  · split
    · exact bytes_oct _ _
    · split
      · intro x h
        simp only [List.mem_cons] at h
        rcases h with rfl | h
        · split <;> omega
        · have := digs_bd 256 (by omega) _ _ x h
          omega
      · intro x h; cases h
theorem bytes_mText {st : List Int × Int} (h : Bytes st.1) (f s : Nat) (t : ByteArray) : Bytes (mText st f s t).1 := by
  unfold mText
  repeat' split
  · exact bytes_splice h (bytes_put _ _)
  · exact h
  · exact h
theorem bytes_mNum {st : List Int × Int} (h : Bytes st.1) (f s : Nat) (fld n : Int) (wide : Bool) : Bytes (mNum st f s fld n wide).1 := by
  unfold mNum
  repeat' split
  · exact h
  · exact bytes_splice h (bytes_num _ _ _)
  · exact h
  · exact h
theorem bytes_late {st : List Int × Int} (h : Bytes st.1) (r : Raw) (wide dev : Bool) : Bytes (lateOf st r wide dev).1 := by
  have h1 := bytes_mText (bytes_mText h 265 32 r.user) 297 32 r.group
  have h2 := bytes_mNum (bytes_mNum h1 329 8 11 r.major wide) 337 8 12 r.minor wide
  unfold lateOf
  cases dev
  · simp only [Bool.false_eq_true, ↓reduceIte]
    split
    · exact bytes_mText h1 _ _ _
    · exact h1
  · simp only [↓reduceIte]
    split
    · exact bytes_mText h2 _ _ _
    · exact h2
theorem bytes_A (r : Raw) (wide : Bool) : Bytes (makeA r wide).1 := by
  unfold makeA
  exact bytes_mText (bytes_mNum (bytes_mNum (bytes_mNum (bytes_mNum (bytes_mNum (bytes_mText (bytes_rep 512) _ _ _) _ _ _ _ _) _ _ _ _ _) _ _ _ _ _) _ _ _ _ _) _ _ _ _ _) _ _ _
theorem bytes_uG : Bytes ustarG := by unfold Bytes ustarG; decide
theorem bytes_uP : Bytes ustarP := by unfold Bytes ustarP; decide
theorem bytes_B (r : Raw) (wide dev : Bool) : Bytes (makeB r wide dev).1 := by
  unfold makeB
  dsimp only
  split
  · exact bytes_A r wide
  · refine bytes_late ?_ r wide dev
    split
    · exact bytes_splice (bytes_splice (bytes_A r wide) bytes_uG) bytes_uP
    · exact bytes_splice (bytes_A r wide) bytes_uG
theorem bytes_set {l : List Int} (h : Bytes l) (i : Nat) (v : Int) (hv : 0 ≤ v ∧ v ≤ 255) : Bytes (l.set i v) := by
  intro x hx
  rcases List.mem_or_eq_of_mem_set hx with h1 | rfl
  · exact h x h1
  · exact hv
theorem cut257 (B : Nat) : ∀ W : World, (Instr.slice 25 (.slice (some ⟨B, 0, none⟩) 512 512) (some (.int .i64 257)) none none).run Tryd.prog W = .ok (.slice (some ⟨B, 257, none⟩) 255 255) W := by
  intro W
  obtain ⟨i, hi, hz, hsz, _⟩ := info_parts HeadA.info5
  have hel : Tryd.prog.elem 25 = 5 := by simp [Program.elem, Tryd.underlying25]
  have hu : Tryd.prog.underlying 25 = some (.slice (Tryd.prog.elem 25)) := by rw [hel]; exact Tryd.underlying25
  rw [run_slice_l W 25 (some ⟨B, 0, none⟩) 512 512 hu .i64 257 (by omega) (by omega), hel]
  simp [sizeOf, typeInfo, hi, hsz, sliced, Result.andThen, Addr.add]
theorem sum_seal_at {w : World} {g B : Nat} {xs : List Int} {wide : Bool} {e : Int} (h : MakerAt w g B xs wide e) (hb : Bytes xs) (hT : Tab8 w) :
    Calls Tryd.prog 27 #[.slice (some ⟨B, 0, none⟩) 512 512] w fun e w' => ∃ v1, e = .returned (.tuple #[v1, .int .u8 0]) ∧ w'.ownsRow w.heap.size 5 1 v1 (sealOf xs).length (nums .u8 (sealOf xs)) ∧ Below w.heap.size w w' := by
  have h3 := h.2.2.1
  have hs := seal_yes (some ⟨B, 0, none⟩) 512 xs w hb h3 (maker_C h) (by omega) (fun h => by cases h) hT
  rw [h3] at hs
  exact hs
set_option maxHeartbeats 1000000 in
theorem make_arg (r : Raw) (wide dev : Bool) (w : World) (h : r.mark < 0 ∨ 2 < r.mark) :
    Calls Tryd.prog 8 #[.agg (rawC r), .bool wide, .bool dev] w fun e w' => e = .returned (.tuple #[.slice none 0 0, .int .u8 2]) ∧ Below w.heap.size w w' := by
  have hb0 := (Below.refl w.heap.size w).alloc (Nat.le_refl _) (.cells (rawC r) 23)
  have hraw : (w.alloc (.cells (rawC r) 23)).heap[w.heap.size]? = some (.cells (rawC r) 23 (0, 0)) := heap_alloc_new w _
  obtain ⟨r0, r1, r2, r3, r4, r5, r6, r7, r8, r9, r10, r11, r12, r13⟩ := raw_cells hraw
  have HB0 := Lib.hid hb0
  clear hb0 hraw r2 r3 r4 r5 r6 r7 r8 r9 r10 r11 r12 r13
  obtain ⟨wa, hwa⟩ : ∃ wa, wa = w.alloc (.cells (rawC r) 23) := ⟨_, rfl⟩
  rw [← hwa] at HB0 r0 r1
  by_cases h0 : r.mark < 0
  · have d1 : decide (r.mark < 0) = true := decide_eq_true h0
    clear h h0
    go_enter Tryd.func8, Tryd.ntmps8
    go_upto_region 1 with (fail)
    rw [← hwa]
    clear hwa
    go_wp2_with fail
    go_ret2
    exact ⟨rfl, HB0.out⟩
  · have d1 : decide (r.mark < 0) = false := decide_eq_false h0
    have d2 : decide (2 < r.mark) = true := decide_eq_true (by omega)
    clear h h0
    go_enter Tryd.func8, Tryd.ntmps8
    go_upto_region 1 with (fail)
    rw [← hwa]
    clear hwa
    go_wp2_with fail
    go_ret2
    exact ⟨rfl, HB0.out⟩
set_option maxHeartbeats 1000000 in
theorem make_flag (r : Raw) (wide dev : Bool) (w : World) (h : ¬ (r.mark < 0 ∨ 2 < r.mark)) (hk : knownB r.flag = false) :
    Calls Tryd.prog 8 #[.agg (rawC r), .bool wide, .bool dev] w fun e w' => e = .returned (.tuple #[.slice none 0 0, .int .u8 9]) ∧ Below w.heap.size w w' := by
  have hb0 := (Below.refl w.heap.size w).alloc (Nat.le_refl _) (.cells (rawC r) 23)
  have hraw : (w.alloc (.cells (rawC r) 23)).heap[w.heap.size]? = some (.cells (rawC r) 23 (0, 0)) := heap_alloc_new w _
  obtain ⟨r0, r1, r2, r3, r4, r5, r6, r7, r8, r9, r10, r11, r12, r13⟩ := raw_cells hraw
  have HB0 := Lib.hid hb0
  clear hb0 hraw r2 r3 r4 r5 r6 r7 r8 r9 r10 r11 r12 r13
  obtain ⟨wa, hwa⟩ : ∃ wa, wa = w.alloc (.cells (rawC r) 23) := ⟨_, rfl⟩
  rw [← hwa] at HB0 r0 r1
  have d1 : decide (r.mark < 0) = false := decide_eq_false (by omega)
  have d2 : decide (2 < r.mark) = false := decide_eq_false (by omega)
  have hkn := head_known.calls r.flag _ wa (known_f r.flag)
  rw [hk] at hkn
  have HK := Lib.hid hkn
  clear h hk hkn
  go_enter Tryd.func8, Tryd.ntmps8
  go_upto_region 1 with (fail)
  rw [← hwa]
  clear hwa
  go_wp2_with fail
  (with_reducible refine HK.out.mono ?_)
  rintro e w1 ⟨rfl, hd⟩
  have HB1 := Lib.hid (HB0.out.trans (hd.below.mono HB0.out.size))
  clear hd HK HB0
  go_wp2_with fail
  go_ret2
  exact ⟨rfl, HB1.out⟩
set_option maxHeartbeats 4000000 in
set_option maxRecDepth 100000 in
theorem make_goes (r : Raw) (wide dev : Bool) (w : World) (h : ¬ (r.mark < 0 ∨ 2 < r.mark)) (hk : knownB r.flag = true) (hfl : 0 ≤ r.flag ∧ r.flag ≤ 255) (hT : Tab8 w) (h1 : r.name.size ≤ 100000) (h2 : r.link.size ≤ 100000) (h3 : r.user.size ≤ 100000) (h4 : r.group.size ≤ 100000) (h5 : r.pre.size ≤ 100000) (F : List Int × Int) (hF : F = makeB r wide dev) :
    Calls Tryd.prog 8 #[.agg (rawC r), .bool wide, .bool dev] w fun e w' => ∃ v, e = .returned (.tuple #[v, .int .u8 F.2]) ∧ (F.2 ≠ 0 → v = .slice none 0 0) ∧ (F.2 = 0 → w'.ownsRow w.heap.size 5 1 v (sealOf (F.1.set 156 r.flag)).length (nums .u8 (sealOf (F.1.set 156 r.flag)))) ∧ Below w.heap.size w w' := by
  have hFB : Bytes F.1 := by rw [hF]; exact bytes_B r wide dev
  have HFB := Lib.hid hFB
  have HT := Lib.hid hT
  have HFL := Lib.hid hfl
  have hsp := fun W => head_spans.calls 0 100 157 100 265 32 297 32 345 155 W rfl
  have HSP := Lib.hid hsp
  have hb0 := (Below.refl w.heap.size w).alloc (Nat.le_refl _) (.cells (rawC r) 23)
  have hraw : (w.alloc (.cells (rawC r) 23)).heap[w.heap.size]? = some (.cells (rawC r) 23 (0, 0)) := heap_alloc_new w _
  have HRAW := Lib.hid hraw
  have HB0 := Lib.hid hb0
  obtain ⟨r0, r1, r2, r3, r4, r5, r6, r7, r8, r9, r10, r11, r12, r13⟩ := raw_cells hraw
  clear hsp hb0 hraw hT hFB hfl r2 r3 r4 r5 r6 r7 r8 r9 r10 r11 r12 r13
  obtain ⟨wa, hwa⟩ : ∃ wa, wa = w.alloc (.cells (rawC r) 23) := ⟨_, rfl⟩
  rw [← hwa] at HRAW HB0 r0 r1
  have d1 : decide (r.mark < 0) = false := decide_eq_false (by omega)
  have d2 : decide (2 < r.mark) = false := decide_eq_false (by omega)
  have hkn := head_known.calls r.flag _ wa (known_f r.flag)
  rw [hk] at hkn
  have HK := Lib.hid hkn
  have HH := Lib.hid h
  have hmk : ∀ W : World, (Instr.makeSlice 25 (.int .i64 512) (.int .i64 512)).run Tryd.prog W = .ok (.slice (some ⟨W.heap.size, 0, none⟩) 512 512) (W.alloc (.cells (madeCells #[.int .u8 0] 512) 5)) := print_make (P := Tryd.prog) 25 5 .u8 1 Tryd.underlying25 HeadA.info5 (by decide) 512 (by omega)
  clear hkn h hk
  go_enter Tryd.func8, Tryd.ntmps8
  go_upto_region 1 with (fail)
  rw [← hwa]
  have HWA := Lib.hid (show wa.heap.size = w.heap.size + 1 by rw [hwa]; simp)
  clear hwa
  go_wp2_with fail
  (with_reducible refine HK.out.mono ?_)
  rintro e w1 ⟨rfl, hd⟩
  have HB1 := Lib.hid (HB0.out.trans (hd.below.mono HB0.out.size))
  have HRAW1 := Lib.hid ((But.of_below (fun _ => False) hd.below).heap HRAW.out (fun h => h))
  have HSZ := Lib.hid (show w.heap.size + 1 ≤ w1.heap.size by rw [← HWA.out]; exact hd.below.size)
  clear hd HK HB0 HRAW HWA r0 r1
  have HFQ := Lib.hid hF
  have Z1 := Lib.hid h1
  have Z2 := Lib.hid h2
  have Z3 := Lib.hid h3
  have Z4 := Lib.hid h4
  have Z5 := Lib.hid h5
  clear hF h1 h2 h3 h4 h5
  go_upto_region 6 with (fail)
  obtain ⟨wm, hwm⟩ : ∃ wm, wm = (w1.alloc (.cells (madeCells #[.int .u8 0] 512) 5)).alloc (.cells #[.slice (some ⟨w1.heap.size, 0, none⟩) 512 512, .bool wide, .int .u8 0] 58) := ⟨_, rfl⟩
  rw [← hwm]
  obtain ⟨bm, x0, x1⟩ := two_allocs hwm
  rw [made_zero] at x0
  have HMM := Lib.hid (show MakerAt wm (w1.heap.size + 1) w1.heap.size (List.replicate 512 0) wide 0 from ⟨x1, x0, by simp, by omega⟩)
  have HBM := Lib.hid (HB1.out.trans (bm.mono HB1.out.size))
  have HRAWM := Lib.hid ((But.of_below (fun _ => False) bm).heap HRAW1.out (fun h => h))
  have HSZM := Lib.hid (show w1.heap.size + 1 < wm.heap.size from (maker_lt HMM.out).1)
  clear bm x0 x1 hwm hmk HRAW1 HB1
  go_wp2_with fail
  (with_reducible refine (HSP.out _).mono ?_)
  rintro e w2 ⟨rfl, hb2⟩
  go_upto_region 7 with (fail)
  obtain ⟨W2, hW2⟩ : ∃ W2, W2 = (((((w2.alloc (.cells #[.int .i64 0, .int .i64 100] 60)).alloc (.cells #[.int .i64 157, .int .i64 100] 60)).alloc (.cells #[.int .i64 265, .int .i64 32] 60)).alloc (.cells #[.int .i64 297, .int .i64 32] 60)).alloc (.cells #[.int .i64 345, .int .i64 155] 60)) := ⟨_, rfl⟩
  rw [← hW2]
  obtain ⟨b2, n0, n1, n2, n3, n4⟩ := five_allocs hW2
  have bm2 : Below wm.heap.size wm W2 := hb2.trans (b2.mono hb2.size)
  have HB2 := Lib.hid (HBM.out.trans (bm2.mono HBM.out.size))
  have HM2 := Lib.hid (maker_below HMM.out bm2)
  have HBn2 : Hid (Bun W2 w.heap.size w2.heap.size r) := Lib.hid ⟨(But.of_below (fun _ => False) bm2).heap HRAWM.out (fun h => h), n0, n1, n2, n3, n4⟩
  have HG : Hid (∀ k, k = w1.heap.size + 1 ∨ k = w1.heap.size → k ≠ w.heap.size ∧ k < w2.heap.size) := Lib.hid (by
    have e1 := HSZ.out
    have e2 := hb2.size
    have e3 := HSZM.out
    rintro k (h | h) <;> omega)
  have HF0 : Hid (∀ k, MkF (w1.heap.size + 1) w1.heap.size k → w.heap.size ≤ k) := Lib.hid (by
    have e1 := HSZ.out
    rintro k (h | h) <;> omega)
  clear bm2 b2 n0 n1 n2 n3 n4 hb2 hW2 HMM HBM HRAWM HSZM HSP HSZ
  generalize w1.heap.size + 1 = g at *
  generalize w1.heap.size = B at *
  obtain ⟨mk, fl, nm, ln, pr, us, gr, n7, n8, n9, n10, n11, n12, n13⟩ := r
  unfold makeB makeA at HFQ
  dsimp only at Z1 Z2 Z3 Z4 Z5 HFQ HFL HH d1 d2 ⊢
  obtain ⟨b0, b1, b2, b3, b4, b5⟩ := HBn2.out
  obtain ⟨r0, r1, r2, r3, r4, r5, r6, r7, r8, r9, r10, r11, r12, r13⟩ := raw_cells b0
  obtain ⟨u0, v0⟩ := two_cells b1
  obtain ⟨u1, v1⟩ := two_cells b2
  obtain ⟨u2, v2⟩ := two_cells b3
  obtain ⟨u3, v3⟩ := two_cells b4
  obtain ⟨u4, v4⟩ := two_cells b5
  obtain ⟨q0, q1, q2⟩ := maker_cells HM2.out.1
  clear b0 b1 b2 b3 b4 b5
  dsimp only at r0 r1 r2 r3 r4 r5 r6 r7 r8 r9 r10 r11 r12 r13
  have y1 := Z1.out
  have y2 := Z2.out
  go_wp2_with fail
  (with_reducible refine (text_at g B (List.replicate 512 0, 0) wide 0 100 0 100 nm W2 rfl rfl (by omega) HM2.out (by decide)).mono ?_)
  rintro e W3 ⟨rfl, hm3, hb3⟩
  have HM3 := Lib.hid hm3
  have HBn3 := Lib.hid (bun_but HBn2.out hb3 HG.out)
  have HB3 := Lib.hid (HB2.out.trans (hb3.below HF0.out HB2.out.size))
  clear r0 r1 r2 r3 r4 r5 r6 r7 r8 r9 r10 r11 r12 r13 u0 u1 u2 u3 u4 v0 v1 v2 v3 v4 q0 q1 q2
  clear hm3 hb3 HM2 HBn2 HB2
  obtain ⟨b0, b1, b2, b3, b4, b5⟩ := HBn3.out
  obtain ⟨r0, r1, r2, r3, r4, r5, r6, r7, r8, r9, r10, r11, r12, r13⟩ := raw_cells b0
  obtain ⟨u0, v0⟩ := two_cells b1
  obtain ⟨u1, v1⟩ := two_cells b2
  obtain ⟨u2, v2⟩ := two_cells b3
  obtain ⟨u3, v3⟩ := two_cells b4
  obtain ⟨u4, v4⟩ := two_cells b5
  obtain ⟨q0, q1, q2⟩ := maker_cells HM3.out.1
  clear b0 b1 b2 b3 b4 b5
  dsimp only at r0 r1 r2 r3 r4 r5 r6 r7 r8 r9 r10 r11 r12 r13
  generalize mText (List.replicate 512 0, 0) 0 100 nm = s3 at *
  go_wp2_with fail
  (with_reducible refine (number_calls g B s3 wide 4 n7 100 8 true W3 HM3.out (by decide) (by decide) (by decide) (by decide)).mono ?_)
  rintro e W4 ⟨rfl, hm4, hb4⟩
  have HM4 := Lib.hid hm4
  have HBn4 := Lib.hid (bun_but HBn3.out hb4 HG.out)
  have HB4 := Lib.hid (HB3.out.trans (hb4.below HF0.out HB3.out.size))
  clear r0 r1 r2 r3 r4 r5 r6 r7 r8 r9 r10 r11 r12 r13 u0 u1 u2 u3 u4 v0 v1 v2 v3 v4 q0 q1 q2
  clear hm4 hb4 HM3 HBn3 HB3
  obtain ⟨b0, b1, b2, b3, b4, b5⟩ := HBn4.out
  obtain ⟨r0, r1, r2, r3, r4, r5, r6, r7, r8, r9, r10, r11, r12, r13⟩ := raw_cells b0
  obtain ⟨u0, v0⟩ := two_cells b1
  obtain ⟨u1, v1⟩ := two_cells b2
  obtain ⟨u2, v2⟩ := two_cells b3
  obtain ⟨u3, v3⟩ := two_cells b4
  obtain ⟨u4, v4⟩ := two_cells b5
  obtain ⟨q0, q1, q2⟩ := maker_cells HM4.out.1
  clear b0 b1 b2 b3 b4 b5
  dsimp only at r0 r1 r2 r3 r4 r5 r6 r7 r8 r9 r10 r11 r12 r13
  generalize mNum s3 100 8 4 n7 wide = s4 at *
  go_wp2_with fail
  (with_reducible refine (number_calls g B s4 wide 5 n8 108 8 true W4 HM4.out (by decide) (by decide) (by decide) (by decide)).mono ?_)
  rintro e W5 ⟨rfl, hm5, hb5⟩
  have HM5 := Lib.hid hm5
  have HBn5 := Lib.hid (bun_but HBn4.out hb5 HG.out)
  have HB5 := Lib.hid (HB4.out.trans (hb5.below HF0.out HB4.out.size))
  clear r0 r1 r2 r3 r4 r5 r6 r7 r8 r9 r10 r11 r12 r13 u0 u1 u2 u3 u4 v0 v1 v2 v3 v4 q0 q1 q2
  clear hm5 hb5 HM4 HBn4 HB4
  obtain ⟨b0, b1, b2, b3, b4, b5⟩ := HBn5.out
  obtain ⟨r0, r1, r2, r3, r4, r5, r6, r7, r8, r9, r10, r11, r12, r13⟩ := raw_cells b0
  obtain ⟨u0, v0⟩ := two_cells b1
  obtain ⟨u1, v1⟩ := two_cells b2
  obtain ⟨u2, v2⟩ := two_cells b3
  obtain ⟨u3, v3⟩ := two_cells b4
  obtain ⟨u4, v4⟩ := two_cells b5
  obtain ⟨q0, q1, q2⟩ := maker_cells HM5.out.1
  clear b0 b1 b2 b3 b4 b5
  dsimp only at r0 r1 r2 r3 r4 r5 r6 r7 r8 r9 r10 r11 r12 r13
  generalize mNum s4 108 8 5 n8 wide = s5 at *
  go_wp2_with fail
  (with_reducible refine (number_calls g B s5 wide 6 n9 116 8 true W5 HM5.out (by decide) (by decide) (by decide) (by decide)).mono ?_)
  rintro e W6 ⟨rfl, hm6, hb6⟩
  have HM6 := Lib.hid hm6
  have HBn6 := Lib.hid (bun_but HBn5.out hb6 HG.out)
  have HB6 := Lib.hid (HB5.out.trans (hb6.below HF0.out HB5.out.size))
  clear r0 r1 r2 r3 r4 r5 r6 r7 r8 r9 r10 r11 r12 r13 u0 u1 u2 u3 u4 v0 v1 v2 v3 v4 q0 q1 q2
  clear hm6 hb6 HM5 HBn5 HB5
  obtain ⟨b0, b1, b2, b3, b4, b5⟩ := HBn6.out
  obtain ⟨r0, r1, r2, r3, r4, r5, r6, r7, r8, r9, r10, r11, r12, r13⟩ := raw_cells b0
  obtain ⟨u0, v0⟩ := two_cells b1
  obtain ⟨u1, v1⟩ := two_cells b2
  obtain ⟨u2, v2⟩ := two_cells b3
  obtain ⟨u3, v3⟩ := two_cells b4
  obtain ⟨u4, v4⟩ := two_cells b5
  obtain ⟨q0, q1, q2⟩ := maker_cells HM6.out.1
  clear b0 b1 b2 b3 b4 b5
  dsimp only at r0 r1 r2 r3 r4 r5 r6 r7 r8 r9 r10 r11 r12 r13
  generalize mNum s5 116 8 6 n9 wide = s6 at *
  go_wp2_with fail
  (with_reducible refine (number_calls g B s6 wide 7 n10 124 12 true W6 HM6.out (by decide) (by decide) (by decide) (by decide)).mono ?_)
  rintro e W7 ⟨rfl, hm7, hb7⟩
  have HM7 := Lib.hid hm7
  have HBn7 := Lib.hid (bun_but HBn6.out hb7 HG.out)
  have HB7 := Lib.hid (HB6.out.trans (hb7.below HF0.out HB6.out.size))
  clear r0 r1 r2 r3 r4 r5 r6 r7 r8 r9 r10 r11 r12 r13 u0 u1 u2 u3 u4 v0 v1 v2 v3 v4 q0 q1 q2
  clear hm7 hb7 HM6 HBn6 HB6
  obtain ⟨b0, b1, b2, b3, b4, b5⟩ := HBn7.out
  obtain ⟨r0, r1, r2, r3, r4, r5, r6, r7, r8, r9, r10, r11, r12, r13⟩ := raw_cells b0
  obtain ⟨u0, v0⟩ := two_cells b1
  obtain ⟨u1, v1⟩ := two_cells b2
  obtain ⟨u2, v2⟩ := two_cells b3
  obtain ⟨u3, v3⟩ := two_cells b4
  obtain ⟨u4, v4⟩ := two_cells b5
  obtain ⟨q0, q1, q2⟩ := maker_cells HM7.out.1
  clear b0 b1 b2 b3 b4 b5
  dsimp only at r0 r1 r2 r3 r4 r5 r6 r7 r8 r9 r10 r11 r12 r13
  generalize mNum s6 124 12 7 n10 wide = s7 at *
  go_wp2_with fail
  (with_reducible refine (number_calls g B s7 wide 8 n11 136 12 true W7 HM7.out (by decide) (by decide) (by decide) (by decide)).mono ?_)
  rintro e W8 ⟨rfl, hm8, hb8⟩
  have HM8 := Lib.hid hm8
  have HBn8 := Lib.hid (bun_but HBn7.out hb8 HG.out)
  have HB8 := Lib.hid (HB7.out.trans (hb8.below HF0.out HB7.out.size))
  clear r0 r1 r2 r3 r4 r5 r6 r7 r8 r9 r10 r11 r12 r13 u0 u1 u2 u3 u4 v0 v1 v2 v3 v4 q0 q1 q2
  clear hm8 hb8 HM7 HBn7 HB7
  obtain ⟨b0, b1, b2, b3, b4, b5⟩ := HBn8.out
  obtain ⟨r0, r1, r2, r3, r4, r5, r6, r7, r8, r9, r10, r11, r12, r13⟩ := raw_cells b0
  obtain ⟨u0, v0⟩ := two_cells b1
  obtain ⟨u1, v1⟩ := two_cells b2
  obtain ⟨u2, v2⟩ := two_cells b3
  obtain ⟨u3, v3⟩ := two_cells b4
  obtain ⟨u4, v4⟩ := two_cells b5
  obtain ⟨q0, q1, q2⟩ := maker_cells HM8.out.1
  clear b0 b1 b2 b3 b4 b5
  dsimp only at r0 r1 r2 r3 r4 r5 r6 r7 r8 r9 r10 r11 r12 r13
  generalize mNum s7 136 12 8 n11 wide = s8 at *
  go_wp2_with fail
  (with_reducible refine (text_at g B s8 wide 157 100 157 100 ln W8 rfl rfl (by omega) HM8.out (by decide)).mono ?_)
  rintro e W9 ⟨rfl, hm9, hb9⟩
  have HM9 := Lib.hid hm9
  have HBn9 := Lib.hid (bun_but HBn8.out hb9 HG.out)
  have HB9 := Lib.hid (HB8.out.trans (hb9.below HF0.out HB8.out.size))
  clear r0 r1 r2 r3 r4 r5 r6 r7 r8 r9 r10 r11 r12 r13 u0 u1 u2 u3 u4 v0 v1 v2 v3 v4 q0 q1 q2
  clear hm9 hb9 HM8 HBn8 HB8
  obtain ⟨b0, b1, b2, b3, b4, b5⟩ := HBn9.out
  obtain ⟨r0, r1, r2, r3, r4, r5, r6, r7, r8, r9, r10, r11, r12, r13⟩ := raw_cells b0
  obtain ⟨u0, v0⟩ := two_cells b1
  obtain ⟨u1, v1⟩ := two_cells b2
  obtain ⟨u2, v2⟩ := two_cells b3
  obtain ⟨u3, v3⟩ := two_cells b4
  obtain ⟨u4, v4⟩ := two_cells b5
  obtain ⟨q0, q1, q2⟩ := maker_cells HM9.out.1
  clear b0 b1 b2 b3 b4 b5
  dsimp only at r0 r1 r2 r3 r4 r5 r6 r7 r8 r9 r10 r11 r12 r13
  generalize mText s8 157 100 ln = s9 at *
  by_cases hm0 : mk = 0
  · have d3 : (mk != 0) = false := bne_eq_false_iff_eq.2 hm0
    have hf := HFQ.out
    clear HFQ
    rw [if_pos hm0] at hf
    have HFQ := Lib.hid hf
    clear hf
    clear hm0
    obtain ⟨xs, ec⟩ := s9
    have HFX := Lib.hid (show Bytes xs from by have h := HFB.out; rw [HFQ.out] at h; exact h)
    have HF1 := Lib.hid (show F.1 = xs by rw [HFQ.out])
    have HF2 := Lib.hid (show F.2 = ec by rw [HFQ.out])
    dsimp only at HM9 q2
    clear HFQ HFB
    by_cases he : ec = 0
    · subst he
      go_upto_region 21 with (fail)
      have hcB := maker_cell HM9.out 156 (by decide)
      have hfz : W9.frozen? ⟨B, 156, none⟩ = false := maker_free HM9.out.2.1 156
      go_region
      have hMF := maker_set (w := W9) HM9.out 156 fl (by decide)
      have hTF : Below w.heap.size w (W9.setCell ⟨B, 156, none⟩ (.int .u8 fl)).drew := Below.drew (Below.setCell HB9.out (HF0.out B (Or.inr rfl)) _)
      have HMF := Lib.hid hMF
      have HTF := Lib.hid hTF
      have HTT := Lib.hid (tab8_below HT.out hTF)
      have HSF := Lib.hid (sum_seal_at (w := (W9.setCell ⟨B, 156, none⟩ (.int .u8 fl)).drew) HMF.out (bytes_set HFX.out 156 fl HFL.out) HTT.out)
      clear hMF hTF hcB hfz
      obtain ⟨f0, f1, f2⟩ := maker_cells HMF.out.1
      go_wp2_with fail
      (with_reducible refine HSF.out.mono ?_)
      rintro e WG ⟨v, rfl, ho, hbG⟩
      have HO := Lib.hid (own_weaken ho HTF.out.size)
      have HBG := Lib.hid (HTF.out.trans (hbG.mono HTF.out.size))
      clear ho hbG HSF
      go_wp2_with fail
      go_ret2
      refine ⟨_, by rw [HF2.out]; rfl, fun h => absurd HF2.out h, fun _ => ?_, HBG.out⟩
      rw [HF1.out]
      exact HO.out
    · have d5 : (ec != 0) = true := bne_iff_ne.2 he
      have HNE := Lib.hid he
      clear he
      go_wp2_with fail
      go_quiet (fail)
      go_wp2_with fail
      go_ret2
      exact ⟨_, by rw [HF2.out]; rfl, fun _ => rfl, fun h => absurd (HF2.out.symm.trans h) HNE.out, ⟨HB9.out.os, HB9.out.tape, HB9.out.output, HB9.out.size, HB9.out.block⟩⟩
  · have d3 : (mk != 0) = true := bne_iff_ne.2 hm0
    have hf := HFQ.out
    clear HFQ
    rw [if_neg hm0] at hf
    have HFQ := Lib.hid hf
    clear hf
    have HM0 := Lib.hid hm0
    clear hm0
    go_upto_region 15 with (fail)
    have hcp := run_copy_str_at (P := Tryd.prog) W9 25 9 3 5 B 257 255 255 ⟨#[117, 115, 116, 97, 114, 32, 32, 0]⟩ (nums .u8 s9.1) Tryd.underlying25 (by kernel_rfl) HM9.out.2.1 (by decide) (by have h3 := HM9.out.2.2.1; simp [nums, h3]; decide)
    rw [byteCells_nums, splice_nums] at hcp
    have hcut := cut257 B
    obtain ⟨xr, hxr⟩ : ∃ xr, xr = (nums .u8 (splice s9.1 257 (bytesOf ⟨#[117, 115, 116, 97, 114, 32, 32, 0]⟩))).toArray := ⟨_, rfl⟩
    rw [← hxr] at hcp
    have hbW : But (MkF g B) W9 (W9.setRow B xr) := But.setRow _ _ _ (Or.inr rfl)
    have hmW := maker_row (ys := splice s9.1 257 ustarG) HM9.out (But.setRow W9 B xr rfl) (by rw [hxr]; exact setRow_heap_at W9 B _ _ 5 (0, 0) HM9.out.2.1) (by have h3 := HM9.out.2.2.1; unfold splice; simp [h3, ustarG])
    clear hxr
    have HCP := Lib.hid hcp
    go_upto_region 16 with (fail)
    generalize W9.setRow B xr = W10 at *
    have hm10 := hmW
    have hb10 := hbW
    clear hmW hbW hcp HCP hcut
    have HM10 := Lib.hid hm10
    have HBn10 := Lib.hid (bun_but HBn9.out hb10 HG.out)
    have HB10 := Lib.hid (HB9.out.trans (hb10.below HF0.out HB9.out.size))
    clear r0 r1 r2 r3 r4 r5 r6 r7 r8 r9 r10 r11 r12 r13 u0 u1 u2 u3 u4 v0 v1 v2 v3 v4 q0 q1 q2
    clear hm10 hb10 HM9 HBn9 HB9
    obtain ⟨b0, b1, b2, b3, b4, b5⟩ := HBn10.out
    obtain ⟨r0, r1, r2, r3, r4, r5, r6, r7, r8, r9, r10, r11, r12, r13⟩ := raw_cells b0
    obtain ⟨u0, v0⟩ := two_cells b1
    obtain ⟨u1, v1⟩ := two_cells b2
    obtain ⟨u2, v2⟩ := two_cells b3
    obtain ⟨u3, v3⟩ := two_cells b4
    obtain ⟨u4, v4⟩ := two_cells b5
    obtain ⟨q0, q1, q2⟩ := maker_cells HM10.out.1
    clear b0 b1 b2 b3 b4 b5
    dsimp only at r0 r1 r2 r3 r4 r5 r6 r7 r8 r9 r10 r11 r12 r13
    generalize splice s9.1 257 ustarG = xb at *
    generalize s9.2 = eb at *
    by_cases hm1 : mk = 1
    · have d4 : (mk == 1) = true := beq_iff_eq.2 hm1
      have hf := HFQ.out
      clear HFQ
      rw [if_pos hm1] at hf
      have HFQ := Lib.hid hf
      clear hf
      clear hm1
      go_upto_region 17 with (fail)
      have hcp := run_copy_str_at (P := Tryd.prog) W10 25 9 3 5 B 257 255 255 ⟨#[117, 115, 116, 97, 114, 0, 48, 48]⟩ (nums .u8 xb) Tryd.underlying25 (by kernel_rfl) HM10.out.2.1 (by decide) (by have h3 := HM10.out.2.2.1; simp [nums, h3]; decide)
      rw [byteCells_nums, splice_nums] at hcp
      have hcut := cut257 B
      obtain ⟨xr, hxr⟩ : ∃ xr, xr = (nums .u8 (splice xb 257 (bytesOf ⟨#[117, 115, 116, 97, 114, 0, 48, 48]⟩))).toArray := ⟨_, rfl⟩
      rw [← hxr] at hcp
      have hbW : But (MkF g B) W10 (W10.setRow B xr) := But.setRow _ _ _ (Or.inr rfl)
      have hmW := maker_row (ys := splice xb 257 ustarP) HM10.out (But.setRow W10 B xr rfl) (by rw [hxr]; exact setRow_heap_at W10 B _ _ 5 (0, 0) HM10.out.2.1) (by have h3 := HM10.out.2.2.1; unfold splice; simp [h3, ustarP])
      clear hxr
      have HCP := Lib.hid hcp
      go_upto_region 18 with (fail)
      generalize W10.setRow B xr = W11 at *
      have hm11 := hmW
      have hb11 := hbW
      clear hmW hbW hcp HCP hcut
      have HM11 := Lib.hid hm11
      have HBn11 := Lib.hid (bun_but HBn10.out hb11 HG.out)
      have HB11 := Lib.hid (HB10.out.trans (hb11.below HF0.out HB10.out.size))
      clear r0 r1 r2 r3 r4 r5 r6 r7 r8 r9 r10 r11 r12 r13 u0 u1 u2 u3 u4 v0 v1 v2 v3 v4 q0 q1 q2
      clear hm11 hb11 HM10 HBn10 HB10
      obtain ⟨b0, b1, b2, b3, b4, b5⟩ := HBn11.out
      obtain ⟨r0, r1, r2, r3, r4, r5, r6, r7, r8, r9, r10, r11, r12, r13⟩ := raw_cells b0
      obtain ⟨u0, v0⟩ := two_cells b1
      obtain ⟨u1, v1⟩ := two_cells b2
      obtain ⟨u2, v2⟩ := two_cells b3
      obtain ⟨u3, v3⟩ := two_cells b4
      obtain ⟨u4, v4⟩ := two_cells b5
      obtain ⟨q0, q1, q2⟩ := maker_cells HM11.out.1
      clear b0 b1 b2 b3 b4 b5
      dsimp only at r0 r1 r2 r3 r4 r5 r6 r7 r8 r9 r10 r11 r12 r13
      generalize splice xb 257 ustarP = xc at *
      have hlate := late_calls g B (xc, eb) { mark := mk, flag := fl, name := nm, link := ln, pre := pr, user := us, group := gr, mode := n7, uid := n8, gid := n9, size := n10, time := n11, major := n12, minor := n13 } wide dev W11 HM11.out Z3.out Z4.out Z5.out
      generalize lateOf (xc, eb) { mark := mk, flag := fl, name := nm, link := ln, pre := pr, user := us, group := gr, mode := n7, uid := n8, gid := n9, size := n10, time := n11, major := n12, minor := n13 } wide dev = s12 at hlate HFQ
      unfold rawC at hlate
      dsimp only at hlate
      have HLATE := Lib.hid hlate
      clear hlate
      go_wp2_with fail
      (with_reducible refine HLATE.out.mono ?_)
      rintro e W12 ⟨rfl, hm12, hb12⟩
      clear HLATE
      have HM12 := Lib.hid hm12
      have HBn12 := Lib.hid (bun_but HBn11.out hb12 HG.out)
      have HB12 := Lib.hid (HB11.out.trans (hb12.below HF0.out HB11.out.size))
      clear r0 r1 r2 r3 r4 r5 r6 r7 r8 r9 r10 r11 r12 r13 u0 u1 u2 u3 u4 v0 v1 v2 v3 v4 q0 q1 q2
      clear hm12 hb12 HM11 HBn11 HB11
      obtain ⟨b0, b1, b2, b3, b4, b5⟩ := HBn12.out
      obtain ⟨r0, r1, r2, r3, r4, r5, r6, r7, r8, r9, r10, r11, r12, r13⟩ := raw_cells b0
      obtain ⟨u0, v0⟩ := two_cells b1
      obtain ⟨u1, v1⟩ := two_cells b2
      obtain ⟨u2, v2⟩ := two_cells b3
      obtain ⟨u3, v3⟩ := two_cells b4
      obtain ⟨u4, v4⟩ := two_cells b5
      obtain ⟨q0, q1, q2⟩ := maker_cells HM12.out.1
      clear b0 b1 b2 b3 b4 b5
      dsimp only at r0 r1 r2 r3 r4 r5 r6 r7 r8 r9 r10 r11 r12 r13
      obtain ⟨xs, ec⟩ := s12
      have HFX := Lib.hid (show Bytes xs from by have h := HFB.out; rw [HFQ.out] at h; exact h)
      have HF1 := Lib.hid (show F.1 = xs by rw [HFQ.out])
      have HF2 := Lib.hid (show F.2 = ec by rw [HFQ.out])
      dsimp only at HM12 q2
      clear HFQ HFB
      by_cases he : ec = 0
      · subst he
        go_upto_region 21 with (fail)
        have hcB := maker_cell HM12.out 156 (by decide)
        have hfz : W12.frozen? ⟨B, 156, none⟩ = false := maker_free HM12.out.2.1 156
        go_region
        have hMF := maker_set (w := W12) HM12.out 156 fl (by decide)
        have hTF : Below w.heap.size w (W12.setCell ⟨B, 156, none⟩ (.int .u8 fl)).drew := Below.drew (Below.setCell HB12.out (HF0.out B (Or.inr rfl)) _)
        have HMF := Lib.hid hMF
        have HTF := Lib.hid hTF
        have HTT := Lib.hid (tab8_below HT.out hTF)
        have HSF := Lib.hid (sum_seal_at (w := (W12.setCell ⟨B, 156, none⟩ (.int .u8 fl)).drew) HMF.out (bytes_set HFX.out 156 fl HFL.out) HTT.out)
        clear hMF hTF hcB hfz
        obtain ⟨f0, f1, f2⟩ := maker_cells HMF.out.1
        go_wp2_with fail
        (with_reducible refine HSF.out.mono ?_)
        rintro e WG ⟨v, rfl, ho, hbG⟩
        have HO := Lib.hid (own_weaken ho HTF.out.size)
        have HBG := Lib.hid (HTF.out.trans (hbG.mono HTF.out.size))
        clear ho hbG HSF
        go_wp2_with fail
        go_ret2
        refine ⟨_, by rw [HF2.out]; rfl, fun h => absurd HF2.out h, fun _ => ?_, HBG.out⟩
        rw [HF1.out]
        exact HO.out
      · have d5 : (ec != 0) = true := bne_iff_ne.2 he
        have HNE := Lib.hid he
        clear he
        go_wp2_with fail
        go_quiet (fail)
        go_wp2_with fail
        go_ret2
        exact ⟨_, by rw [HF2.out]; rfl, fun _ => rfl, fun h => absurd (HF2.out.symm.trans h) HNE.out, ⟨HB12.out.os, HB12.out.tape, HB12.out.output, HB12.out.size, HB12.out.block⟩⟩
    · have d4 : (mk == 1) = false := beq_eq_false_iff_ne.2 hm1
      have hf := HFQ.out
      clear HFQ
      rw [if_neg hm1] at hf
      have HFQ := Lib.hid hf
      clear hf
      clear hm1
      have hlate := late_calls g B (xb, eb) { mark := mk, flag := fl, name := nm, link := ln, pre := pr, user := us, group := gr, mode := n7, uid := n8, gid := n9, size := n10, time := n11, major := n12, minor := n13 } wide dev W10 HM10.out Z3.out Z4.out Z5.out
      generalize lateOf (xb, eb) { mark := mk, flag := fl, name := nm, link := ln, pre := pr, user := us, group := gr, mode := n7, uid := n8, gid := n9, size := n10, time := n11, major := n12, minor := n13 } wide dev = s11 at hlate HFQ
      unfold rawC at hlate
      dsimp only at hlate
      have HLATE := Lib.hid hlate
      clear hlate
      go_wp2_with fail
      (with_reducible refine HLATE.out.mono ?_)
      rintro e W11 ⟨rfl, hm11, hb11⟩
      clear HLATE
      have HM11 := Lib.hid hm11
      have HBn11 := Lib.hid (bun_but HBn10.out hb11 HG.out)
      have HB11 := Lib.hid (HB10.out.trans (hb11.below HF0.out HB10.out.size))
      clear r0 r1 r2 r3 r4 r5 r6 r7 r8 r9 r10 r11 r12 r13 u0 u1 u2 u3 u4 v0 v1 v2 v3 v4 q0 q1 q2
      clear hm11 hb11 HM10 HBn10 HB10
      obtain ⟨b0, b1, b2, b3, b4, b5⟩ := HBn11.out
      obtain ⟨r0, r1, r2, r3, r4, r5, r6, r7, r8, r9, r10, r11, r12, r13⟩ := raw_cells b0
      obtain ⟨u0, v0⟩ := two_cells b1
      obtain ⟨u1, v1⟩ := two_cells b2
      obtain ⟨u2, v2⟩ := two_cells b3
      obtain ⟨u3, v3⟩ := two_cells b4
      obtain ⟨u4, v4⟩ := two_cells b5
      obtain ⟨q0, q1, q2⟩ := maker_cells HM11.out.1
      clear b0 b1 b2 b3 b4 b5
      dsimp only at r0 r1 r2 r3 r4 r5 r6 r7 r8 r9 r10 r11 r12 r13
      obtain ⟨xs, ec⟩ := s11
      have HFX := Lib.hid (show Bytes xs from by have h := HFB.out; rw [HFQ.out] at h; exact h)
      have HF1 := Lib.hid (show F.1 = xs by rw [HFQ.out])
      have HF2 := Lib.hid (show F.2 = ec by rw [HFQ.out])
      dsimp only at HM11 q2
      clear HFQ HFB
      by_cases he : ec = 0
      · subst he
        go_upto_region 21 with (fail)
        have hcB := maker_cell HM11.out 156 (by decide)
        have hfz : W11.frozen? ⟨B, 156, none⟩ = false := maker_free HM11.out.2.1 156
        go_region
        have hMF := maker_set (w := W11) HM11.out 156 fl (by decide)
        have hTF : Below w.heap.size w (W11.setCell ⟨B, 156, none⟩ (.int .u8 fl)).drew := Below.drew (Below.setCell HB11.out (HF0.out B (Or.inr rfl)) _)
        have HMF := Lib.hid hMF
        have HTF := Lib.hid hTF
        have HTT := Lib.hid (tab8_below HT.out hTF)
        have HSF := Lib.hid (sum_seal_at (w := (W11.setCell ⟨B, 156, none⟩ (.int .u8 fl)).drew) HMF.out (bytes_set HFX.out 156 fl HFL.out) HTT.out)
        clear hMF hTF hcB hfz
        obtain ⟨f0, f1, f2⟩ := maker_cells HMF.out.1
        go_wp2_with fail
        (with_reducible refine HSF.out.mono ?_)
        rintro e WG ⟨v, rfl, ho, hbG⟩
        have HO := Lib.hid (own_weaken ho HTF.out.size)
        have HBG := Lib.hid (HTF.out.trans (hbG.mono HTF.out.size))
        clear ho hbG HSF
        go_wp2_with fail
        go_ret2
        refine ⟨_, by rw [HF2.out]; rfl, fun h => absurd HF2.out h, fun _ => ?_, HBG.out⟩
        rw [HF1.out]
        exact HO.out
      · have d5 : (ec != 0) = true := bne_iff_ne.2 he
        have HNE := Lib.hid he
        clear he
        go_wp2_with fail
        go_quiet (fail)
        go_wp2_with fail
        go_ret2
        exact ⟨_, by rw [HF2.out]; rfl, fun _ => rfl, fun h => absurd (HF2.out.symm.trans h) HNE.out, ⟨HB11.out.os, HB11.out.tape, HB11.out.output, HB11.out.size, HB11.out.block⟩⟩
theorem own_none (w : World) (B : Nat) : w.ownsRow B 5 1 (.slice none 0 0) ([] : List Int).length (nums .u8 []) := own_nil w B 5 1
theorem make_calls (r : Raw) (wide dev : Bool) (w : World) (hT : Tab8 w) (hfl : 0 ≤ r.flag ∧ r.flag ≤ 255) (h1 : r.name.size ≤ 100000) (h2 : r.link.size ≤ 100000) (h3 : r.user.size ≤ 100000) (h4 : r.group.size ≤ 100000) (h5 : r.pre.size ≤ 100000) :
    Calls Tryd.prog 8 #[.agg (rawC r), .bool wide, .bool dev] w fun e w' => ∃ v, e = .returned (.tuple #[v, .int .u8 (makeOf r wide dev).2]) ∧ w'.ownsRow w.heap.size 5 1 v (makeOf r wide dev).1.length (nums .u8 (makeOf r wide dev).1) ∧ Below w.heap.size w w' := by
  unfold makeOf
  by_cases h : r.mark < 0 ∨ 2 < r.mark
  · rw [if_pos h]
    refine (make_arg r wide dev w h).mono ?_
    rintro e w' ⟨rfl, hb⟩
    exact ⟨_, rfl, own_none _ _, hb⟩
  · rw [if_neg h]
    by_cases hk : knownB r.flag = false
    · rw [if_pos hk]
      refine (make_flag r wide dev w h hk).mono ?_
      rintro e w' ⟨rfl, hb⟩
      exact ⟨_, rfl, own_none _ _, hb⟩
    · rw [if_neg hk]
      refine (make_goes r wide dev w h (by simpa using hk) hfl hT h1 h2 h3 h4 h5 _ rfl).mono ?_
      rintro e w' ⟨v, rfl, hne, he, hb⟩
      dsimp only
      by_cases h0 : (makeB r wide dev).2 = 0
      · rw [if_pos h0]
        exact ⟨v, by rw [h0], he h0, hb⟩
      · rw [if_neg h0]
        rw [hne h0]
        exact ⟨_, rfl, own_none _ _, hb⟩
end Go.Proofs.YtoabboeongbloaaDoor.Maker
