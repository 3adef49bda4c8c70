/- Contracts of package sink's methods, each walked once: what the call returns, what the sink's block holds, and that nothing that existed before has changed; conditions stand with each. -/
import Derived.Test.YtddchfjdekfekaaHKit
import Derived.Test.YtddchfjdekfekaaRows
import Derived.WalkKit
import Derived.ProofKit
import Derived.BigQuiet
import Derived.Lib.SlBytesConst
import Derived.WalkLawsBesides
import Derived.Deep.RegionLaw
set_option linter.unusedVariables false
set_option linter.unusedSimpArgs false
namespace Go.Proofs.Ytddchfjdekfekaa.Hand
open Go.RowKit Go.Proofs.YtddchfjdekfekaaW.PrintWords Go.Proofs.YtddchfjdekfekaaW.PrintLast Go.Proofs.YtddchfjdekfekaaW.PrintMore Go.Proofs.YtddchfjdekfekaaW.HKit
theorem byteInfo : (Try.prog.info? 5).map (fun i => (i.zero, i.size, i.bytes)) = some (some (.int .u8 0), 1, 1) := by kernel_rfl
section
variable {P : Program} {ops : Array Oper} {o : Oper} {a : Act} {Q : Exit → Act → World → Prop} {K : Act → World → Prop}
/-- append of what is read, as one step of a region that draws its order. -/
theorem step_append_row {w0 W : World} {E : Prop} (base : Nat) (hgd : o.guard = none) (s x : Operand) (t e : TypeId) (k : IntKind) (bytes : Nat)
    (ho : o.op = .call { callee := .builtin .append, args := #[s, x], argTypes := #[t, t] })
    (ht : P.underlying t = some (.slice e)) (hinfo : (P.info? e).map (fun i => (i.zero, i.size, i.bytes)) = some (some (.int k 0), 1, bytes)) (hb0 : 0 < bytes)
    (v : Value) (xs ys : List Int) (A : Option Addr) (m c : Nat) (hs : a.eval s = v) (hx : a.eval x = .slice A m c)
    (HO : W.ownsRow base e 1 v xs.length (nums k xs)) (HR : (Kd.int k).C W A m ys) (HB : Below base w0 W) (hbase : base ≤ W.heap.size) (hl : (xs.length + m) * bytes ≤ 140737488355328)
    (h : ∀ v1 w1, w1.ownsRow base e 1 v1 (xs ++ ys).length (nums k (xs ++ ys)) → Below base w0 w1 → W.grownBy w1 v.ownBlock → (v1.ownBlock = v.ownBlock ∨ ∃ b, v1.ownBlock = some b ∧ W.heap.size ≤ b) → K (a.put o.dst v1) w1) :
    if Region.wanted o (yielded ops a.tmps) = true then Oper.wp P o a W K Q else E := by
  have hw : Region.wanted o (yielded ops a.tmps) = true := by simp [Region.wanted, hgd]
  obtain ⟨i0, hi, hzz⟩ := Option.map_eq_some_iff.1 hinfo
  simp only [Prod.mk.injEq] at hzz
  obtain ⟨hz0, hz1, hz2⟩ := hzz
  have hm : ys.length = m := C_len HR
  have hlen : xs.length + m ≤ 140737488355328 := Nat.le_trans (Nat.le_mul_of_pos_right _ hb0) hl
  have hrun : ∃ v1 w1, (Builtin.append_ #[t, t] o.type #[v, .slice A m c]).run P W = .ok v1 w1 ∧ w1.ownsRow base e 1 v1 (xs ++ ys).length (nums k (xs ++ ys)) ∧ W.grownBy w1 v.ownBlock ∧ (v1.ownBlock = v.ownBlock ∨ v1.ownBlock = some W.heap.size) := by
    rcases A with _ | ad
    · have h0 : m = 0 := by
        rcases Nat.eq_zero_or_pos m with h0 | h0
        · exact h0
        · obtain ⟨ad, h, _⟩ := HR.2.2 h0
          cases h
      subst h0
      obtain rfl : ys = [] := List.eq_nil_of_length_eq_zero hm
      refine ⟨v, W, ?_, by simpa using HO, World.grownBy.refl W _, .inl rfl⟩
      rcases HO.2 with ⟨rfl, hn⟩ | ⟨g, cap, cur, rfl, _, _, hnc, _⟩
      · simp [Builtin.append_, run_underlying ht, sizeOf, typeInfo, hi, Builtin.lenOf, Builtin.firstCells]
      · simp [Builtin.append_, run_underlying ht, sizeOf, typeInfo, hi, Builtin.lenOf, Builtin.firstCells, hnc, storeCells]
    · have hcells : ∀ j u, (nums k ys)[j]? = some u → W.cell? (ad.add j) = some u := by
        intro j u hu
        have hj : j < ys.length := by
          rcases Nat.lt_or_ge j ys.length with h | h
          · exact h
          · simp [nums, List.getElem?_eq_none h] at hu
        obtain ⟨ad', h', hc⟩ := Kd.at_int HR (j : Int) (by omega) (by omega)
        injection h' with h'
        subst h'
        rw [Int.toNat_natCast] at hc
        rw [hc, ← hu]
        simp [nums, rd, List.getD_eq_getElem?_getD, List.getElem?_eq_getElem hj]
      obtain ⟨v1, w1, hr, h2, h3, _, h5⟩ := run_append_own_at (P := P) W base t o.type e i0 (.int k 0) 1 bytes ht hi hz0 hz1 hz2 rfl (by omega) v xs.length (nums k xs) HO ad m c (nums k ys) (by simp [nums, hm]) hcells
        (by intro u hu; simp only [nums, List.mem_map] at hu; obtain ⟨q, _, rfl⟩ := hu; rfl) (by simp only [maxLen]; omega) hl hbase
      exact ⟨v1, w1, hr, by simpa [nums, hm] using h2, h3, h5⟩
  obtain ⟨v1, w1, hr, hown, hg, hat⟩ := hrun
  rw [if_pos hw]
  unfold Oper.wp execOp
  simp only [ho, resolve, invoke, builtin, Sem.run_bind, Sem.run_pure, Result.andThen_ok, List.map_toArray, List.map_cons, List.map_nil, hs, hx, hr]
  refine h v1 w1 hown (HB.grown hg hbase (own_base HO)) hg ?_
  rcases hat with hat | hat
  · exact .inl hat
  · exact .inr ⟨_, hat, Nat.le_refl _⟩
end
/-- A sink's block: what it has taken, its room. -/
def SinkAt (w : World) (B g : Nat) (xs : List Int) (room : Int) (bound : Bool) : Prop :=
  ∃ v, w.heap[g]? = some (.cells #[v, .int .i64 room, .bool bound] 45 (0, 0)) ∧ B ≤ g ∧ w.ownsRow B 5 1 v xs.length (nums .u8 xs)
/-- How many bytes go in. -/
def taken (room : Int) (bound : Bool) (n : Nat) : Nat := if bound = true ∧ room < (n : Int) then room.toNat else n
theorem new_calls (room : Int) (w : World) : Calls Try.prog 8 #[.int .i64 room] w fun e w' => ∃ g, e = .returned (.pointer (some ⟨g, 0, none⟩)) ∧ SinkAt w' w.heap.size g [] room (decide (0 ≤ room)) ∧ Below w.heap.size w w' := by
  go_enter Try.func8, Try.ntmps8
  go_wp2_with fail
  go_ret
  exact ⟨w.heap.size, rfl, ⟨.slice none 0 0, heap_alloc_new w _, Nat.le_refl _, ⟨rfl, .inl ⟨rfl, rfl⟩⟩⟩, (Below.refl _ _).alloc (Nat.le_refl _) _⟩
theorem take_nil (A : Option Addr) (n c : Nat) (w : World) : Calls Try.prog 10 #[.pointer none, .slice A n c] w fun e w' => e = .returned (.tuple #[.int .i64 0, .int .u8 1]) ∧ w = w' := by
  go_enter Try.func10, Try.ntmps10
  go_wp2_with fail
  go_ret2
  exact ⟨rfl, rfl⟩
theorem bytes_nil (w : World) : Calls Try.prog 12 #[.pointer none] w fun e w' => e = .returned (.slice none 0 0) ∧ w = w' := by
  go_enter Try.func12, Try.ntmps12
  go_wp2_with fail
  go_ret
  exact ⟨rfl, rfl⟩
theorem put_nil (A : Option Addr) (n c : Nat) (w : World) : Calls Try.prog 15 #[.pointer none, .slice A n c] w fun e w' => e = .returned (.int .u8 1) ∧ w = w' := by
  go_enter Try.func15, Try.ntmps15
  go_wp2_with fail
  go_ret
  exact ⟨rfl, rfl⟩
theorem pad_nil (w : World) : Calls Try.prog 16 #[.pointer none] w fun e w' => e = .returned (.int .u8 1) ∧ w = w' := by
  go_enter Try.func16, Try.ntmps16
  go_wp2_with fail
  go_ret
  exact ⟨rfl, rfl⟩
theorem count_nil (w : World) : Calls Try.prog 17 #[.pointer none] w fun e w' => e = .returned (.int .i64 0) ∧ w = w' := by
  go_enter Try.func17, Try.ntmps17
  go_wp2_with fail
  go_ret
  exact ⟨rfl, rfl⟩
set_option maxHeartbeats 4000000 in
set_option maxRecDepth 100000 in
theorem take_free (g : Nat) (A : Option Addr) (n c : Nat) (xs ys : List Int) (room : Int) (w : World) (B : Nat) (hS : SinkAt w B g xs room false) (hr : Kd.C (Kd.int .u8) w A n ys) (hc : n ≤ c) (hB : B ≤ w.heap.size) (hlen : xs.length + n ≤ 140737488355328) :
    Calls Try.prog 10 #[.pointer (some ⟨g, 0, none⟩), .slice A n c] w fun e w' => e = .returned (.tuple #[.int .i64 (n : Int), .int .u8 0]) ∧ SinkAt w' B g (xs ++ ys) room false ∧ Below B w w' := by
  obtain ⟨v, hg, hBg, hown⟩ := hS
  have hn : n ≤ 9223372036854775807 := hr.2.1
  have c0 : w.cell? ⟨g, 0, none⟩ = some v := by rw [blk_cell hg]; rfl
  have c1 : w.cell? ⟨g, 1, none⟩ = some (.int .i64 room) := by rw [blk_cell hg]; rfl
  have c2 : w.cell? ⟨g, 2, none⟩ = some (.bool false) := by rw [blk_cell hg]; rfl
  have f0 : w.frozen? ⟨g, 0, none⟩ = false := blk_frozen hg 0
  have hd : decide ((n : Int) < (n : Int)) = false := decide_eq_false (by omega)
  have HG := Aside0.mk hg
  have HO := Aside0.mk hown
  have HR := Aside0.mk hr
  clear hg hown hr
  go_enter Try.func10, Try.ntmps10
  go_wp2_with fail
  go_region_law (refine step_append_row (W := w.drew) B rfl (.tmp 31) (.tmp 34) 27 5 .u8 1 rfl Try.underlying27 byteInfo (by decide) v xs ys A n c (by simp [Act.eval, Act.put]) (by simp [Act.eval, Act.put]) HO.out HR.out (Below.refl B w.drew) hB (by omega) (fun v1 w1 h1 hb hgr hat => ?_); have hg1 := blk_grown (w := w.drew) HG.out hgr (own_ne (w := w.drew) HO.out HG.out (by decide)); have hne1 := own_ne h1 hg1 (by decide); obtain ⟨A1, c1', rfl, _⟩ := own_reads h1; have d0 := blk_cell hg1 0; have d1 := blk_cell hg1 1; have d2 := blk_cell hg1 2; have e0 := blk_frozen hg1 0; have e1 := blk_frozen hg1 1; have HW1 := Aside0.mk h1; have HG1 := Aside0.mk hg1; have HB1 := Aside0.mk hb; have HN1 := Aside0.mk hne1; clear h1 hg1 hb hgr hat hne1 c0 c1 c2 f0; simp only [List.getElem?_toArray, List.getElem?_cons_zero, List.getElem?_cons_succ] at d0 d1 d2)
  go_wp2_with fail
  go_ret2
  refine ⟨rfl, ⟨_, blk_set HG1.out 0 _, hBg, ?_⟩, ?_⟩
  · have := own_setCell HW1.out (p := ⟨g, 0, none⟩) HN1.out (.slice A1 (xs.length + ys.length) c1')
    rw [List.length_append] at this ⊢
    exact this
  · have hbw : Below B w w1 := ⟨HB1.out.os, HB1.out.tape, HB1.out.output, HB1.out.size, HB1.out.block⟩
    exact Below.setCell hbw (show B ≤ (⟨g, 0, none⟩ : Addr).block from hBg) _
set_option maxHeartbeats 4000000 in
set_option maxRecDepth 100000 in
theorem take_full (g : Nat) (A : Option Addr) (n c : Nat) (xs ys : List Int) (room : Int) (w : World) (B : Nat) (hS : SinkAt w B g xs room true) (hr0 : (n : Int) ≤ room) (hr1 : room ≤ 9223372036854775807) (hr : Kd.C (Kd.int .u8) w A n ys) (hc : n ≤ c) (hB : B ≤ w.heap.size) (hlen : xs.length + n ≤ 140737488355328) :
    Calls Try.prog 10 #[.pointer (some ⟨g, 0, none⟩), .slice A n c] w fun e w' => e = .returned (.tuple #[.int .i64 (n : Int), .int .u8 0]) ∧ SinkAt w' B g (xs ++ ys) (room - n) true ∧ Below B w w' := by
  obtain ⟨v, hg, hBg, hown⟩ := hS
  have hn : n ≤ 9223372036854775807 := hr.2.1
  have c0 : w.cell? ⟨g, 0, none⟩ = some v := by rw [blk_cell hg]; rfl
  have c1 : w.cell? ⟨g, 1, none⟩ = some (.int .i64 room) := by rw [blk_cell hg]; rfl
  have c2 : w.cell? ⟨g, 2, none⟩ = some (.bool true) := by rw [blk_cell hg]; rfl
  have f0 : w.frozen? ⟨g, 0, none⟩ = false := blk_frozen hg 0
  have hd : decide ((n : Int) < (n : Int)) = false := decide_eq_false (by omega)
  have hd1 : decide (room < (n : Int)) = false := decide_eq_false (by omega)
  have HG := Aside0.mk hg
  have HO := Aside0.mk hown
  have HR := Aside0.mk hr
  clear hg hown hr
  go_enter Try.func10, Try.ntmps10
  go_wp2_with fail
  go_region_law (refine step_append_row (W := w.drew) B rfl (.tmp 31) (.tmp 34) 27 5 .u8 1 rfl Try.underlying27 byteInfo (by decide) v xs ys A n c (by simp [Act.eval, Act.put]) (by simp [Act.eval, Act.put]) HO.out HR.out (Below.refl B w.drew) hB (by omega) (fun v1 w1 h1 hb hgr hat => ?_); have hg1 := blk_grown (w := w.drew) HG.out hgr (own_ne (w := w.drew) HO.out HG.out (by decide)); have hne1 := own_ne h1 hg1 (by decide); obtain ⟨A1, c1', rfl, _⟩ := own_reads h1; have d0 := blk_cell hg1 0; have d1 := blk_cell hg1 1; have d2 := blk_cell hg1 2; have e0 := blk_frozen hg1 0; have e1 := blk_frozen hg1 1; have HW1 := Aside0.mk h1; have HG1 := Aside0.mk hg1; have HB1 := Aside0.mk hb; have HN1 := Aside0.mk hne1; clear h1 hg1 hb hgr hat hne1 c0 c1 c2 f0; simp only [List.getElem?_toArray, List.getElem?_cons_zero, List.getElem?_cons_succ] at d0 d1 d2)
  go_wp2_with fail
  go_ret2
  refine ⟨rfl, ⟨_, blk_set (blk_set HG1.out 0 _) 1 _, hBg, ?_⟩, ?_⟩
  · have := own_setCell HW1.out (p := ⟨g, 0, none⟩) HN1.out (.slice A1 (xs.length + ys.length) c1')
    rw [List.length_append] at this ⊢
    exact own_setCell this (p := ⟨g, 1, none⟩) (by have := HN1.out; rwa [List.length_append] at this) _
  · have hbw : Below B w w1 := ⟨HB1.out.os, HB1.out.tape, HB1.out.output, HB1.out.size, HB1.out.block⟩
    exact Below.setCell (Below.setCell hbw (show B ≤ (⟨g, 0, none⟩ : Addr).block from hBg) _) (show B ≤ (⟨g, 1, none⟩ : Addr).block from hBg) _
set_option maxHeartbeats 4000000 in
set_option maxRecDepth 100000 in
theorem take_short (g : Nat) (A : Option Addr) (n c : Nat) (xs ys : List Int) (m : Nat) (w : World) (B : Nat) (hS : SinkAt w B g xs (m : Int) true) (hr0 : m < n) (hr : Kd.C (Kd.int .u8) w A n ys) (hc : n ≤ c) (hB : B ≤ w.heap.size) (hlen : xs.length + n ≤ 140737488355328) :
    Calls Try.prog 10 #[.pointer (some ⟨g, 0, none⟩), .slice A n c] w fun e w' => e = .returned (.tuple #[.int .i64 (m : Int), .int .u8 14]) ∧ SinkAt w' B g (xs ++ ys.take m) 0 true ∧ Below B w w' := by
  obtain ⟨v, hg, hBg, hown⟩ := hS
  have hn : n ≤ 9223372036854775807 := hr.2.1
  have c0 : w.cell? ⟨g, 0, none⟩ = some v := by rw [blk_cell hg]; rfl
  have c1 : w.cell? ⟨g, 1, none⟩ = some (.int .i64 (m : Int)) := by rw [blk_cell hg]; rfl
  have c2 : w.cell? ⟨g, 2, none⟩ = some (.bool true) := by rw [blk_cell hg]; rfl
  have f0 : w.frozen? ⟨g, 0, none⟩ = false := blk_frozen hg 0
  have hd : decide ((m : Int) < (n : Int)) = true := decide_eq_true (by omega)
  have hl := C_len hr
  have htk : Kd.C (Kd.int .u8) w A m (ys.take m) := by
    have := Kd.C_take (m := m) (by rw [hl]; exact hr) (by omega)
    rwa [List.length_take, Nat.min_eq_left (by omega)] at this
  have HT := Aside0.mk htk
  have hmn : m ≤ n := by omega
  have hmc : m ≤ c := by omega
  clear htk hl
  have HG := Aside0.mk hg
  have HO := Aside0.mk hown
  have HR := Aside0.mk hr
  clear hg hown hr
  go_enter Try.func10, Try.ntmps10
  go_wp2_with fail
  go_region_law (refine step_append_row (W := w.drew) B rfl (.tmp 31) (.tmp 34) 27 5 .u8 1 rfl Try.underlying27 byteInfo (by decide) v xs (ys.take m) A m c (by simp [Act.eval, Act.put]) (by simp [Act.eval, Act.put]) HO.out HT.out (Below.refl B w.drew) hB (by omega) (fun v1 w1 h1 hb hgr hat => ?_); have hg1 := blk_grown (w := w.drew) HG.out hgr (own_ne (w := w.drew) HO.out HG.out (by decide)); have hne1 := own_ne h1 hg1 (by decide); obtain ⟨A1, c1', rfl, _⟩ := own_reads h1; have d0 := blk_cell hg1 0; have d1 := blk_cell hg1 1; have d2 := blk_cell hg1 2; have e0 := blk_frozen hg1 0; have e1 := blk_frozen hg1 1; have HW1 := Aside0.mk h1; have HG1 := Aside0.mk hg1; have HB1 := Aside0.mk hb; have HN1 := Aside0.mk hne1; clear h1 hg1 hb hgr hat hne1 c0 c1 c2 f0; simp only [List.getElem?_toArray, List.getElem?_cons_zero, List.getElem?_cons_succ] at d0 d1 d2)
  go_wp2_with fail
  go_ret2
  refine ⟨rfl, ⟨_, blk_set (blk_set HG1.out 0 _) 1 _, hBg, ?_⟩, ?_⟩
  · have q1 := HW1.out
    have q2 := HN1.out
    simp only [List.length_append, List.length_take] at q1 q2 ⊢
    exact own_setCell (own_setCell q1 (p := ⟨g, 0, none⟩) q2 _) (p := ⟨g, 1, none⟩) q2 _
  · have hbw : Below B w w1 := ⟨HB1.out.os, HB1.out.tape, HB1.out.output, HB1.out.size, HB1.out.block⟩
    exact Below.setCell (Below.setCell hbw (show B ≤ (⟨g, 0, none⟩ : Addr).block from hBg) _) (show B ≤ (⟨g, 1, none⟩ : Addr).block from hBg) _
set_option maxRecDepth 100000 in
theorem clone_calls (v : Value) (xs : List Int) (w : World) (B : Nat) (hown : w.ownsRow B 5 1 v xs.length (nums .u8 xs)) (hlen : xs.length ≤ 140737488355328) :
    Calls Try.prog 18 #[v] w fun e w' => ∃ v1, e = .returned v1 ∧ w'.ownsRow w.heap.size 5 1 v1 xs.length (nums .u8 xs) ∧ Below w.heap.size w w' := by
  rcases id hown with ⟨hl, ⟨rfl, hn⟩ | ⟨g, cap, cur, rfl, hg, hcell, hnc, hcm, hcs, htk⟩⟩
  · obtain rfl : xs = [] := List.eq_nil_of_length_eq_zero hn
    clear hown hl hn
    have heq : ∀ W : World, (binOp .eql 27 (.slice none 0 0) (.slice none 0 0)).run Try.prog W = .ok (.bool true) W := fun W => Lib.run_eql_slice_nil W 27 5 none 0 0 0 0 Try.underlying27
    go_enter Try.func18, Try.ntmps18
    go_wp2_with fail
    go_ret
    exact ⟨_, rfl, ⟨rfl, .inl ⟨rfl, rfl⟩⟩, Below.refl _ _⟩
  · obtain ⟨A, c, hv, hr⟩ := own_reads hown
    injection hv with ev1 ev2 ev3
    subst ev1
    have HR := Aside0.mk hr
    clear hown hl hcell hnc hcm hcs htk hr ev2 ev3
    have how : (w.alloc (.cells #[] 5)).ownsRow w.heap.size 5 1 (.slice (some ⟨w.heap.size, 0, none⟩) 0 0) ([] : List Int).length (nums .u8 []) := ⟨rfl, .inr ⟨w.heap.size, 0, #[], rfl, Nat.le_refl _, heap_alloc_new w _, Nat.le_refl _, Nat.zero_le _, rfl, rfl⟩⟩
    have hba : Below w.heap.size w (w.alloc (.cells #[] 5)) := (Below.refl _ _).alloc (Nat.le_refl _) _
    have HO := Aside0.mk how
    have HB := Aside0.mk hba
    clear how hba
    have heq : ∀ W : World, (binOp .eql 27 (.slice (some ⟨g, 0, none⟩) xs.length cap) (.slice none 0 0)).run Try.prog W = .ok (.bool false) W := fun W => Lib.run_eql_slice_nil W 27 5 (some ⟨g, 0, none⟩) xs.length cap 0 0 Try.underlying27
    go_enter Try.func18, Try.ntmps18
    go_wp2_with (at_builtin; refine print_append_row (w0 := w) (W := w.alloc (.cells #[] 5)) w.heap.size rfl (.tmp 5) (.tmp 6) 27 5 .u8 1 rfl Try.underlying27 byteInfo (by decide) (.slice (some ⟨w.heap.size, 0, none⟩) 0 0) [] xs (some ⟨g, 0, none⟩) xs.length cap rfl rfl HO.out (ReadsInt.below HR.out HB.out) HB.out (by simp) (by simp; omega) (fun v1 w1 h1 hb _ _ => ?_))
    go_ret
    exact ⟨_, rfl, by simpa using h1, hb⟩
theorem bytes_calls (g : Nat) (xs : List Int) (room : Int) (bound : Bool) (w : World) (B : Nat) (hS : SinkAt w B g xs room bound) (hlen : xs.length ≤ 140737488355328) :
    Calls Try.prog 12 #[.pointer (some ⟨g, 0, none⟩)] w fun e w' => ∃ v1, e = .returned v1 ∧ w'.ownsRow w.heap.size 5 1 v1 xs.length (nums .u8 xs) ∧ Below w.heap.size w w' := by
  obtain ⟨v, hg, hBg, hown⟩ := hS
  have c0 : w.cell? ⟨g, 0, none⟩ = some v := by rw [blk_cell hg]; rfl
  have HC := Aside0.mk (clone_calls v xs w B hown hlen)
  clear hg hown
  go_enter Try.func12, Try.ntmps12
  go_wp2_with fail
  refine HC.out.mono ?_
  rintro e w' ⟨v1, rfl, h1, hb⟩
  go_wp2_with fail
  go_ret
  exact ⟨v1, rfl, h1, hb⟩
theorem SinkAt.alloc {w : World} {B g : Nat} {xs : List Int} {room : Int} {bound : Bool} (h : SinkAt w B g xs room bound) (o : Obj) : SinkAt (w.alloc o) B g xs room bound := by
  obtain ⟨v, hg, hB, ho⟩ := h
  exact ⟨v, (Below.heap_alloc _ _ _ (blk_lt hg)).trans hg, hB, ho.alloc _⟩
/-- The bytes of a constant that was made a slice. -/
theorem lit_C (w : World) (xs : List Int) (fr : Nat × Nat) (hl : xs.length ≤ 9223372036854775807) : Kd.C (Kd.int .u8) (w.alloc (.cells (nums .u8 xs).toArray 5 fr)) (some ⟨w.heap.size, 0, none⟩) xs.length xs := by
  refine Kd.C_of_reads (d := (0 : Int)) (h1 := fun _ => rfl) ⟨rfl, hl, fun hp => ⟨_, rfl, fun j hj => ?_⟩⟩
  rw [add_plain, cell_of_row _ w.heap.size j (nums .u8 xs).toArray 5 fr (heap_alloc_new w _)]
  simp [nums, List.getElem?_eq_getElem hj, List.getD_eq_getElem?_getD]
set_option maxHeartbeats 4000000 in
set_option maxRecDepth 100000 in
theorem alive_calls (w : World) : Calls Try.prog 6 #[] w fun e w' => e = .returned (.bool true) ∧ Below w.heap.size w w' := by
  go_enter Try.func6, Try.ntmps6
  go_wp2_with fail
  refine (new_calls 3 _).mono ?_
  rintro e w1 ⟨g, rfl, hS, hb⟩
  have hle := hb.size
  have hcv := Lib.run_convert_bytes_const (P := Try.prog) w1 27 5 #[.int .u8 97, .int .u8 98, .int .u8 99, .int .u8 100, .int .u8 101] 5 5 Try.underlying27 Try.underlying5
  have hT := take_short g (some ⟨w1.heap.size, 0, none⟩) 5 5 [] [97, 98, 99, 100, 101] 3 _ w.heap.size (hS.alloc (.cells #[.int .u8 97, .int .u8 98, .int .u8 99, .int .u8 100, .int .u8 101] 5 (5, 6))) (by decide) (lit_C w1 [97, 98, 99, 100, 101] (5, 6) (by decide)) (Nat.le_refl _) (by simp; omega) (by decide)
  have HT := Lib.hid hT
  have HB := Aside0.mk (hb.alloc hle (.cells #[.int .u8 97, .int .u8 98, .int .u8 99, .int .u8 100, .int .u8 101] 5 (5, 6)))
  clear hS hb hT
  go_wp2_with fail
  refine HT.out.mono ?_
  rintro e w2 ⟨rfl, hS2, hb2⟩
  have HB2 := Aside0.mk (HB.out.trans hb2)
  have hle2 := (HB.out.trans hb2).size
  clear HT HB hb2 hcv
  have hcv := Lib.run_convert_bytes_const (P := Try.prog) w2 27 5 #[.int .u8 102] 1 1 Try.underlying27 Try.underlying5
  have hT := take_short g (some ⟨w2.heap.size, 0, none⟩) 1 1 ([] ++ [97, 98, 99, 100, 101].take 3) [102] 0 _ w.heap.size (hS2.alloc (.cells #[.int .u8 102] 5 (1, 2))) (by decide) (lit_C w2 [102] (1, 2) (by decide)) (Nat.le_refl _) (by simp; omega) (by decide)
  have HT := Lib.hid hT
  have HB := Aside0.mk (HB2.out.alloc hle2 (.cells #[.int .u8 102] 5 (1, 2)))
  clear hS2 hT HB2
  go_wp2_with fail
  refine HT.out.mono ?_
  rintro e w3 ⟨rfl, hS3, hb3⟩
  have HB3 := Aside0.mk (HB.out.trans hb3)
  have HY := Lib.hid (bytes_calls g _ _ _ w3 w.heap.size hS3 (by decide))
  clear HT HB hb3 hcv
  go_wp2_with fail
  refine HY.out.mono ?_
  rintro e w4 ⟨v1, rfl, ho, hb⟩
  have hcs : ∀ X : ByteArray, strOfNums ([] ++ List.take 3 [97, 98, 99, 100, 101] ++ List.take 0 [102]) = X → (convert 27 9 v1).run Try.prog w4 = .ok (.string X) w4 := fun X hX => by
    rw [← hX]
    exact own_string Try.underlying27 Try.underlying5 Try.underlying9 ho
  replace hcs := hcs ⟨#[97, 98, 99]⟩ rfl
  have HB4 := Aside0.mk (HB3.out.trans (Below.mono hb HB3.out.size))
  clear ho hb HY HB3
  go_wp2_with fail
  go_ret
  exact ⟨rfl, HB4.out⟩
/-- A writer's block. -/
def WriterAt (w : World) (g : Nat) (sk : Option Addr) (count code : Int) : Prop := w.heap[g]? = some (.cells #[.pointer sk, .int .i64 count, .int .u8 code] 48 (0, 0))
theorem newWriter_calls (sk : Option Addr) (w : World) : Calls Try.prog 13 #[.pointer sk] w fun e w' => ∃ g, e = .returned (.pointer (some ⟨g, 0, none⟩)) ∧ w.heap.size ≤ g ∧ WriterAt w' g sk 0 0 ∧ Below w.heap.size w w' := by
  go_enter Try.func13, Try.ntmps13
  go_wp2_with fail
  go_ret
  exact ⟨w.heap.size, rfl, Nat.le_refl _, heap_alloc_new w _, (Below.refl _ _).alloc (Nat.le_refl _) _⟩
theorem put_bare (g : Nat) (A : Option Addr) (n c : Nat) (w : World) (hW : WriterAt w g none 0 0) : Calls Try.prog 15 #[.pointer (some ⟨g, 0, none⟩), .slice A n c] w fun e w' => e = .returned (.int .u8 1) ∧ w = w' := by
  have c0 : w.cell? ⟨g, 0, none⟩ = some (.pointer none) := by rw [blk_cell hW]; rfl
  have c1 : w.cell? ⟨g, 1, none⟩ = some (.int .i64 0) := by rw [blk_cell hW]; rfl
  have c2 : w.cell? ⟨g, 2, none⟩ = some (.int .u8 0) := by rw [blk_cell hW]; rfl
  clear hW
  go_enter Try.func15, Try.ntmps15
  go_wp2_with fail
  refine (take_nil A n c w).mono ?_
  rintro e w' ⟨rfl, rfl⟩
  go_wp2_with fail
  go_ret
  exact ⟨rfl, rfl⟩
theorem count_calls (g : Nat) (sk : Option Addr) (count code : Int) (w : World) (hW : WriterAt w g sk count code) : Calls Try.prog 17 #[.pointer (some ⟨g, 0, none⟩)] w fun e w' => e = .returned (.int .i64 count) ∧ w = w' := by
  have c1 : w.cell? ⟨g, 1, none⟩ = some (.int .i64 count) := by rw [blk_cell hW]; rfl
  clear hW
  go_enter Try.func17, Try.ntmps17
  go_wp2_with fail
  go_ret
  exact ⟨rfl, rfl⟩
set_option maxHeartbeats 4000000 in
set_option maxRecDepth 100000 in
theorem sinkNil_calls (A : Option Addr) (n c : Nat) (w : World) : Calls Try.prog 5 #[.slice A n c] w fun e w' => e = .returned (.bool true) ∧ Below w.heap.size w w' := by
  by_cases hn : 2000 < n
  · have hd : decide (2000 < (n : Int)) = true := decide_eq_true (by omega)
    have hd' : decide (2000 < n) = true := decide_eq_true hn
    go_enter Try.func5, Try.ntmps5
    go_wp2_with fail
    refine (alive_calls _).mono ?_
    rintro e w1 ⟨rfl, hb⟩
    go_wp2_with fail
    go_ret
    exact ⟨rfl, hb⟩
  · have hd : decide (2000 < (n : Int)) = false := decide_eq_false (by omega)
    have hd' : decide (2000 < n) = false := decide_eq_false hn
    go_enter Try.func5, Try.ntmps5
    go_wp2_with fail
    refine (alive_calls _).mono ?_
    rintro e w1 ⟨rfl, hb⟩
    have HB := Aside0.mk hb
    clear hb
    go_wp2_with fail
    refine (take_nil A n c w1).mono ?_
    rintro e w' ⟨rfl, rfl⟩
    go_wp2_with fail
    refine (newWriter_calls none w1).mono ?_
    rintro e w2 ⟨g, rfl, hg, hW, hb⟩
    have HB2 := Aside0.mk (below_step HB.out hb)
    have HW := Aside0.mk hW
    clear hb hW HB
    go_wp2_with fail
    refine (bytes_nil w2).mono ?_
    rintro e w' ⟨rfl, rfl⟩
    go_wp2_with fail
    refine (put_nil A n c w2).mono ?_
    rintro e w' ⟨rfl, rfl⟩
    go_wp2_with fail
    refine (pad_nil w2).mono ?_
    rintro e w' ⟨rfl, rfl⟩
    go_wp2_with fail
    refine (count_nil w2).mono ?_
    rintro e w' ⟨rfl, rfl⟩
    go_wp2_with fail
    refine (put_bare g A n c w2 HW.out).mono ?_
    rintro e w' ⟨rfl, rfl⟩
    go_wp2_with fail
    refine (count_calls g none 0 0 w2 HW.out).mono ?_
    rintro e w' ⟨rfl, rfl⟩
    go_wp2_with fail
    go_ret
    exact ⟨rfl, HB2.out⟩
end Go.Proofs.Ytddchfjdekfekaa.Hand
