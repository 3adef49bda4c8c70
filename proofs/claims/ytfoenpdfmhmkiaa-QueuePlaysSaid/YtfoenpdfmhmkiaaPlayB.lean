/- Whether a queue has the document's things; the document's queue: contracts, with the conditions that stand with each. -/
import Derived.Test.YtfoenpdfmhmkiaaPlayA
import Derived.Deep.RegionLaw
import Derived.Deep.RegionHeld3
set_option linter.unusedVariables false
set_option linter.unusedSimpArgs false
namespace Go.Proofs.YtfoenpdfmhmkiaaPlay
open Go.RowKit Go.Proofs.YtfoenpdfmhmkiaaW.PrintWords Go.Proofs.YtfoenpdfmhmkiaaW.PrintLast Go.Proofs.YtfoenpdfmhmkiaaW.PrintMore Go.Proofs.YtfoenpdfmhmkiaaW.HKit Go.Proofs.YtfoenpdfmhmkiaaW.But Go.Proofs.Ytfoenpdfmhmkiaa.PQueuePlays
theorem two_allocs {w W : World} {a b : Obj} (h : W = (w.alloc a).alloc b) : Below w.heap.size w W ∧ W.heap[w.heap.size]? = some a ∧ W.heap[w.heap.size + 1]? = some b := by
  subst h
  have s1 : (w.alloc a).heap.size = w.heap.size + 1 := by simp
  refine ⟨(((Below.refl _ w).alloc (Nat.le_refl _) a).alloc (by omega) b), ?_, ?_⟩
  · rw [Below.heap_alloc _ _ _ (by omega)]; exact heap_alloc_new w a
  · rw [← s1]; exact heap_alloc_new _ b
section
variable {P : Program} {ops : Array Oper} {o : Oper} {a : Act} {Q : Exit → Act → World → Prop} {K : Act → World → Prop}
/-- append of what is read, as one step of a region that draws its order. -/
theorem step_append_row {w0 W : World} {E : Prop} (base : Nat) (hgd : o.guard = none) (s x : Operand) (t e : TypeId) (k : IntKind) (bytes : Nat)
    (ho : o.op = .call { callee := .builtin .append, args := #[s, x], argTypes := #[t, t] })
    (ht : P.underlying t = some (.slice e)) (hinfo : (P.info? e).map (fun i => (i.zero, i.size, i.bytes)) = some (some (.int k 0), 1, bytes)) (hb0 : 0 < bytes)
    (v : Value) (xs ys : List Int) (A : Option Addr) (m c : Nat) (hs : a.eval s = v) (hx : a.eval x = .slice A m c)
    (HO : W.ownsRow base e 1 v xs.length (nums k xs)) (HR : (Kd.int k).C W A m ys) (HB : Below base w0 W) (hbase : base ≤ W.heap.size) (hl : (xs.length + m) * bytes ≤ 140737488355328)
    (h : ∀ v1 w1, w1.ownsRow base e 1 v1 (xs ++ ys).length (nums k (xs ++ ys)) → Below base w0 w1 → W.grownBy w1 v.ownBlock → (v1.ownBlock = v.ownBlock ∨ ∃ b, v1.ownBlock = some b ∧ W.heap.size ≤ b) → K (a.put o.dst v1) w1) :
    if Region.wanted o (yielded ops a.tmps) = true then Oper.wp P o a W K Q else E := by
  have hw : Region.wanted o (yielded ops a.tmps) = true := by simp [Region.wanted, hgd]
  obtain ⟨i0, hi, hzz⟩ := Option.map_eq_some_iff.1 hinfo
  simp only [Prod.mk.injEq] at hzz
  obtain ⟨hz0, hz1, hz2⟩ := hzz
  have hm : ys.length = m := C_len HR
  have hlen : xs.length + m ≤ 140737488355328 := Nat.le_trans (Nat.le_mul_of_pos_right _ hb0) hl
  have hrun : ∃ v1 w1, (Builtin.append_ #[t, t] o.type #[v, .slice A m c]).run P W = .ok v1 w1 ∧ w1.ownsRow base e 1 v1 (xs ++ ys).length (nums k (xs ++ ys)) ∧ W.grownBy w1 v.ownBlock ∧ (v1.ownBlock = v.ownBlock ∨ v1.ownBlock = some W.heap.size) := by
    rcases A with _ | ad
    · have h0 : m = 0 := by
        rcases Nat.eq_zero_or_pos m with h0 | h0
        · exact h0
        · obtain ⟨ad, h, _⟩ := HR.2.2 h0
          cases h
      subst h0
      obtain rfl : ys = [] := List.eq_nil_of_length_eq_zero hm
      refine ⟨v, W, ?_, by simpa using HO, World.grownBy.refl W _, .inl rfl⟩
      rcases HO.2 with ⟨rfl, hn⟩ | ⟨g, cap, cur, rfl, _, _, hnc, _⟩
      · simp [Builtin.append_, run_underlying ht, sizeOf, typeInfo, hi, Builtin.lenOf, Builtin.firstCells]
      · simp [Builtin.append_, run_underlying ht, sizeOf, typeInfo, hi, Builtin.lenOf, Builtin.firstCells, hnc, storeCells]
    · have hcells : ∀ j u, (nums k ys)[j]? = some u → W.cell? (ad.add j) = some u := by
        intro j u hu
        have hj : j < ys.length := by
          rcases Nat.lt_or_ge j ys.length with h | h
          · exact h
          · simp [nums, List.getElem?_eq_none h] at hu
        obtain ⟨ad', h', hc⟩ := Kd.at_int HR (j : Int) (by omega) (by omega)
        injection h' with h'
        subst h'
        rw [Int.toNat_natCast] at hc
        rw [hc, ← hu]
        simp [nums, rd, List.getD_eq_getElem?_getD, List.getElem?_eq_getElem hj]
      obtain ⟨v1, w1, hr, h2, h3, _, h5⟩ := run_append_own_at (P := P) W base t o.type e i0 (.int k 0) 1 bytes ht hi hz0 hz1 hz2 rfl (by omega) v xs.length (nums k xs) HO ad m c (nums k ys) (by simp [nums, hm]) hcells
        (by intro u hu; simp only [nums, List.mem_map] at hu; obtain ⟨q, _, rfl⟩ := hu; rfl) (by simp only [maxLen]; omega) hl hbase
      exact ⟨v1, w1, hr, by simpa [nums, hm] using h2, h3, h5⟩
  obtain ⟨v1, w1, hr, hown, hg, hat⟩ := hrun
  rw [if_pos hw]
  unfold Oper.wp execOp
  simp only [ho, resolve, invoke, builtin, Sem.run_bind, Sem.run_pure, Result.andThen_ok, List.map_toArray, List.map_cons, List.map_nil, hs, hx, hr]
  refine h v1 w1 hown (HB.grown hg hbase (own_base HO)) hg ?_
  rcases hat with hat | hat
  · exact .inl hat
  · exact .inr ⟨_, hat, Nat.le_refl _⟩
end

theorem own_lit {W : World} {B g : Nat} (xs : List Int) (h : W.heap[g]? = some (.cells (nums .i64 xs).toArray 3 (0, 0))) (hB : B ≤ g) (hl : xs.length ≤ 1000000) : W.ownsRow B 3 1 (.slice (some ⟨g, 0, none⟩) xs.length xs.length) xs.length (nums .i64 xs) := by
  refine ⟨by simp [nums], .inr ⟨g, xs.length, (nums .i64 xs).toArray, rfl, hB, h, Nat.le_refl _, by simp only [maxLen]; omega, by simp [nums], ?_⟩⟩
  rw [Nat.mul_one, List.take_of_length_le (by simp [nums])]
def Old (w W : World) : Prop := Below w.heap.size w W
set_option maxHeartbeats 4000000 in
set_option maxRecDepth 100000 in
theorem is_q (o : Option (Nat × Nat)) (m : Nat) (l : List Int) (A : Option Addr) (c : Nat) (w : World) (h : QAt w o m l) :
    Calls Try.prog 14 #[qv o, .agg #[.slice A l.length c, .int .i64 (m : Int)]] w fun e w' => e = .returned (.bool true) ∧ Below w.heap.size w w' := by
  have hb : Below w.heap.size w (w.alloc (.cells #[.slice A l.length c, .int .i64 (m : Int)] 37)) := (Below.refl _ w).alloc (Nat.le_refl _) _
  have hq : QAt (w.alloc (.cells #[.slice A l.length c, .int .i64 (m : Int)] 37)) o m l := h.but (But.of_below (fun _ => False) hb) (fun _ h => h.elim)
  have hbox : (w.alloc (.cells #[.slice A l.length c, .int .i64 (m : Int)] 37)).heap[w.heap.size]? = some (.cells #[.slice A l.length c, .int .i64 (m : Int)] 37 (0, 0)) := heap_alloc_new w _
  have hml : (m : Int) ≤ 4096 ∧ (l.length : Int) ≤ 4096 := by
    match o, h with
    | none, h => obtain ⟨rfl, rfl⟩ := h; exact ⟨by decide, by decide⟩
    | some (q, c), h => obtain ⟨_, _, h1, h2, h3⟩ := h; exact ⟨by omega, by omega⟩
  have hw' : wrap64 ((m : Int) - (l.length : Int)) = (m : Int) - (l.length : Int) := by unfold wrap64; omega
  have hw : IntKind.i64.wrap ((m : Int) - (l.length : Int)) = (m : Int) - (l.length : Int) := (i64_w _).trans hw'
  have HLEN := fun (W : World) (hW : QAt W o m l) => len_q o m l W hW
  have HROOM := fun (W : World) (hW : QAt W o m l) => room_q o m l W hW
  have HL := Lib.hid HLEN
  have HR := Lib.hid HROOM
  have HQ := Lib.hid hq
  have HX := Lib.hid hbox
  have HB := Lib.hid hb
  obtain ⟨v, hv⟩ : ∃ v, v = qv o := ⟨_, rfl⟩
  rw [← hv]
  rw [← hv] at HL HR
  clear hb hq hbox hml h HLEN HROOM hv
  generalize l.length = n at *
  obtain ⟨wa, hwa⟩ : ∃ wa, wa = w.alloc (.cells #[.slice A n c, .int .i64 (m : Int)] 37) := ⟨_, rfl⟩
  rw [← hwa] at HQ HX HB
  go_enter Try.func14, Try.ntmps14
  go_upto_region 1 with (fail)
  rw [← hwa]
  clear hwa
  have HO := Lib.hid (show Old w wa.drew from below_drew HB.out)
  clear HB
  generalize w.heap.size = G at *
  have hdr : QAt wa.drew o m l := HQ.out
  have HD := Lib.hid hdr
  have hc0 : wa.drew.cell? ⟨G, 0, none⟩ = some (.slice A n c) := by
    have h0 := HX.out
    show wa.cell? ⟨G, 0, none⟩ = _
    simp [World.cell?, h0]
  have hc1 : wa.drew.cell? ⟨G, 1, none⟩ = some (.int .i64 (m : Int)) := by
    have h0 := HX.out
    show wa.cell? ⟨G, 1, none⟩ = _
    simp [World.cell?, h0]
  clear hdr HQ HX
  have hnn : ((n : Int) == (n : Int)) = true := beq_self_eq_true _
  go_region_held3 (fun W => W.cell? ⟨G, 0, none⟩ = some (.slice A n c) ∧ W.cell? ⟨G, 1, none⟩ = some (.int .i64 (m : Int))) (first | exact ⟨hc0, hc1⟩ | assumption) (first | (go_at_call 18; (with_reducible refine (HL.out _ HD.out).mono ?_); rintro e w' ⟨rfl, rfl⟩) | (go_at_call 19; (with_reducible refine (HR.out _ HD.out).mono ?_); rintro e w' ⟨rfl, rfl⟩))
  all_goals
    go_wp2_with fail
    go_ret
    exact ⟨rfl, HO.out⟩
theorem set2_own {W : World} {g B n : Nat} {u0 u1 v : Value} {xs : List Value} {cs : Array Value} {t : TypeId} (h : W.ownsRow B 3 1 v n xs) (hg : W.heap[g]? = some (.cells cs t (0, 0))) (ht : 3 ≠ t) : ((W.setCell ⟨g, 0, none⟩ u0).setCell ⟨g, 1, none⟩ u1).ownsRow B 3 1 v n xs := by
  have hb : But (fun k => k = g) W ((W.setCell ⟨g, 0, none⟩ u0).setCell ⟨g, 1, none⟩ u1) := (But.setCell (F := fun k => k = g) W ⟨g, 0, none⟩ u0 rfl).trans (But.setCell (F := fun k => k = g) _ ⟨g, 1, none⟩ u1 rfl)
  refine hb.own h fun q hq e => ?_
  subst e
  obtain ⟨cells, hc⟩ := own_typed h q hq
  rw [hg] at hc
  injection hc with hc
  injection hc with _ hc _
  exact ht hc.symm
theorem set2_below {w W : World} {g B : Nat} {u0 u1 : Value} (h : Below B w W) (hg : B ≤ g) : Below B w ((W.setCell ⟨g, 0, none⟩ u0).setCell ⟨g, 1, none⟩ u1) := (h.setCell hg u0).setCell hg u1
theorem grown_cell {W w1 : World} {v : Value} {o : Obj} (hgr : (W.alloc o).grownBy w1 v.ownBlock) (hv : v.ownBlock = some W.heap.size) {a : Addr} {u : Value} (hc : W.cell? a = some u) : w1.cell? a = some u := by
  have hlt := World.block_lt_of_cell? W a hc
  have h1 := pw_cell_below (below_alloc (Below.refl _ W) o) hc
  rw [hgr.cell_far a (World.block_lt_of_cell? _ a h1) (by rw [hv]; intro e; injection e with e; omega)]
  exact h1
theorem grown_blk {W w1 : World} {v : Value} {o o' : Obj} (hgr : (W.alloc o).grownBy w1 v.ownBlock) (hv : v.ownBlock = some W.heap.size) {g : Nat} (hc : W.heap[g]? = some o') : w1.heap[g]? = some o' := by
  have hlt := blk_lt hc
  exact blk_grown ((But.of_below (fun _ => False) (below_alloc (Below.refl _ W) o)).heap hc (fun h => h)) hgr (by rw [hv]; intro e; injection e with e; omega)
theorem set2_cell {W : World} {g : Nat} {u0 u1 v : Value} {a : Addr} (h : a.block ≠ g) (hc : W.cell? a = some v) : ((W.setCell ⟨g, 0, none⟩ u0).setCell ⟨g, 1, none⟩ u1).cell? a = some v :=
  (cell_far (p := ⟨g, 1, none⟩) h u1).trans ((cell_far (p := ⟨g, 0, none⟩) h u0).trans hc)
theorem set2_blk {W : World} {g : Nat} {a b u0 u1 : Value} {t : TypeId} (h : W.heap[g]? = some (.cells #[a, b] t (0, 0))) : ((W.setCell ⟨g, 0, none⟩ u0).setCell ⟨g, 1, none⟩ u1).heap[g]? = some (.cells #[u0, u1] t (0, 0)) :=
  blk_put (cs := #[u0, b]) (blk_put (cs := #[a, b]) h 0 u0 rfl) 1 u1 rfl
set_option maxHeartbeats 4000000 in
set_option maxRecDepth 100000 in
/-- The document's Pop of a queue with something in it. -/
theorem rpop_some (A : Option Addr) (c : Nat) (x : Int) (l : List Int) (m : Int) (w : World) (hr : Kd.C (Kd.int .i64) w A (x :: l).length (x :: l)) (hc : (x :: l).length ≤ c) (hn : l.length ≤ 100000) :
    Calls Try.prog 26 #[.agg #[.slice A (x :: l).length c, .int .i64 m]] w fun e w' => ∃ v, e = .returned (.tuple #[.agg #[v, .int .i64 m], .int .i64 x, .bool true]) ∧ w'.ownsRow w.heap.size 3 1 v l.length (nums .i64 l) ∧ Below w.heap.size w w' := by
  obtain ⟨ad, rfl, hx0⟩ := Kd.at_int hr 0 (by omega) (by simp)
  have had : ad.add 0 = ad := by
    obtain ⟨b, o, f⟩ := ad
    cases f <;> simp [Addr.add]
  have hxlt : ad.block < w.heap.size := by
    have := World.block_lt_of_cell? w _ hx0
    rwa [show ad.add (0 : Int).toNat = ad from had] at this
  have hx : w.cell? ad = some (.int .i64 x) := by
    rw [← had]
    simpa [rd] using hx0
  obtain ⟨i0, hi0, _, hsz0, _⟩ := info_parts info3
  obtain ⟨A', hcut0, hA', hC'⟩ := print_drop_of (P := Try.prog) (Value.int .i64) 0 35 3 .i64 Try.underlying35 hi0 hsz0 (some ad) c (x :: l) 1 (by omega) (by simp; omega) hc
  have hR' := Kd.C_of_reads (h1 := fun _ => rfl) (hA' w (Kd.reads_of_C hr))
  have hcut : ∀ W : World, (Instr.slice 35 (.slice (some ad) (l.length + 1) c) (some (.int .i64 1)) none none).run Try.prog W = .ok (.slice A' l.length (c - 1)) W := hcut0
  have hR2 : Kd.C (Kd.int .i64) w A' l.length l := hR'
  have hc2 : l.length ≤ c - 1 := hC'
  have hlen : (x :: l).length = l.length + 1 := rfl
  rw [hlen] at hc ⊢
  have HR := Lib.hid hR2
  have HC2 := Lib.hid hc2
  have hd1 : decide ((0 : Int) < (l.length : Int) + 1) = true := decide_eq_true (by omega)
  have he1 : (((l.length + 1 : Nat) : Int) == 0) = false := beq_eq_false_iff_ne.2 (by omega)
  clear hx0 hR' hR2 hcut0 hA' hC' hc2 hlen hr hi0 hsz0
  obtain ⟨W2, hW2⟩ : ∃ W2, W2 = (w.alloc (.cells #[.slice (some ad) (l.length + 1) c, .int .i64 m] 37)).alloc (.cells #[.slice none 0 0, .int .i64 0] 37) := ⟨_, rfl⟩
  obtain ⟨hb2, hg, hz⟩ := two_allocs hW2
  go_enter Try.func26, Try.ntmps26
  go_upto_region 3 with (fail)
  rw [← hW2]
  clear hW2
  have hs0 : W2.drew.cell? ⟨w.heap.size, 0, none⟩ = some (.slice (some ad) (l.length + 1) c) := by
    show W2.cell? ⟨w.heap.size, 0, none⟩ = _
    simp [World.cell?, hg]
  have hs1 : W2.drew.cell? ⟨w.heap.size, 1, none⟩ = some (.int .i64 m) := by
    show W2.cell? ⟨w.heap.size, 1, none⟩ = _
    simp [World.cell?, hg]
  have hs2 : W2.drew.cell? ad = some (.int .i64 x) := pw_cell_below hb2 hx
  have hz1 : W2.drew.heap[w.heap.size + 1]? = some (.cells #[.slice none 0 0, .int .i64 0] 37 (0, 0)) := hz
  have hb1 : Below w.heap.size w W2.drew := below_drew hb2
  have HB := Lib.hid hb1
  have HZ := Lib.hid hz1
  clear hb2 hg hz hb1 hz1 hx
  go_region_held3 (fun W => W.cell? ⟨w.heap.size, 0, none⟩ = some (.slice (some ad) (l.length + 1) c) ∧ W.cell? ⟨w.heap.size, 1, none⟩ = some (.int .i64 m) ∧ W.cell? ad = some (.int .i64 x)) (first | exact ⟨hs0, hs1, hs2⟩ | exact ⟨pw_cell_below (below_alloc (Below.refl _ _) _) hs0, pw_cell_below (below_alloc (Below.refl _ _) _) hs1, pw_cell_below (below_alloc (Below.refl _ _) _) hs2⟩ | exact ⟨e0, e1, e2⟩ | exact ⟨set2_cell (by simp) e0, set2_cell (by simp) e1, set2_cell (by show ad.block ≠ w.heap.size + 1; omega) e2⟩) (((refine step_append_row (W := W2.drew.alloc (.cells #[] 3)) w.heap.size rfl (.tmp 10) (.tmp 13) 35 3 .i64 8 rfl Try.underlying35 info3 (by decide) (.slice (some ⟨W2.heap.size, 0, none⟩) 0 0) [] l A' l.length (c - 1) (by rfl) (by rfl) (own_lit [] (heap_alloc_new W2.drew (.cells #[] 3)) HB.out.size (by decide)) (Kd.C_below HR.out (below_alloc HB.out _)) (below_alloc HB.out _) (Nat.le_trans HB.out.size (by simp)) (by simp; omega) (fun v1 w1 h1 hb hgr hat => ?_)); (have e0 := grown_cell hgr rfl hs0); (have e1 := grown_cell hgr rfl hs1); (have e2 := grown_cell hgr rfl hs2); (have hz' := grown_blk hgr rfl HZ.out); (have z0 := blk_cell hz' 0); (have z1 := blk_cell hz' 1); (have f0 := blk_frozen hz' 0); (have f1 := blk_frozen hz' 1); (simp only [List.getElem?_toArray, List.getElem?_cons_zero, List.getElem?_cons_succ] at z0 z1); (have HZ1 := Lib.hid hz'); (have HO1 := Lib.hid h1); (have HB1 := Lib.hid hb); (obtain ⟨A1, c1, rfl, _⟩ := own_reads h1); (clear h1 hb hgr hat hz' HZ HB HR HC2)))
  all_goals
    go_wp2_with fail
    refine bodyPost_ret (results_ctt rfl _ _ (w.heap.size + 1) 37 #[.slice A1 l.length c1, .int .i64 m] (0, 0) _ rfl (set2_blk HZ1.out) Try.underlying37 rfl (by kernel_rfl)) rfl ?_
    exact ⟨_, rfl, set2_own HO1.out HZ1.out (by decide), set2_below HB1.out (Nat.le_succ _)⟩
end Go.Proofs.YtfoenpdfmhmkiaaPlay
