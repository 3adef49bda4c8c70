/- crc.table, crc.More, crc.Sum: walked once; what they return, and that nothing that existed before has changed. -/
import Derived.Test.YtkcgioggnbnfkaaDoorZKN
import Derived.Test.YtkcgioggnbnfkaaDoorZKA
import Derived.Deep.LoopGhost
import Derived.IntWalk
import Derived.Deep.WholeRow
import Derived.Test.YtkcgioggnbnfkaaDoorProg
set_option linter.unusedVariables false
set_option linter.unusedSimpArgs false
namespace Go.Proofs.YtkcgioggnbnfkaaDoor.Crc
open Go.RowKit Go.Proofs.YtkcgioggnbnfkaaDoorW.PrintWords Go.Proofs.YtkcgioggnbnfkaaDoorW.PrintLast Go.Proofs.YtkcgioggnbnfkaaDoorW.PrintMore Go.Proofs.YtkcgioggnbnfkaaDoorW.Mv Go.Proofs.YtkcgioggnbnfkaaDoorW.HKit Go.Proofs.YtkcgioggnbnfkaaDoorW.But Go.Proofs.YtkcgioggnbnfkaaDoor.CrcA
/-- The table's cells once so many are laid. -/
def tabC (i : Nat) : Array Value := ((List.range 256).map fun j => Value.int .u32 (if j < i then (tabAt j : Int) else 0)).toArray
theorem tabC_set (i : Nat) (h : i < 256) : (tabC i).setIfInBounds i (.int .u32 (tabAt i)) = tabC (i + 1) := by
  apply Array.ext'
  unfold tabC
  rw [Array.toList_setIfInBounds]
  apply List.ext_getElem (by simp)
  intro j h1 h2
  simp only [List.getElem_set, List.getElem_map, List.getElem_range]
  by_cases hj : i = j
  · subst hj; simp
  · rw [if_neg hj]
    have : (j < i + 1) = (j < i) := by simp; omega
    simp only [this]
theorem tabC_zero : Tryd.zeroCells76 = tabC 0 := by kernel_rfl
theorem u32_id (x : Int) (h0 : 0 ≤ x) (h1 : x < 4294967296) : IntKind.u32.wrap x = x := by
  show x % 4294967296 = x
  omega
theorem bv32 (x : Nat) (h : x < 4294967296) : (BitVec.ofInt 32 (x : Int)).toNat = x := by rw [BitVec.toNat_ofInt]; omega
theorem xor32n (a b : Nat) (ha : a < 4294967296) (hb : b < 4294967296) : Go.bits .xor .u32 (a : Int) (b : Int) = ((a ^^^ b : Nat) : Int) := by
  have hlt : a ^^^ b < 2 ^ 32 := Nat.xor_lt_two_pow (by omega) (by omega)
  show IntKind.u32.wrap (((BitVec.ofInt 32 (a : Int) ^^^ BitVec.ofInt 32 (b : Int)).toNat : Int)) = _
  rw [BitVec.toNat_xor, bv32 a ha, bv32 b hb]
  exact u32_id _ (by omega) (by omega)
theorem and32 (x : Nat) (hx : x < 4294967296) : Go.bits .and .u32 (x : Int) 1 = ((x % 2 : Nat) : Int) := by
  show IntKind.u32.wrap (((BitVec.ofInt 32 (x : Int) &&& BitVec.ofInt 32 (1 : Int)).toNat : Int)) = _
  rw [BitVec.toNat_and, bv32 x hx, show (BitVec.ofInt 32 (1 : Int)).toNat = 1 from rfl, Nat.and_one_is_mod]
  exact u32_id _ (by omega) (by omega)
theorem xor32 (x : Nat) (h : x % 2 = 1) (hx : x < 4294967296) : Go.bits .xor .u32 ((x : Int) / 2) 3988292384 = ((crcBit x : Nat) : Int) := by
  have h1 : (x : Int) / 2 = ((x / 2 : Nat) : Int) := by omega
  rw [h1]
  unfold crcBit
  rw [if_pos h]
  exact xor32n (x / 2) 3988292384 (by omega) (by decide)
theorem half32 (x : Nat) (h : ¬ x % 2 = 1) : (x : Int) / 2 = ((crcBit x : Nat) : Int) := by
  unfold crcBit
  rw [if_neg h]
  omega
theorem setRow_below {a b : World} {B g : Nat} (h : Below B a b) (hg : B ≤ g) (cs : Array Value) : Below B a (b.setRow g cs) :=
  h.trans ⟨rfl, rfl, rfl, by simp [World.setRow], fun k hk => by
    have : k ≠ g := by omega
    simp [World.setRow, Array.getElem?_modify, Ne.symm this]⟩
def TRel (w : World) (n : Nat) (v : Value) (wr : World) : Prop := ∃ i : Nat, v = .int .i64 i ∧ n + i = 256 ∧ wr.heap[w.heap.size + 1]? = some (.cells (tabC i) 76 (0, 0)) ∧ wr.heap[w.heap.size]? = some (.cells (tabC 0) 76 (0, 0)) ∧ Below w.heap.size w wr
def XRel (y : Nat) (n : Nat) (v3 v9 : Value) (wr w0 : World) : Prop := ∃ (k : Nat) (x : Nat), v3 = .int .u32 x ∧ v9 = .int .i64 k ∧ n + k = 8 ∧ x < 4294967296 ∧ crcBits n x = tabAt y ∧ wr = w0
def TPost (w : World) (e : Ending) (w' : World) : Prop := e = .returned (.agg (tabC 256)) ∧ Below w.heap.size w w'
set_option maxHeartbeats 2000000 in
set_option maxRecDepth 100000 in
theorem table_calls (w : World) : Calls Tryd.prog 38 #[] w (TPost w) := by
  go_enter Tryd.func38, Tryd.ntmps38
  go_wp2_with fail
  have HS := Aside0.mk (show TRel w 256 (.int .i64 0) ((w.alloc (.cells Tryd.zeroCells76 76)).alloc (.cells Tryd.zeroCells76 76)) from ⟨0, rfl, rfl, by
    rw [← tabC_zero]; have := heap_alloc_new (w.alloc (.cells Tryd.zeroCells76 76)) (.cells Tryd.zeroCells76 76); simpa using this, by
    rw [← tabC_zero]; exact (Below.heap_alloc _ _ _ (by simp)).trans (heap_alloc_new w _), ((Below.refl _ w).alloc (Nat.le_refl _) _).alloc (by simp) _⟩)
  generalize (w.alloc (.cells Tryd.zeroCells76 76)).alloc (.cells Tryd.zeroCells76 76) = wa at HS ⊢
  go_loopg [4] 256 (fun n v4 wr => TRel w n v4 wr)
  case atStart => exact HS.out
  case round =>
    clear HS
    obtain ⟨i, rfl, hn, hT, hR, hb⟩ := hrel
    have HT := Aside0.mk hT
    have HR := Aside0.mk hR
    have HB := Aside0.mk hb
    have HN := Aside0.mk hn
    by_cases hlt : i < 256
    · clear hT hR hb hn
      obtain ⟨wo, hwo⟩ : ∃ wo, wo = wr := ⟨_, rfl⟩
      subst hwo
      obtain ⟨gn, hgn⟩ : ∃ gn, gn = gk := ⟨_, rfl⟩
      subst hgn
      go_wp2_with fail
      go_loopg [3, 9] 8 (fun n v3 v9 wr' => XRel i n v3 v9 wr' wo)
      case atStart => exact ⟨0, i, rfl, rfl, rfl, by omega, rfl, rfl⟩
      case round =>
        obtain ⟨k, x, rfl, rfl, hk, hx, hcr, rfl⟩ := hrel
        have HK := Aside0.mk hk
        have HC := Aside0.mk hcr
        clear hk hcr
        have hand := and32 x hx
        by_cases h8 : k < 8
        · obtain ⟨g1, rfl⟩ : ∃ g1, gk = g1 + 1 := ⟨gk - 1, by have := HK.out; omega⟩
          have hlt' := crcBit_lt x hx
          by_cases hodd : x % 2 = 1
          · have ho : ((x % 2 : Nat) : Int) = 1 := by omega
            have hxr := xor32 x hodd hx
            go_wp2_with fail
            go_roundg g1
            case rel => exact ⟨k + 1, crcBit x, rfl, by go_num, by have := HK.out; omega, hlt', HC.out, rfl⟩
            case measure => exact Nat.lt_succ_self _
          · have ho : ((x % 2 : Nat) : Int) = 0 := by omega
            have hxr := half32 x hodd
            go_wp2_with fail
            go_roundg g1
            case rel => exact ⟨k + 1, crcBit x, rfl, by go_num, by have := HK.out; omega, hlt', HC.out, rfl⟩
            case measure => exact Nat.lt_succ_self _
        · obtain ⟨rfl, rfl⟩ : gk = 0 ∧ k = 8 := by have := HK.out; omega
          have hxv : x = tabAt i := HC.out
          subst hxv
          have hcl : wr.cell? ⟨w.heap.size + 1, i, none⟩ = some (.int .u32 0) := by
            refine (blk_cell HT.out i).trans ?_
            simp [tabC, hlt]
          have hfz : wr.frozen? ⟨w.heap.size + 1, i, none⟩ = false := blk_frozen HT.out i
          have HT2 := Aside0.mk (heap_setCell_same wr (w.heap.size + 1) i _ 76 (.int .u32 (tabAt i : Nat)) HT.out)
          have HR2 := Aside0.mk ((Below.heap_setCell wr ⟨w.heap.size + 1, i, none⟩ (.int .u32 (tabAt i : Nat)) w.heap.size (by simp)).trans HR.out)
          have HB2 := Aside0.mk (HB.out.setCell (p := ⟨w.heap.size + 1, i, none⟩) (by simp) (.int .u32 (tabAt i : Nat)))
          obtain ⟨g1, rfl⟩ : ∃ g1, gn = g1 + 1 := ⟨gn - 1, by have := HN.out; omega⟩
          go_wp2_with fail
          go_roundg g1
          case measure => exact Nat.lt_succ_self _
          case rel => exact ⟨i + 1, by go_num, by have := HN.out; omega, by rw [← tabC_set i hlt]; exact HT2.out, HR2.out, HB2.out⟩
    · obtain ⟨rfl, rfl⟩ : gk = 0 ∧ i = 256 := by have := HN.out; omega
      clear hT hR hb hn
      have hsz : (tabC 256).size = 256 := by simp [tabC]
      have hz0 : (tabC 0).size = 256 := by simp [tabC]
      have h1 : ∀ v ∈ (tabC 256).toList, v.oneCell' = true := by
        intro v hv
        simp only [tabC, List.mem_map] at hv
        obtain ⟨j, _, rfl⟩ := hv
        rfl
      have hsc : (storeCells ⟨w.heap.size, 0, none⟩ (tabC 256).toList 0).run Tryd.prog wr = .ok () (wr.setRow w.heap.size (tabC 256)) := by
        have := run_storeCells_from (P := Tryd.prog) w.heap.size 76 (tabC 256).toList 0 (tabC 0) wr HR.out (by rw [Array.length_toList, hsz, hz0]) h1
        simpa using this
      generalize hC : tabC 256 = C at HT hsc hsz
      have HC := Aside0.mk hC
      clear hC
      have HF := Aside0.mk (setRow_heap_at wr w.heap.size C _ 76 (0, 0) HR.out)
      have HBF := Aside0.mk (setRow_below HB.out (Nat.le_refl _) C)
      have HSZ := Aside0.mk hsz
      clear h1 hz0 hlt
      go_wp2_with (refine wpList_load_row rfl 76 (.tmp 1) rfl (w.heap.size + 1) rfl 76 C (0, 0) _ HT.out Tryd.underlying76 rfl (by rw [HSZ.out]; kernel_rfl) ?_)
      refine bodyPost_ret (results_cell_row rfl _ _ w.heap.size 76 C (0, 0) _ rfl HF.out Tryd.underlying76 rfl (by rw [HSZ.out]; kernel_rfl)) rfl ?_
      exact ⟨by rw [HC.out], HBF.out⟩
/-- What crc.More does by the table, over so many bytes. -/
theorem not32 (x : Nat) (h : x < 4294967296) : Go.bits .xor .u32 IntKind.u32.max (x : Int) = ((crcFin x : Nat) : Int) := by
  have h1 : BitVec.ofInt 32 IntKind.u32.max = BitVec.allOnes 32 := by rfl
  show IntKind.u32.wrap (((BitVec.ofInt 32 IntKind.u32.max ^^^ BitVec.ofInt 32 (x : Int)).toNat : Int)) = _
  rw [h1, BitVec.xor_comm, BitVec.xor_allOnes, BitVec.toNat_not, bv32 x h]
  have h2 : 2 ^ 32 - 1 - x = crcFin x := by unfold crcFin; omega
  rw [h2]
  exact u32_id _ (by omega) (by unfold crcFin; omega)
theorem idx_lt (y z : Nat) (h : z < 256) : y % 256 ^^^ z < 256 := xor_lt _ _ 8 (by omega) h
theorem xor8 (y z : Nat) (h : z < 256) : Go.bits .xor .u8 ((y : Int) % 256) (z : Int) = ((y % 256 ^^^ z : Nat) : Int) := by
  have h8 : ∀ x : Nat, x < 256 → (BitVec.ofInt 8 (x : Int)).toNat = x := fun x hx => by rw [BitVec.toNat_ofInt]; omega
  have h1 : (y : Int) % 256 = ((y % 256 : Nat) : Int) := by omega
  have hlt := idx_lt y z h
  rw [h1]
  show IntKind.u8.wrap (((BitVec.ofInt 8 ((y % 256 : Nat) : Int) ^^^ BitVec.ofInt 8 (z : Int)).toNat : Int)) = _
  rw [BitVec.toNat_xor, h8 _ (by omega), h8 z h]
  show ((y % 256 ^^^ z : Nat) : Int) % 256 = _
  omega
theorem rd_nat (l : List Int) (i : Nat) (h : i < l.length) : rd l (i : Int) = l[i] := by simp [rd, List.getD, h]
def MRel (w : World) (g : Nat) (l : List Int) (x0 : Nat) (n : Nat) (v6 v14 : Value) (wr : World) : Prop := ∃ (i x : Nat), v6 = .int .u32 x ∧ v14 = .int .i64 i ∧ n + i = l.length ∧ x < 4294967296 ∧ crcAll x (l.drop i) = crcAll x0 l ∧ wr.heap[g]? = some (.cells (tabC 256) 76 (0, 0)) ∧ w.heap.size ≤ g ∧ Below w.heap.size w wr
def SPost (w : World) (l : List Int) (x : Nat) (e : Ending) (w' : World) : Prop := e = .returned (.int .u32 (crcFin (crcAll (crcFin x) l) : Nat)) ∧ Below w.heap.size w w'
set_option maxHeartbeats 2000000 in
set_option maxRecDepth 100000 in
theorem more_calls (x : Nat) (hx : x < 4294967296) (A : Option Addr) (c : Nat) (l : List Int) (w : World) (hr : Kd.C (Kd.int .u8) w A l.length l) (hc : l.length ≤ c) (hb : ∀ y ∈ l, 0 ≤ y ∧ y ≤ 255) :
    Calls Tryd.prog 29 #[.int .u32 x, .slice A l.length c] w (SPost w l x) := by
  have hlen : l.length ≤ 9223372036854775807 := hr.2.1
  have HR := Aside0.mk hr
  have HB := Aside0.mk hb
  clear hr hb
  go_enter Tryd.func29, Tryd.ntmps29
  go_wp2_with fail
  refine (table_calls w).mono ?_
  rintro e w1 ⟨rfl, hb1⟩
  have HB1 := Aside0.mk hb1
  clear hb1
  have hsz : (tabC 256).size = 256 := by simp [tabC]
  have h1 : (tabC 256).all (·.oneCell') = true := by
    rw [Array.all_eq_true_iff_forall_mem]
    intro v hv
    rw [← Array.mem_toList_iff] at hv
    simp only [tabC, List.mem_map] at hv
    obtain ⟨j, _, rfl⟩ := hv
    rfl
  have hsc : (storeCells ⟨w1.heap.size, 0, none⟩ (tabC 256).toList 0).run Tryd.prog (w1.alloc (.cells Tryd.zeroCells76 76)) = .ok () (w1.alloc (.cells (tabC 256) 76)) := by
    have := run_storeCells_new (P := Tryd.prog) w1 76 Tryd.zeroCells76 (tabC 256) (by rw [hsz]; kernel_rfl) (by rw [hsz]; rfl) h1
    simpa using this
  have HS := Aside0.mk (show MRel w w1.heap.size l (crcFin x) l.length (.int .u32 (crcFin x : Nat)) (.int .i64 0) (w1.alloc (.cells (tabC 256) 76)) from ⟨0, crcFin x, rfl, rfl, by omega, by unfold crcFin; omega, by rw [List.drop_zero], heap_alloc_new w1 _, HB1.out.size, HB1.out.trans ((Below.refl _ _).alloc (Nat.le_refl _) _ |>.mono HB1.out.size)⟩)
  have hnot := not32 x hx
  clear h1
  generalize hC : tabC 256 = C at hsc hsz HS
  have HC := Aside0.mk hC
  clear hC
  go_wp2_with fail
  generalize w1.alloc (.cells C 76) = wa at HS ⊢
  generalize w1.heap.size = g at HS ⊢
  go_loopg [6, 14] l.length (fun n v6 v14 wr => MRel w g l (crcFin x) n v6 v14 wr)
  case atStart => exact HS.out
  case round =>
    clear HS hsz hsc
    obtain ⟨i, y, rfl, rfl, hn, hy, hall, hT, hg, hb⟩ := hrel
    have HN := Aside0.mk hn
    have HA := Aside0.mk hall
    have HT := Aside0.mk hT
    have HB2 := Aside0.mk hb
    have HG := Aside0.mk hg
    have hnot' := not32 y hy
    clear hn hall hT hb hnot hg
    by_cases hlt : i < l.length
    · obtain ⟨g1, rfl⟩ : ∃ g1, gk = g1 + 1 := ⟨gk - 1, by have := HN.out; omega⟩
      obtain ⟨ad, hA, hcell⟩ := Kd.at_int (Kd.C_below HR.out HB2.out) (i : Int) (by omega) (by omega)
      rw [Int.toNat_natCast] at hcell
      obtain ⟨z, hz⟩ : ∃ z : Nat, rd l (i : Int) = z := Int.eq_ofNat_of_zero_le (by
        rw [rd_nat l i hlt]; exact (HB.out _ (List.getElem_mem hlt)).1)
      have hz8 : z < 256 := by
        have := (HB.out _ (List.getElem_mem hlt)).2
        rw [rd_nat l i hlt] at hz
        omega
      rw [hz] at hcell
      have HZ := Aside0.mk hz
      clear hz
      have hxr := xor8 y z hz8
      have hix := idx_lt y z hz8
      have htb : wr.cell? ⟨g, y % 256 ^^^ z, none⟩ = some (.int .u32 (tabAt (y % 256 ^^^ z) : Nat)) := by
        refine (blk_cell HT.out _).trans ?_
        simp [tabC, hix]
      have h32 : Go.bits .xor .u32 ((y : Int) / 256) ((tabAt (y % 256 ^^^ z) : Nat) : Int) = ((crcBits 8 (y ^^^ z) : Nat) : Int) := by
        have h1 : (y : Int) / 256 = ((y / 256 : Nat) : Int) := by omega
        rw [h1, xor32n (y / 256) (tabAt (y % 256 ^^^ z)) (by omega) (crcBits_lt 8 _ (by omega)), crc_step y z hz8]
      have hlt2 : crcBits 8 (y ^^^ z) < 4294967296 := crcBits_lt 8 _ (xor_lt _ _ 32 hy (by omega))
      go_wp2_with fail
      go_roundg g1
      case measure => exact Nat.lt_succ_self _
      case rel =>
        refine ⟨i + 1, crcBits 8 (y ^^^ z), rfl, by go_num, by have := HN.out; omega, hlt2, ?_, HT.out, HG.out, HB2.out⟩
        have hz := HZ.out
        rw [rd_nat l i hlt] at hz
        rw [← HA.out, List.drop_eq_getElem_cons hlt]
        show _ = crcAll (crcBits 8 (y ^^^ (l[i]).toNat)) _
        rw [hz]
        rfl
    · obtain ⟨rfl, rfl⟩ : gk = 0 ∧ i = l.length := by have := HN.out; omega
      have hy2 : crcAll (crcFin x) l = y := by
        have := HA.out
        rw [List.drop_length] at this
        exact this.symm
      have HY := Aside0.mk hy2
      clear hy2
      go_wp2_with fail
      go_ret
      exact ⟨by rw [HY.out]; rfl, HB2.out⟩
/-- The sum of bytes is told. -/
def SumPost (w : World) (l : List Int) (e : Ending) (w' : World) : Prop := e = .returned (.int .u32 (crcSum l : Nat)) ∧ Below w.heap.size w w'
theorem sum_calls (A : Option Addr) (c : Nat) (l : List Int) (w : World) (hr : Kd.C (Kd.int .u8) w A l.length l) (hc : l.length ≤ c) (hb : ∀ y ∈ l, 0 ≤ y ∧ y ≤ 255) :
    Calls Tryd.prog 18 #[.slice A l.length c] w (SumPost w l) := by
  have hm := more_calls 0 (by decide) A c l w hr hc hb
  have HM := Aside0.mk hm
  clear hm hr hb
  go_enter Tryd.func18, Tryd.ntmps18
  go_wp2_with fail
  refine HM.out.mono ?_
  rintro e w1 ⟨rfl, hb1⟩
  go_wp2_with fail
  go_ret
  exact ⟨rfl, hb1⟩
theorem crcSum_lt (l : List Int) (hb : ∀ y ∈ l, 0 ≤ y ∧ y ≤ 255) : crcSum l < 4294967296 := by
  unfold crcSum crcFin
  omega
end Go.Proofs.YtkcgioggnbnfkaaDoor.Crc
