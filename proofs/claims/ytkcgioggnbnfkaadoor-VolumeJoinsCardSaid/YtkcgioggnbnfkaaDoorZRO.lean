/- The document's Open: walked once. -/
import Derived.Test.YtkcgioggnbnfkaaDoorZWS
set_option linter.unusedVariables false
set_option linter.unusedSimpArgs false
namespace Go.Proofs.YtkcgioggnbnfkaaDoor.RO
open Go.RowKit Go.Proofs.YtkcgioggnbnfkaaDoorW.PrintWords Go.Proofs.YtkcgioggnbnfkaaDoorW.PrintLast Go.Proofs.YtkcgioggnbnfkaaDoorW.PrintMore Go.Proofs.YtkcgioggnbnfkaaDoorW.Mv Go.Proofs.YtkcgioggnbnfkaaDoorW.HKit Go.Proofs.YtkcgioggnbnfkaaDoorW.But Go.Proofs.YtkcgioggnbnfkaaDoorW.App Go.Proofs.YtkcgioggnbnfkaaDoorW.Rwb Go.Proofs.YtkcgioggnbnfkaaDoor.PVolumeJoins Go.Proofs.YtkcgioggnbnfkaaDoor.CrcA Go.Proofs.YtkcgioggnbnfkaaDoor.Crc Go.Proofs.YtkcgioggnbnfkaaDoor.NumP Go.Proofs.YtkcgioggnbnfkaaDoor.NumG Go.Proofs.YtkcgioggnbnfkaaDoor.Num Go.Proofs.YtkcgioggnbnfkaaDoor.Lab Go.Proofs.YtkcgioggnbnfkaaDoor.Read Go.Proofs.YtkcgioggnbnfkaaDoor.Open Go.Proofs.YtkcgioggnbnfkaaDoor.Vol Go.Proofs.YtkcgioggnbnfkaaDoor.Spl Go.Proofs.YtkcgioggnbnfkaaDoor.RS Go.Proofs.YtkcgioggnbnfkaaDoorW.Live Go.Proofs.YtkcgioggnbnfkaaDoor.RB Go.Proofs.YtkcgioggnbnfkaaDoor.RS Go.Proofs.YtkcgioggnbnfkaaDoor.WS
/-- A field as the document reads it: its number, and whether it is one. -/
def octP (l : List Int) : Int × Bool := OctR.res (Hand.octAt 0 (l.dropWhile (fun x => decide (x = 32))))
def octF (v : List Int) (i : Nat) : Int × Bool := octP (Read.part v (16 + 12 * i) 12)
def rawNs (v : List Int) : List Int := [(octF v 0).1, (octF v 1).1, (octF v 2).1, (octF v 3).1, (octF v 4).1, (octF v 5).1]
theorem oct_ge : ∀ (l : List Int) (n : Int), 0 ≤ n → n ≤ 9223372036854775807 → 0 ≤ (Hand.octAt n l).1 ∧ (Hand.octAt n l).1 ≤ 9223372036854775807
  | [], n, h0, h1 => by unfold Hand.octAt; exact ⟨h0, h1⟩
  | x :: r, n, h0, h1 => by
    unfold Hand.octAt
    split
    · rename_i hx
      split
      · exact ⟨by decide, by decide⟩
      · exact oct_ge r _ (by omega) (by omega)
    · split
      · exact ⟨h0, h1⟩
      · exact ⟨by decide, by decide⟩
theorem octF_bd (v : List Int) (i : Nat) : -9223372036854775808 ≤ (octF v i).1 ∧ (octF v i).1 ≤ 9223372036854775807 := by
  have h := oct_ge ((Read.part v (16 + 12 * i) 12).dropWhile (fun x => decide (x = 32))) 0 (by decide) (by decide)
  unfold octF octP OctR.res
  exact ⟨by have := h.1; show _ ≤ (Hand.octAt 0 _).1; omega, h.2⟩
theorem raw_bd (v : List Int) : ∀ x ∈ rawNs v, -9223372036854775808 ≤ x ∧ x ≤ 9223372036854775807 := by
  intro x hx
  unfold rawNs at hx
  simp only [List.mem_cons, List.not_mem_nil, or_false] at hx
  rcases hx with rfl | rfl | rfl | rfl | rfl | rfl <;> exact octF_bd v _
theorem parts_lab (n0 n1 n2 n3 n4 n5 : Int) (h : labOk [n0, n1, n2, n3, n4, n5] = true) : ∀ i, ∀ hi : i < 6, Read.part (labOf [n0, n1, n2, n3, n4, n5]) (16 + 12 * i) 12 = put12 ([n0, n1, n2, n3, n4, n5][i]'hi) := by
  have hall := List.all_eq_true.1 h
  have l0 := put12_len n0 (hall n0 (by simp))
  have l1 := put12_len n1 (hall n1 (by simp))
  have l2 := put12_len n2 (hall n2 (by simp))
  have l3 := put12_len n3 (hall n3 (by simp))
  have l4 := put12_len n4 (hall n4 (by simp))
  have l5 := put12_len n5 (hall n5 (by simp))
  have hs : signL.length = 16 := rfl
  have e : labOf [n0, n1, n2, n3, n4, n5] = signL ++ (put12 n0 ++ (put12 n1 ++ (put12 n2 ++ (put12 n3 ++ (put12 n4 ++ (put12 n5 ++ List.replicate 424 0)))))) := by
    unfold labOf labHead
    rw [if_pos h]
    simp only [List.flatMap_cons, List.flatMap_nil, List.append_nil, List.append_assoc]
  have cutp : ∀ (p q t : List Int) (f : Nat), p.length = f → q.length = 12 → Read.part (p ++ (q ++ t)) f 12 = q := by
    intro p q t f hp hq
    unfold Read.part
    rw [List.drop_take, show f + 12 - f = 12 by omega, List.drop_append, hp, Nat.sub_self, List.drop_zero, List.drop_eq_nil_of_le (by omega), List.nil_append, List.take_append_of_le_length (by omega), List.take_of_length_le (by omega)]
  intro i hi
  rw [e]
  match i, hi with
  | 0, _ => exact cutp signL (put12 n0) _ (16 + 12 * 0) hs l0
  | 1, _ => rw [← List.append_assoc]; exact cutp _ (put12 n1) _ (16 + 12 * 1) (by simp [hs, l0]) l1
  | 2, _ => rw [← List.append_assoc, ← List.append_assoc]; exact cutp _ (put12 n2) _ (16 + 12 * 2) (by simp [hs, l0, l1]) l2
  | 3, _ => rw [← List.append_assoc, ← List.append_assoc, ← List.append_assoc]; exact cutp _ (put12 n3) _ (16 + 12 * 3) (by simp [hs, l0, l1, l2]) l3
  | 4, _ => rw [← List.append_assoc, ← List.append_assoc, ← List.append_assoc, ← List.append_assoc]; exact cutp _ (put12 n4) _ (16 + 12 * 4) (by simp [hs, l0, l1, l2, l3]) l4
  | 5, _ => rw [← List.append_assoc, ← List.append_assoc, ← List.append_assoc, ← List.append_assoc, ← List.append_assoc]; exact cutp _ (put12 n5) _ (16 + 12 * 5) (by simp [hs, l0, l1, l2, l3, l4]) l5
theorem part_512 (v : List Int) (i : Nat) (hi : i < 6) : Read.part v (16 + 12 * i) 12 = Read.part (v.take 512) (16 + 12 * i) 12 := by
  unfold Read.part
  rw [List.take_take, Nat.min_eq_left (by omega)]
theorem octP_put (n : Int) (h : fits12 n = true) : octP (put12 n) = (n, true) := by
  unfold octP
  rw [octAt_put12 n h]
  rfl
/-- A good label's fields are octal numbers. -/
theorem raw_good {v : List Int} (h : goodB (readNs (v.take 512)) (v.take 512) = true) : ∀ i, i < 6 → (octF v i).2 = true := by
  obtain ⟨h1, h2, _, _⟩ := good_parts h
  intro i hi
  obtain ⟨n0, n1, n2, n3, n4, n5, e⟩ := six_of (v.take 512)
  rw [e] at h1 h2
  have hf := List.all_eq_true.1 h1 ([n0, n1, n2, n3, n4, n5][i]'hi) (List.getElem_mem hi)
  unfold octF
  rw [part_512 v i hi, h2, parts_lab _ _ _ _ _ _ h1 i hi, octP_put _ hf]
/-- Numbers whose label these bytes are, are the numbers that are read. -/
theorem raw_back {v : List Int} (h1 : labOk (rawNs v) = true) (h2 : v.take 512 = labOf (rawNs v)) : readNs (v.take 512) = rawNs v := by
  rw [h2]
  exact field_at _ _ _ _ _ _ h1
theorem raw_same {v : List Int} (h : goodB (readNs (v.take 512)) (v.take 512) = true) : rawNs v = readNs (v.take 512) := by
  obtain ⟨h1, h2, _, _⟩ := good_parts h
  obtain ⟨n0, n1, n2, n3, n4, n5, e⟩ := six_of (v.take 512)
  rw [e] at h1 h2 ⊢
  have key : ∀ i, ∀ hi : i < 6, octF v i = ([n0, n1, n2, n3, n4, n5][i]'hi, true) := by
    intro i hi
    have hf := List.all_eq_true.1 h1 ([n0, n1, n2, n3, n4, n5][i]'hi) (List.getElem_mem hi)
    unfold octF
    rw [part_512 v i hi, h2, parts_lab _ _ _ _ _ _ h1 i hi, octP_put _ hf]
  unfold rawNs
  rw [key 0 (by decide), key 1 (by decide), key 2 (by decide), key 3 (by decide), key 4 (by decide), key 5 (by decide)]
  rfl
theorem open_no {v : List Int} (h : 512 ≤ v.length) (hg : (goodB (readNs (v.take 512)) (v.take 512) && restB (rd (readNs (v.take 512)) 3) (v.drop 512)) = false) : openOf v = (z6, [], 15) := by
  unfold openOf
  rw [if_neg (by omega), if_neg (by rw [hg]; decide)]
theorem roct_calls (A : Option Addr) (n c : Nat) (l : List Int) (w : World) (hr : Kd.C (Kd.int .u8) w A n l) (hc : n ≤ c) (hn : n ≤ 2000) (hb : ∀ x ∈ l, 0 ≤ x ∧ x ≤ 255) :
    Calls Tryd.prog 24 #[.slice A n c] w fun e w' => e = .returned (.tuple #[.int .i64 (octP l).1, .bool (octP l).2]) ∧ Below w.heap.size w w' := by
  have hl := C_len hr
  subst hl
  obtain ⟨k, hk⟩ := (OctR.roct_ev l hn hb).rounds
  refine (oakumref01_Octal.calls k A c l _ _ w hr hc hk).mono ?_
  rintro e w' ⟨rfl, hd⟩
  exact ⟨rfl, hd.below⟩
theorem rblank_calls (A : Option Addr) (n c : Nat) (l : List Int) (w : World) (hr : Kd.C (Kd.int .u8) w A n l) (hc : n ≤ c) (hn : n ≤ 100000) (hb : ∀ x ∈ l, 0 ≤ x ∧ x ≤ 255) :
    Calls Tryd.prog 26 #[.slice A n c] w fun e w' => e = .returned (.bool (BlkP.blank l)) ∧ Below w.heap.size w w' := by
  have hl := C_len hr
  subst hl
  obtain ⟨k, hk⟩ := (BlkP.rblank_ev l hb hn).rounds
  refine (oakumref02_Blank.calls k A c l _ w hr hc hk).mono ?_
  rintro e w' ⟨rfl, hd⟩
  exact ⟨rfl, hd.below⟩
theorem rblocks_f (n : Nat) (h : n ≤ 100000000000) : oakumref02_Blocks.f (n : Int) = some ((blocksOf n : Nat) : Int) := by
  unfold oakumref02_Blocks.f blocksOf
  rw [if_neg (by omega)]
  have e1 : Int.tmod (n : Int) 512 = ((n % 512 : Nat) : Int) := by rw [Int.tmod_eq_emod_of_nonneg (by omega)]; omega
  have e2 : Int.tdiv (n : Int) 512 = ((n / 512 : Nat) : Int) := by rw [Int.tdiv_eq_ediv_of_nonneg (by omega)]; omega
  rw [e1, e2, IntWalk.wrap64_in ((n / 512 : Nat) : Int) ⟨by omega, by omega⟩, IntWalk.wrap64_in _ ⟨by omega, by omega⟩]
  by_cases h0 : n % 512 = 0
  · rw [if_neg (by omega)]
    congr 1
    omega
  · rw [if_pos (by omega)]
    congr 1
    omega
theorem rblocks_calls (n : Nat) (h : n ≤ 100000000000) (w : World) : Calls Tryd.prog 25 #[.int .i64 (n : Int)] w fun e w' => e = .returned (.int .i64 (blocksOf n : Nat)) ∧ Below w.heap.size w w' := by
  refine (oakumref02_Blocks.calls (n : Int) _ w (rblocks_f n h)).mono ?_
  rintro e w' ⟨rfl, hd⟩
  exact ⟨rfl, hd.below⟩
theorem rlab_set {w : World} {g : Nat} {ns : List Int} (h : RLabAt w g ns) (i : Nat) (n : Int) : RLabAt (w.setCell ⟨g, i, none⟩ (.int .i64 n)) g (ns.set i n) := by
  have := heap_setCell_same w g i _ 35 (.int .i64 n) h
  unfold RLabAt
  rw [this]
  simp [nums]
theorem rlab_other {w : World} {g : Nat} {ns : List Int} (h : RLabAt w g ns) (a : Addr) (v : Value) (ha : g ≠ a.block) : RLabAt (w.setCell a v) g ns := (Below.heap_setCell w a v g ha).trans h
def rawI (v : List Int) (i : Nat) : List Int := (rawNs v).take i ++ List.replicate (6 - i) 0
theorem rawI_len (v : List Int) (i : Nat) (h : i ≤ 6) : (rawI v i).length = 6 := by
  unfold rawI
  simp [rawNs]
  omega
theorem rawI_set (v : List Int) (i : Nat) (h : i < 6) : (rawI v i).set i (octF v i).1 = rawI v (i + 1) := by
  match i, h with
  | 0, _ => rfl
  | 1, _ => rfl
  | 2, _ => rfl
  | 3, _ => rfl
  | 4, _ => rfl
  | 5, _ => rfl
theorem rawI_six (v : List Int) : rawI v 6 = rawNs v := by unfold rawI; simp [rawNs]
/-- What the document's Open hands back of a volume. -/
def ROPost (w : World) (A : Option Addr) (n : Nat) (v : List Int) (r : List Int × List Int × Int) (e : Ending) (w' : World) : Prop :=
  ∃ A1 c1, e = .returned (.tuple #[.agg (nums .i64 r.1).toArray, .slice A1 r.2.1.length c1, .int .i64 r.2.2]) ∧ r.2.1.length ≤ c1 ∧ (∀ W, Kd.C (Kd.int .u8) W A n v → Kd.C (Kd.int .u8) W A1 r.2.1.length r.2.1) ∧ Below w.heap.size w w'
def ORel (w : World) (v : List Int) (n : Nat) (v6 : Value) (wr : World) : Prop := ∃ i : Nat, v6 = .int .i64 i ∧ n + i = 6 ∧ RLabAt wr (w.heap.size + 1) (rawI v i) ∧ RLabAt wr w.heap.size z6 ∧ (∀ j, j < i → (octF v j).2 = true) ∧ Below w.heap.size w wr
set_option maxHeartbeats 4000000 in
set_option maxRecDepth 100000 in
theorem ropen_short (A : Option Addr) (n c : Nat) (v : List Int) (w : World) (hn : n < 512) : Calls Tryd.prog 12 #[.slice A n c] w (ROPost w A n v (z6, [], 15)) := by
  go_enter Tryd.func12, Tryd.ntmps12
  go_wp2_with fail
  refine bodyPost_ret (results_open rfl _ _ w.heap.size 35 #[.int .i64 0, .int .i64 0, .int .i64 0, .int .i64 0, .int .i64 0, .int .i64 0] (0, 0) _ rfl (heap_alloc_new w _) Tryd.underlying35 rfl (by kernel_rfl)) rfl ?_
  exact ⟨none, 0, rfl, Nat.le_refl _, fun W _ => C_none .u8 W, (Below.refl _ w).alloc (Nat.le_refl _) _⟩
set_option maxHeartbeats 16000000 in
set_option maxRecDepth 100000 in
theorem ropen_calls (A : Option Addr) (n c : Nat) (v : List Int) (w : World) (hr : Kd.C (Kd.int .u8) w A n v) (hc : n ≤ c) (hb : ∀ x ∈ v, 0 ≤ x ∧ x ≤ 255) (hn2 : n ≤ 100000) : Calls Tryd.prog 12 #[.slice A n c] w (ROPost w A n v (openOf v)) := by
  have hvl := C_len hr
  by_cases hn : n < 512
  · have e : openOf v = (z6, [], 15) := by unfold openOf; rw [if_pos (by omega)]
    rw [e]
    exact ropen_short A n c v w hn
  have HV := Aside0.mk hvl
  have HR := Aside0.mk hr
  have HY := Aside0.mk hb
  have HNO := Aside0.mk (fun hg => open_no (v := v) (by omega) hg)
  have HF := Aside0.mk (fun W (hW : Kd.C (Kd.int .u8) W A n v) => cut_C (c := c) (f := 512) (s := n - 512) hW (by omega) hc)
  have hsl2 := fun W => cut_run_to A c n 512 (by omega) hc 512 rfl W
  clear hvl hr hb
  go_enter Tryd.func12, Tryd.ntmps12
  go_wp2_with fail
  have HS := Aside0.mk (show ORel w v 6 (.int .i64 0) ((w.alloc (.cells #[.int .i64 0, .int .i64 0, .int .i64 0, .int .i64 0, .int .i64 0, .int .i64 0] 35)).alloc (.cells #[.int .i64 0, .int .i64 0, .int .i64 0, .int .i64 0, .int .i64 0, .int .i64 0] 35)) from ⟨0, rfl, rfl, by
    have := heap_alloc_new (w.alloc (.cells #[.int .i64 0, .int .i64 0, .int .i64 0, .int .i64 0, .int .i64 0, .int .i64 0] 35)) (.cells #[.int .i64 0, .int .i64 0, .int .i64 0, .int .i64 0, .int .i64 0, .int .i64 0] 35)
    rw [World.size_alloc] at this
    exact this, (Below.heap_alloc _ _ _ (by simp)).trans (heap_alloc_new w _), fun j hj => absurd hj (Nat.not_lt_zero _), ((Below.refl _ w).alloc (Nat.le_refl _) _).alloc (by simp) _⟩)
  generalize (w.alloc (.cells #[.int .i64 0, .int .i64 0, .int .i64 0, .int .i64 0, .int .i64 0, .int .i64 0] 35)).alloc (.cells #[.int .i64 0, .int .i64 0, .int .i64 0, .int .i64 0, .int .i64 0, .int .i64 0] 35) = wa at HS ⊢
  go_loopg [6] 6 (fun n v6 wr => ORel w v n v6 wr)
  case atStart => exact HS.out
  case round =>
    clear HS
    obtain ⟨i, rfl, hni, hL, hRb, hok, hB⟩ := hrel
    have HN := Aside0.mk hni
    have HL := Aside0.mk hL
    have HRb := Aside0.mk hRb
    have HOK := Aside0.mk hok
    have HB := Aside0.mk hB
    clear hni hL hRb hok hB
    by_cases hlt : i < 6
    · obtain ⟨g1, rfl⟩ : ∃ g1, gk = g1 + 1 := ⟨gk - 1, by have := HN.out; omega⟩
      have hsl := fun W => cut_run A c n (16 + 12 * i) 12 (by omega) hc (16 + 12 * (i : Int)) (28 + 12 * (i : Int)) (by omega) (by omega) W
      have HOct := Aside0.mk (roct_calls (cutAt A c (16 + 12 * i)) 12 (c - (16 + 12 * i)) (Read.part v (16 + 12 * i) 12) wr (cut_C (Kd.C_below HR.out HB.out) (by omega) hc) (by omega) (by omega) (Read.part_bd HY.out _ _))
      go_wp2_with fail
      refine HOct.out.mono ?_
      clear HOct
      rintro e w3 ⟨rfl, hb3⟩
      have HL3 := Aside0.mk (rlab_below HL.out hb3)
      have HR3 := Aside0.mk (rlab_below HRb.out hb3)
      have HB3 := Aside0.mk (HB.out.trans (hb3.mono HB.out.size))
      clear hb3 HL HRb HB
      rw [show octP (Read.part v (16 + 12 * i) 12) = octF v i from rfl]
      by_cases hoi : (octF v i).2 = true
      · rw [hoi]
        have HOI := Aside0.mk hoi
        clear hoi
        have hcell := rlab_cell HL3.out i (by rw [rawI_len v i (by omega)]; exact hlt)
        have hfz : w3.frozen? ⟨w.heap.size + 1, i, none⟩ = false := blk_frozen HL3.out i
        have HL4 := Aside0.mk (show RLabAt (w3.setCell ⟨w.heap.size + 1, i, none⟩ (.int .i64 (octF v i).1)) (w.heap.size + 1) (rawI v (i + 1)) by rw [← rawI_set v i hlt]; exact rlab_set HL3.out i _)
        have HR4 := Aside0.mk (rlab_other HR3.out ⟨w.heap.size + 1, i, none⟩ (.int .i64 (octF v i).1) (by simp))
        have HB4 := Aside0.mk (HB3.out.setCell (p := ⟨w.heap.size + 1, i, none⟩) (by simp) (.int .i64 (octF v i).1))
        go_wp2_with fail
        go_roundg g1
        case measure => exact Nat.lt_succ_self _
        case rel => exact ⟨i + 1, by go_num, by have := HN.out; omega, HL4.out, HR4.out, fun j hj => (by
          rcases Nat.lt_succ_iff_lt_or_eq.1 hj with h | h
          · exact HOK.out j h
          · rw [h]; exact HOI.out), HB4.out⟩
      · have hof : (octF v i).2 = false := by simpa using hoi
        have HEQO := Aside0.mk (HNO.out (by
          cases hg : goodB (readNs (v.take 512)) (v.take 512) with
          | false => rfl
          | true => exact absurd (raw_good hg i hlt) hoi))
        rw [hof]
        clear hoi hof
        have HFx := Aside0.mk (setRow_heap_at w3 w.heap.size #[.int .i64 0, .int .i64 0, .int .i64 0, .int .i64 0, .int .i64 0, .int .i64 0] _ 35 (0, 0) HR3.out)
        have HBF := Aside0.mk (setRow_below HB3.out (Nat.le_refl _) #[.int .i64 0, .int .i64 0, .int .i64 0, .int .i64 0, .int .i64 0, .int .i64 0])
        go_wp2_with (refine wpList_store_row rfl 35 (.tmp 2) (.tmp 35) rfl w.heap.size #[.int .i64 0, .int .i64 0, .int .i64 0, .int .i64 0, .int .i64 0, .int .i64 0] rfl rfl 35 _ HR3.out (by kernel_rfl) rfl (six_one 0 0 0 0 0 0) ?_)
        refine bodyPost_ret (results_open rfl _ _ w.heap.size 35 #[.int .i64 0, .int .i64 0, .int .i64 0, .int .i64 0, .int .i64 0, .int .i64 0] (0, 0) _ rfl HFx.out Tryd.underlying35 rfl (by kernel_rfl)) rfl ?_
        rw [HEQO.out]
        exact ⟨none, 0, rfl, Nat.le_refl _, fun W _ => C_none .u8 W, HBF.out⟩
    · obtain ⟨rfl, rfl⟩ : gk = 0 ∧ i = 6 := by have := HN.out; omega
      have HL2 := Aside0.mk (show RLabAt wr (w.heap.size + 1) (rawNs v) by have := HL.out; rw [rawI_six] at this; exact this)
      clear HL hlt
      obtain ⟨n0, n1, n2, n3, n4, n5, hns⟩ : ∃ n0 n1 n2 n3 n4 n5, rawNs v = [n0, n1, n2, n3, n4, n5] := ⟨_, _, _, _, _, _, rfl⟩
      have HNS := Aside0.mk hns
      have HBD := Aside0.mk (by have := raw_bd v; rw [hns] at this; exact this)
      rw [hns] at HL2
      have HRB := Aside0.mk (rbytes_calls n0 n1 n2 n3 n4 n5 wr HBD.out)
      clear hns
      go_wp2_with (refine wpList_load_row rfl 35 (.tmp 5) rfl (w.heap.size + 1) rfl 35 #[.int .i64 n0, .int .i64 n1, .int .i64 n2, .int .i64 n3, .int .i64 n4, .int .i64 n5] (0, 0) _ HL2.out Tryd.underlying35 rfl (by kernel_rfl) ?_)
      refine HRB.out.mono ?_
      clear HRB
      rintro e w4 ⟨vb, rfl, hlv, hb4⟩
      have HL4 := Aside0.mk (rlab_below HL2.out hb4)
      have HR4 := Aside0.mk (rlab_below HRb.out hb4)
      have HB4 := Aside0.mk (HB.out.trans (hb4.mono HB.out.size))
      clear hb4 HL2 HRb HB
      by_cases hlk : labOk [n0, n1, n2, n3, n4, n5] = true
      · have hlive : Live 5 w4 wr.heap.size vb (labOf [n0, n1, n2, n3, n4, n5]) := by
          rcases hlv with h | h
          · exact h.2
          · rw [h.1] at hlk; cases hlk
        clear hlv
        obtain ⟨A2, c2, e2, hc2, hC2, _⟩ := live_reads hlive
        rw [labOf_len _ hlk rfl] at e2 hc2 hC2
        subst e2
        rw [hlk]
        have HLK := Aside0.mk hlk
        have HSm := Aside0.mk (same_calls A2 A 512 512 c2 c (labOf [n0, n1, n2, n3, n4, n5]) (v.take 512) w4 hC2 (C_firsts (Kd.C_below HR.out HB4.out) (by omega)) hc2 (by omega) (lab_bd _) (fun x hx => HY.out x (List.mem_of_mem_take hx)))
        clear hlive hC2 hc2 hlk
        have hcell0 := rlab_cell HL4.out 0 (by simp)
        have hcell1 := rlab_cell HL4.out 1 (by simp)
        have hcell2 := rlab_cell HL4.out 2 (by simp)
        have hcell3 := rlab_cell HL4.out 3 (by simp)
        simp only [List.getElem_cons_succ, List.getElem_cons_zero] at hcell0 hcell1 hcell2 hcell3
        go_wp2_with fail
        refine HSm.out.mono ?_
        clear HSm hcell0 hcell1 hcell2 hcell3
        rintro e w5 ⟨rfl, hb5⟩
        have HL5 := Aside0.mk (rlab_below HL4.out hb5)
        have HR5 := Aside0.mk (rlab_below HR4.out hb5)
        have HB5 := Aside0.mk (HB4.out.trans (hb5.mono HB4.out.size))
        clear hb5 HL4 HR4 HB4
        by_cases heq : labOf [n0, n1, n2, n3, n4, n5] = v.take 512
        · rw [decide_eq_true heq]
          have HRN := Aside0.mk (show readNs (v.take 512) = [n0, n1, n2, n3, n4, n5] by rw [← HNS.out]; exact raw_back (by rw [HNS.out]; exact HLK.out) (by rw [HNS.out]; exact heq.symm))
          have HEQ := Aside0.mk heq
          clear heq
          have hcell0 := rlab_cell HL5.out 0 (by simp)
          have hcell1 := rlab_cell HL5.out 1 (by simp)
          have hcell2 := rlab_cell HL5.out 2 (by simp)
          have hcell3 := rlab_cell HL5.out 3 (by simp)
          have hcell5 := rlab_cell HL5.out 5 (by simp)
          simp only [List.getElem_cons_succ, List.getElem_cons_zero] at hcell0 hcell1 hcell2 hcell3 hcell5
          by_cases h01 : n0 < n1
          · by_cases h32 : n3 ≤ n2
            · have hd1 : decide (n1 ≤ n0) = false := decide_eq_false (by omega)
              have hd2 : decide (n2 < n3) = false := decide_eq_false (by omega)
              obtain ⟨s, rfl⟩ : ∃ s : Nat, n3 = (s : Int) := Int.eq_ofNat_of_zero_le (by
                have := List.all_eq_true.1 HLK.out n3 (by simp)
                unfold fits12 at this
                simp at this
                exact this.1)
              have hsb : s ≤ 100000000000 := by
                have := List.all_eq_true.1 HLK.out (s : Int) (by simp)
                unfold fits12 at this
                simp at this
                omega
              have HGD := Aside0.mk (show goodB (readNs (v.take 512)) (v.take 512) = true by
                rw [HRN.out]
                unfold goodB
                rw [HLK.out, ← HEQ.out]
                simp only [Bool.true_and, Bool.and_eq_true, decide_eq_true_eq]
                exact ⟨⟨trivial, h01⟩, h32⟩)
              have HREST := Aside0.mk (show rd (readNs (v.take 512)) 3 = (s : Int) by rw [HRN.out]; rfl)
              have HBk := Aside0.mk (rblocks_calls s hsb w5)
              clear h01 h32
              go_wp2_with fail
              refine HBk.out.mono ?_
              clear HBk
              rintro e w6 ⟨rfl, hb6⟩
              have HL6 := Aside0.mk (rlab_below HL5.out hb6)
              have HR6 := Aside0.mk (rlab_below HR5.out hb6)
              have HB6 := Aside0.mk (HB5.out.trans (hb6.mono HB5.out.size))
              clear hb6 HL5 HR5 HB5 hcell0 hcell1 hcell2 hcell3 hcell5 hd1 hd2
              have hcell3 := rlab_cell HL6.out 3 (by simp)
              have hcell5 := rlab_cell HL6.out 5 (by simp)
              simp only [List.getElem_cons_succ, List.getElem_cons_zero] at hcell3 hcell5
              have hbs : blocksOf s ≤ 1000000000 := by unfold blocksOf; omega
              have hbs2 : s ≤ blocksOf s * 512 := by unfold blocksOf; omega
              by_cases hbl : 512 + 512 * blocksOf s = n
              · have hne : ((512 + 512 * ((blocksOf s : Nat) : Int)) != (n : Int)) = false := by simp; omega
                have hs : 512 + s ≤ n := by omega
                have HBLK := Aside0.mk (show blocksOf s * 512 = n - 512 by omega)
                clear hbl hbs2
                have hsl3 := fun W => cut_run_from A c n (512 + s) hs (512 + (s : Int)) (by omega) W
                have epart2 : Read.part v (512 + s) (n - (512 + s)) = (v.drop 512).drop s := by unfold Read.part; rw [show 512 + s + (n - (512 + s)) = n by omega, List.take_of_length_le (by rw [HV.out]; exact Nat.le_refl _), List.drop_drop]
                have hCd := cut_C (c := c) (f := 512 + s) (s := n - (512 + s)) (Kd.C_below HR.out HB6.out) (by omega) hc
                rw [epart2] at hCd
                have HBl := Aside0.mk (rblank_calls (cutAt A c (512 + s)) (n - (512 + s)) (c - (512 + s)) ((v.drop 512).drop s) w6 hCd (by omega) (by omega) (fun x hx => HY.out x (List.mem_of_mem_drop (List.mem_of_mem_drop hx))))
                clear hCd epart2
                go_wp2_with fail
                refine HBl.out.mono ?_
                clear HBl
                rintro e w7 ⟨rfl, hb7⟩
                have HL7 := Aside0.mk (rlab_below HL6.out hb7)
                have HR7 := Aside0.mk (rlab_below HR6.out hb7)
                have HB7 := Aside0.mk (HB6.out.trans (hb7.mono HB6.out.size))
                clear hb7 HL6 HR6 HB6 hcell3 hcell5
                by_cases hbk : BlkP.blank ((v.drop 512).drop s) = true
                · rw [hbk]
                  have HRB := Aside0.mk (show restB (rd (readNs (v.take 512)) 3) (v.drop 512) = true by
                    rw [HREST.out]
                    unfold restB
                    rw [List.length_drop, HV.out, Int.toNat_natCast, hbk, Bool.and_true, Bool.and_eq_true, decide_eq_true_eq, decide_eq_true_eq]
                    exact ⟨by omega, HBLK.out⟩)
                  clear hbk
                  have HPC := Aside0.mk (fun (W : World) (hW : Kd.C (Kd.int .u8) W A n v) => by
                    have h := cut_C (c := c) (f := 512) (s := s) hW (by omega) hc
                    have e : Read.part v 512 s = (v.drop 512).take s := by unfold Read.part; rw [List.drop_take, show 512 + s - 512 = s by omega]
                    rw [e] at h
                    exact h)
                  have hsl4 := fun W => cut_run A c n 512 s hs hc 512 (512 + (s : Int)) rfl (by omega) W
                  have hcell3 := rlab_cell HL7.out 3 (by simp)
                  have hcell5 := rlab_cell HL7.out 5 (by simp)
                  simp only [List.getElem_cons_succ, List.getElem_cons_zero] at hcell3 hcell5
                  have HS7 := Aside0.mk (show (fun W : World => Hid (Below w.heap.size w W ∧ RLabAt W w.heap.size z6 ∧ RLabAt W (w.heap.size + 1) [n0, n1, n2, (s : Int), n4, n5]) ∧ W.cell? ⟨w.heap.size + 1, 5, none⟩ = some (.int .i64 n5)) w7.drew from ⟨Lib.hid ⟨HB7.out.drew, HR7.out, HL7.out⟩, hcell5⟩)
                  have HSm := Aside0.mk (rsum_any (cutAt A c 512) s (c - 512) ((v.drop 512).take s) w7.drew (HPC.out _ (Kd.C_below HR.out HB7.out.drew)) (by omega) (by omega) (fun x hx => HY.out x (List.mem_of_mem_drop (List.mem_of_mem_take hx))))
                  clear hne hsl2 hsl3
                  go_upto_region 17 with (fail)
                  refine wp_region_held_drew (S := (fun W : World => Hid (Below w.heap.size w W ∧ RLabAt W w.heap.size z6 ∧ RLabAt W (w.heap.size + 1) [n0, n1, n2, (s : Int), n4, n5]) ∧ W.cell? ⟨w.heap.size + 1, 5, none⟩ = some (.int .i64 n5))) (by kernel_rfl) ?_ (fun hHeld => ?_)
                  · exact HS7.out
                  refine wpAnyH_take (i := 0) (v := ?_) rfl (by kernel_rfl) (by kernel_rfl) (by kernel_rfl) (fun _ _ _ h => h) (Or.inl ⟨by rfl, ?_⟩) (by assumption) ?_; rotate_left; focus (intro w hSw; (try dsimp only at hSw); simp only [List.getElem_toArray, List.getElem_cons_succ, List.getElem_cons_zero]; go_simp; (try (with_reducible rfl)))
                  simp only [List.getElem_toArray, List.getElem_cons_succ, List.getElem_cons_zero, Act.put, List.setIfInBounds_toArray, List.set_cons_zero, List.set_cons_succ]
                  refine wpAnyH_take (i := 3) (v := ?_) rfl (by kernel_rfl) (by kernel_rfl) (by kernel_rfl) (fun _ _ _ h => h) (Or.inl ⟨by rfl, ?_⟩) (by assumption) ?_; rotate_left; focus (intro w hSw; (try dsimp only at hSw); simp only [List.getElem_toArray, List.getElem_cons_succ, List.getElem_cons_zero]; go_simp; (try (with_reducible rfl)))
                  simp only [List.getElem_toArray, List.getElem_cons_succ, List.getElem_cons_zero, Act.put, List.setIfInBounds_toArray, List.set_cons_zero, List.set_cons_succ]
                  refine wpAnyH_take (i := 4) (v := ?_) rfl (by kernel_rfl) (by kernel_rfl) (by kernel_rfl) (fun _ _ _ h => h) (Or.inl ⟨by rfl, ?_⟩) (by assumption) ?_; rotate_left; focus (intro w hSw; (try dsimp only at hSw); simp only [List.getElem_toArray, List.getElem_cons_succ, List.getElem_cons_zero]; go_simp; (try (with_reducible rfl)))
                  simp only [List.getElem_toArray, List.getElem_cons_succ, List.getElem_cons_zero, Act.put, List.setIfInBounds_toArray, List.set_cons_zero, List.set_cons_succ]
                  refine wpAnyH_ready (rs := [1]) (by kernel_rfl) (by simp) ?_
                  refine AllReadyH.cons rfl (fun K hK => ?_) AllReadyH.nil
                  go_simp
                  (with_reducible refine (HSm.out).mono ?_)
                  rintro e w8 ⟨rfl, hb8⟩
                  refine hK.out _ _ ⟨Lib.hid ⟨HB7.out.drew.trans (hb8.mono HB7.out.drew.size), rlab_below (w := w7.drew) HR7.out hb8, rlab_below (w := w7.drew) HL7.out hb8⟩, pw_cell_below hb8 hcell5⟩ (fun hHeld => ?_)
                  clear hK K
                  try simp only [List.getElem_toArray, List.getElem_cons_succ, List.getElem_cons_zero, Act.put, List.setIfInBounds_toArray, List.set_cons_zero, List.set_cons_succ]
                  have hcv : IntKind.i64.wrap ((crcSum ((v.drop 512).take s) : Nat) : Int) = ((crcSum ((v.drop 512).take s) : Nat) : Int) := by rw [IntKind.wrap_i64]; have := crcSum_lt ((v.drop 512).take s) (fun x hx => HY.out x (List.mem_of_mem_drop (List.mem_of_mem_take hx))); omega
                  refine wpAnyH_take (i := 2) (v := ?_) rfl (by kernel_rfl) (by kernel_rfl) (by kernel_rfl) (fun _ _ _ h => h) (Or.inl ⟨by rfl, ?_⟩) (by assumption) ?_; rotate_left; focus (intro w hSw; (try dsimp only at hSw); simp only [List.getElem_toArray, List.getElem_cons_succ, List.getElem_cons_zero]; go_simp; (try (with_reducible rfl)))
                  simp only [List.getElem_toArray, List.getElem_cons_succ, List.getElem_cons_zero, Act.put, List.setIfInBounds_toArray, List.set_cons_zero, List.set_cons_succ]
                  refine wpAnyH_take (i := 5) (v := ?_) rfl (by kernel_rfl) (by kernel_rfl) (by kernel_rfl) (fun _ _ _ h => h) (Or.inl ⟨by rfl, ?_⟩) (by assumption) ?_; rotate_left; focus (intro w hSw; (try dsimp only at hSw); simp only [List.getElem_toArray, List.getElem_cons_succ, List.getElem_cons_zero]; go_simp; (try (with_reducible rfl)))
                  simp only [List.getElem_toArray, List.getElem_cons_succ, List.getElem_cons_zero, Act.put, List.setIfInBounds_toArray, List.set_cons_zero, List.set_cons_succ]
                  refine wpAnyH_done (by kernel_rfl) ?_ _
                  have HB8 := Aside0.mk hHeld.1.out.1
                  have HR8 := Aside0.mk hHeld.1.out.2.1
                  have HL8 := Aside0.mk hHeld.1.out.2.2
                  clear hHeld hb8
                  by_cases hcs : ((crcSum ((v.drop 512).take s) : Nat) : Int) = n5
                  · have hcn : (((crcSum ((v.drop 512).take s) : Nat) : Int) != n5) = false := by simpa using hcs
                    have HEQO := Aside0.mk (show openOf v = ([n0, n1, n2, (s : Int), n4, n5], (v.drop 512).take s, 0) by
                      unfold openOf
                      rw [if_neg (by rw [HV.out]; omega), if_pos (by rw [HGD.out, HRB.out]; rfl), HREST.out, HRN.out, Int.toNat_natCast, show rd [n0, n1, n2, (s : Int), n4, n5] 5 = n5 from rfl, if_pos hcs])
                    clear hcs
                    have HFx := Aside0.mk (setRow_heap_at w8 w.heap.size #[.int .i64 n0, .int .i64 n1, .int .i64 n2, .int .i64 (s : Int), .int .i64 n4, .int .i64 n5] _ 35 (0, 0) HR8.out)
                    have HBF := Aside0.mk (setRow_below HB8.out (Nat.le_refl _) #[.int .i64 n0, .int .i64 n1, .int .i64 n2, .int .i64 (s : Int), .int .i64 n4, .int .i64 n5])
                    go_wp2_with (first | (refine wpList_load_row rfl 35 (.tmp 5) rfl (w.heap.size + 1) rfl 35 #[.int .i64 n0, .int .i64 n1, .int .i64 n2, .int .i64 (s : Int), .int .i64 n4, .int .i64 n5] (0, 0) _ HL8.out Tryd.underlying35 rfl (by kernel_rfl) ?_) | (refine wpList_store_row rfl 35 (.tmp 2) (.tmp 98) rfl w.heap.size #[.int .i64 n0, .int .i64 n1, .int .i64 n2, .int .i64 (s : Int), .int .i64 n4, .int .i64 n5] rfl rfl 35 _ HR8.out (by kernel_rfl) rfl (six_one _ _ _ _ _ _) ?_))
                    refine bodyPost_ret (results_open rfl _ _ w.heap.size 35 #[.int .i64 n0, .int .i64 n1, .int .i64 n2, .int .i64 (s : Int), .int .i64 n4, .int .i64 n5] (0, 0) _ rfl HFx.out Tryd.underlying35 rfl (by kernel_rfl)) rfl ?_
                    rw [HEQO.out]
                    have hpl : ((v.drop 512).take s).length = s := by rw [List.length_take, List.length_drop, HV.out]; omega
                    refine ⟨cutAt A c 512, c - 512, by show _ = Ending.returned (.tuple #[_, .slice _ ((v.drop 512).take s).length _, _]); rw [hpl]; rfl, by show ((v.drop 512).take s).length ≤ _; omega, fun W hW => ?_, HBF.out⟩
                    show Kd.C _ _ _ ((v.drop 512).take s).length _
                    rw [hpl]
                    exact HPC.out W hW
                  · have hcn : (((crcSum ((v.drop 512).take s) : Nat) : Int) != n5) = true := by simpa using hcs
                    have HEQO := Aside0.mk (show openOf v = (z6, [], 4) by
                      unfold openOf
                      rw [if_neg (by rw [HV.out]; omega), if_pos (by rw [HGD.out, HRB.out]; rfl), HREST.out, HRN.out, Int.toNat_natCast, show rd [n0, n1, n2, (s : Int), n4, n5] 5 = n5 from rfl, if_neg hcs])
                    clear hcs
                    have HFx := Aside0.mk (setRow_heap_at w8 w.heap.size #[.int .i64 0, .int .i64 0, .int .i64 0, .int .i64 0, .int .i64 0, .int .i64 0] _ 35 (0, 0) HR8.out)
                    have HBF := Aside0.mk (setRow_below HB8.out (Nat.le_refl _) #[.int .i64 0, .int .i64 0, .int .i64 0, .int .i64 0, .int .i64 0, .int .i64 0])
                    go_wp2_with (refine wpList_store_row rfl 35 (.tmp 2) (.tmp 97) rfl w.heap.size #[.int .i64 0, .int .i64 0, .int .i64 0, .int .i64 0, .int .i64 0, .int .i64 0] rfl rfl 35 _ HR8.out (by kernel_rfl) rfl (six_one 0 0 0 0 0 0) ?_)
                    refine bodyPost_ret (results_open rfl _ _ w.heap.size 35 #[.int .i64 0, .int .i64 0, .int .i64 0, .int .i64 0, .int .i64 0, .int .i64 0] (0, 0) _ rfl HFx.out Tryd.underlying35 rfl (by kernel_rfl)) rfl ?_
                    rw [HEQO.out]
                    exact ⟨none, 0, rfl, Nat.le_refl _, fun W _ => C_none .u8 W, HBF.out⟩
                · have hbk' : BlkP.blank ((v.drop 512).drop s) = false := by simpa using hbk
                  have HEQO := Aside0.mk (HNO.out (by
                    rw [HREST.out]
                    unfold restB
                    rw [Int.toNat_natCast, hbk', Bool.and_false, Bool.and_false]))
                  rw [hbk']
                  clear hbk hbk'
                  have HFx := Aside0.mk (setRow_heap_at w7 w.heap.size #[.int .i64 0, .int .i64 0, .int .i64 0, .int .i64 0, .int .i64 0, .int .i64 0] _ 35 (0, 0) HR7.out)
                  have HBF := Aside0.mk (setRow_below HB7.out (Nat.le_refl _) #[.int .i64 0, .int .i64 0, .int .i64 0, .int .i64 0, .int .i64 0, .int .i64 0])
                  go_wp2_with (refine wpList_store_row rfl 35 (.tmp 2) (.tmp 85) rfl w.heap.size #[.int .i64 0, .int .i64 0, .int .i64 0, .int .i64 0, .int .i64 0, .int .i64 0] rfl rfl 35 _ HR7.out (by kernel_rfl) rfl (six_one 0 0 0 0 0 0) ?_)
                  refine bodyPost_ret (results_open rfl _ _ w.heap.size 35 #[.int .i64 0, .int .i64 0, .int .i64 0, .int .i64 0, .int .i64 0, .int .i64 0] (0, 0) _ rfl HFx.out Tryd.underlying35 rfl (by kernel_rfl)) rfl ?_
                  rw [HEQO.out]
                  exact ⟨none, 0, rfl, Nat.le_refl _, fun W _ => C_none .u8 W, HBF.out⟩
              · have hne : ((512 + 512 * ((blocksOf s : Nat) : Int)) != (n : Int)) = true := by simp; omega
                have HEQO := Aside0.mk (HNO.out (by
                  rw [HREST.out]
                  unfold restB
                  rw [Int.toNat_natCast, List.length_drop, HV.out, decide_eq_false (p := blocksOf s * 512 = n - 512) (by omega), Bool.and_false, Bool.false_and, Bool.and_false]))
                clear hbl
                have HFx := Aside0.mk (setRow_heap_at w6 w.heap.size #[.int .i64 0, .int .i64 0, .int .i64 0, .int .i64 0, .int .i64 0, .int .i64 0] _ 35 (0, 0) HR6.out)
                have HBF := Aside0.mk (setRow_below HB6.out (Nat.le_refl _) #[.int .i64 0, .int .i64 0, .int .i64 0, .int .i64 0, .int .i64 0, .int .i64 0])
                go_wp2_with (refine wpList_store_row rfl 35 (.tmp 2) (.tmp 85) rfl w.heap.size #[.int .i64 0, .int .i64 0, .int .i64 0, .int .i64 0, .int .i64 0, .int .i64 0] rfl rfl 35 _ HR6.out (by kernel_rfl) rfl (six_one 0 0 0 0 0 0) ?_)
                refine bodyPost_ret (results_open rfl _ _ w.heap.size 35 #[.int .i64 0, .int .i64 0, .int .i64 0, .int .i64 0, .int .i64 0, .int .i64 0] (0, 0) _ rfl HFx.out Tryd.underlying35 rfl (by kernel_rfl)) rfl ?_
                rw [HEQO.out]
                exact ⟨none, 0, rfl, Nat.le_refl _, fun W _ => C_none .u8 W, HBF.out⟩
            · have hd1 : decide (n1 ≤ n0) = false := decide_eq_false (by omega)
              have hd2 : decide (n2 < n3) = true := decide_eq_true (by omega)
              have HEQO := Aside0.mk (HNO.out (by
                have : goodB (readNs (v.take 512)) (v.take 512) = false := by
                  rw [HRN.out]
                  unfold goodB
                  rw [show decide (rd [n0, n1, n2, n3, n4, n5] 3 ≤ rd [n0, n1, n2, n3, n4, n5] 2) = false from decide_eq_false (by show ¬ n3 ≤ n2; omega), Bool.and_false]
                rw [this]; rfl))
              clear h01 h32
              have HFx := Aside0.mk (setRow_heap_at w5 w.heap.size #[.int .i64 0, .int .i64 0, .int .i64 0, .int .i64 0, .int .i64 0, .int .i64 0] _ 35 (0, 0) HR5.out)
              have HBF := Aside0.mk (setRow_below HB5.out (Nat.le_refl _) #[.int .i64 0, .int .i64 0, .int .i64 0, .int .i64 0, .int .i64 0, .int .i64 0])
              go_wp2_with (refine wpList_store_row rfl 35 (.tmp 2) (.tmp 67) rfl w.heap.size #[.int .i64 0, .int .i64 0, .int .i64 0, .int .i64 0, .int .i64 0, .int .i64 0] rfl rfl 35 _ HR5.out (by kernel_rfl) rfl (six_one 0 0 0 0 0 0) ?_)
              refine bodyPost_ret (results_open rfl _ _ w.heap.size 35 #[.int .i64 0, .int .i64 0, .int .i64 0, .int .i64 0, .int .i64 0, .int .i64 0] (0, 0) _ rfl HFx.out Tryd.underlying35 rfl (by kernel_rfl)) rfl ?_
              rw [HEQO.out]
              exact ⟨none, 0, rfl, Nat.le_refl _, fun W _ => C_none .u8 W, HBF.out⟩
          · have hd1 : decide (n1 ≤ n0) = true := decide_eq_true (by omega)
            have HEQO := Aside0.mk (HNO.out (by
              have : goodB (readNs (v.take 512)) (v.take 512) = false := by
                rw [HRN.out]
                unfold goodB
                rw [show decide (rd [n0, n1, n2, n3, n4, n5] 0 < rd [n0, n1, n2, n3, n4, n5] 1) = false from decide_eq_false (by show ¬ n0 < n1; omega), Bool.and_false, Bool.false_and]
              rw [this]; rfl))
            clear h01
            have HFx := Aside0.mk (setRow_heap_at w5 w.heap.size #[.int .i64 0, .int .i64 0, .int .i64 0, .int .i64 0, .int .i64 0, .int .i64 0] _ 35 (0, 0) HR5.out)
            have HBF := Aside0.mk (setRow_below HB5.out (Nat.le_refl _) #[.int .i64 0, .int .i64 0, .int .i64 0, .int .i64 0, .int .i64 0, .int .i64 0])
            go_wp2_with (refine wpList_store_row rfl 35 (.tmp 2) (.tmp 67) rfl w.heap.size #[.int .i64 0, .int .i64 0, .int .i64 0, .int .i64 0, .int .i64 0, .int .i64 0] rfl rfl 35 _ HR5.out (by kernel_rfl) rfl (six_one 0 0 0 0 0 0) ?_)
            refine bodyPost_ret (results_open rfl _ _ w.heap.size 35 #[.int .i64 0, .int .i64 0, .int .i64 0, .int .i64 0, .int .i64 0, .int .i64 0] (0, 0) _ rfl HFx.out Tryd.underlying35 rfl (by kernel_rfl)) rfl ?_
            rw [HEQO.out]
            exact ⟨none, 0, rfl, Nat.le_refl _, fun W _ => C_none .u8 W, HBF.out⟩
        · rw [decide_eq_false heq]
          have HEQO := Aside0.mk (HNO.out (by
            cases hg : goodB (readNs (v.take 512)) (v.take 512) with
            | false => rfl
            | true => exact absurd (by have := (good_parts hg).2.1; rw [← raw_same hg, HNS.out] at this; exact this.symm) heq))
          clear heq
          have HFx := Aside0.mk (setRow_heap_at w5 w.heap.size #[.int .i64 0, .int .i64 0, .int .i64 0, .int .i64 0, .int .i64 0, .int .i64 0] _ 35 (0, 0) HR5.out)
          have HBF := Aside0.mk (setRow_below HB5.out (Nat.le_refl _) #[.int .i64 0, .int .i64 0, .int .i64 0, .int .i64 0, .int .i64 0, .int .i64 0])
          go_wp2_with (refine wpList_store_row rfl 35 (.tmp 2) (.tmp 67) rfl w.heap.size #[.int .i64 0, .int .i64 0, .int .i64 0, .int .i64 0, .int .i64 0, .int .i64 0] rfl rfl 35 _ HR5.out (by kernel_rfl) rfl (six_one 0 0 0 0 0 0) ?_)
          refine bodyPost_ret (results_open rfl _ _ w.heap.size 35 #[.int .i64 0, .int .i64 0, .int .i64 0, .int .i64 0, .int .i64 0, .int .i64 0] (0, 0) _ rfl HFx.out Tryd.underlying35 rfl (by kernel_rfl)) rfl ?_
          rw [HEQO.out]
          exact ⟨none, 0, rfl, Nat.le_refl _, fun W _ => C_none .u8 W, HBF.out⟩
      · have hlf : labOk [n0, n1, n2, n3, n4, n5] = false := by simpa using hlk
        have HEQO := Aside0.mk (HNO.out (by
          cases hg : goodB (readNs (v.take 512)) (v.take 512) with
          | false => rfl
          | true => exact absurd (by have := (good_parts hg).1; rw [← raw_same hg, HNS.out] at this; exact this) hlk))
        rw [hlf]
        clear hlv hlk hlf
        have HFx := Aside0.mk (setRow_heap_at w4 w.heap.size #[.int .i64 0, .int .i64 0, .int .i64 0, .int .i64 0, .int .i64 0, .int .i64 0] _ 35 (0, 0) HR4.out)
        have HBF := Aside0.mk (setRow_below HB4.out (Nat.le_refl _) #[.int .i64 0, .int .i64 0, .int .i64 0, .int .i64 0, .int .i64 0, .int .i64 0])
        go_wp2_with (refine wpList_store_row rfl 35 (.tmp 2) (.tmp 67) rfl w.heap.size #[.int .i64 0, .int .i64 0, .int .i64 0, .int .i64 0, .int .i64 0, .int .i64 0] rfl rfl 35 _ HR4.out (by kernel_rfl) rfl (six_one 0 0 0 0 0 0) ?_)
        refine bodyPost_ret (results_open rfl _ _ w.heap.size 35 #[.int .i64 0, .int .i64 0, .int .i64 0, .int .i64 0, .int .i64 0, .int .i64 0] (0, 0) _ rfl HFx.out Tryd.underlying35 rfl (by kernel_rfl)) rfl ?_
        rw [HEQO.out]
        exact ⟨none, 0, rfl, Nat.le_refl _, fun W _ => C_none .u8 W, HBF.out⟩
end Go.Proofs.YtkcgioggnbnfkaaDoor.RO
