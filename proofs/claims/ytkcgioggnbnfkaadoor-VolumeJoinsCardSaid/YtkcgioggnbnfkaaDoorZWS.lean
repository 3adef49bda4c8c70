/- The law VolumeSplits: its walk. -/
import Derived.Test.YtkcgioggnbnfkaaDoorZRS
set_option linter.unusedVariables false
set_option linter.unusedSimpArgs false
namespace Go.Proofs.YtkcgioggnbnfkaaDoor.WS
open Go.RowKit Go.Proofs.YtkcgioggnbnfkaaDoorW.PrintWords Go.Proofs.YtkcgioggnbnfkaaDoorW.PrintLast Go.Proofs.YtkcgioggnbnfkaaDoorW.PrintMore Go.Proofs.YtkcgioggnbnfkaaDoorW.Mv Go.Proofs.YtkcgioggnbnfkaaDoorW.HKit Go.Proofs.YtkcgioggnbnfkaaDoorW.But Go.Proofs.YtkcgioggnbnfkaaDoorW.App Go.Proofs.YtkcgioggnbnfkaaDoorW.Rwb Go.Proofs.YtkcgioggnbnfkaaDoor.PVolumeJoins Go.Proofs.YtkcgioggnbnfkaaDoor.CrcA Go.Proofs.YtkcgioggnbnfkaaDoor.Crc Go.Proofs.YtkcgioggnbnfkaaDoor.NumP Go.Proofs.YtkcgioggnbnfkaaDoor.NumG Go.Proofs.YtkcgioggnbnfkaaDoor.Num Go.Proofs.YtkcgioggnbnfkaaDoor.Lab Go.Proofs.YtkcgioggnbnfkaaDoor.Read Go.Proofs.YtkcgioggnbnfkaaDoor.Open Go.Proofs.YtkcgioggnbnfkaaDoor.Vol Go.Proofs.YtkcgioggnbnfkaaDoor.Spl Go.Proofs.YtkcgioggnbnfkaaDoor.RS
theorem same_calls (A B : Option Addr) (n m c d : Nat) (xs ys : List Int) (W : World) (hx : Kd.C (Kd.int .u8) W A n xs) (hy : Kd.C (Kd.int .u8) W B m ys) (hc : n ≤ c) (hd : m ≤ d) (bx : ∀ x ∈ xs, 0 ≤ x ∧ x ≤ 255) (by_ : ∀ x ∈ ys, 0 ≤ x ∧ x ≤ 255) :
    Calls Tryd.prog 9 #[.slice A n c, .slice B m d] W fun e w' => e = .returned (.bool (decide (xs = ys))) ∧ Below W.heap.size W w' := by
  have h1 := C_len hx
  have h2 := C_len hy
  subst h1 h2
  refine (oakumref01_Same.calls A c xs B d ys _ W hx hc hy hd rfl).mono ?_
  rintro e w' ⟨rfl, hdr⟩
  refine ⟨?_, hdr.below⟩
  congr 2
  have : ((strOfNums xs).toList == (strOfNums ys).toList) = decide (xs = ys) := by
    rw [← bytesOf_inj bx by_]
    have e1 : ∀ l : List Int, (strOfNums l).toList = Lib.bytesOf l := fun l => by rw [ByteArray.toList_eq]; exact strOfNums_data l
    rw [e1, e1]
  exact this
theorem labOf_take (ns t : List Int) (h : labOk ns = true) (hl : ns.length = 6) : (labOf ns ++ t).take 512 = labOf ns := by
  have h1 := labOf_len ns h hl
  rw [List.take_append_of_le_length (by omega), List.take_of_length_le (by omega)]
theorem labOf_drop (ns t : List Int) (h : labOk ns = true) (hl : ns.length = 6) : (labOf ns ++ t).drop 512 = t := by
  have h1 := labOf_len ns h hl
  rw [List.drop_append, h1, Nat.sub_self, List.drop_zero, List.drop_eq_nil_of_le (by omega), List.nil_append]
theorem field_at (n0 n1 n2 n3 n4 n5 : Int) (h : labOk [n0, n1, n2, n3, n4, n5] = true) : readNs (labOf [n0, n1, n2, n3, n4, n5]) = [n0, n1, n2, n3, n4, n5] := by
  have hall := List.all_eq_true.1 h
  have l0 := put12_len n0 (hall n0 (by simp))
  have l1 := put12_len n1 (hall n1 (by simp))
  have l2 := put12_len n2 (hall n2 (by simp))
  have l3 := put12_len n3 (hall n3 (by simp))
  have l4 := put12_len n4 (hall n4 (by simp))
  have l5 := put12_len n5 (hall n5 (by simp))
  have hs : signL.length = 16 := rfl
  have e : labOf [n0, n1, n2, n3, n4, n5] = signL ++ (put12 n0 ++ (put12 n1 ++ (put12 n2 ++ (put12 n3 ++ (put12 n4 ++ (put12 n5 ++ List.replicate 424 0)))))) := by
    unfold labOf labHead
    rw [if_pos h]
    simp only [List.flatMap_cons, List.flatMap_nil, List.append_nil, List.append_assoc]
  have cutp : ∀ (p q t : List Int) (f : Nat), p.length = f → q.length = 12 → Read.part (p ++ (q ++ t)) f 12 = q := by
    intro p q t f hp hq
    unfold Read.part
    rw [List.drop_take, show f + 12 - f = 12 by omega, List.drop_append, hp, Nat.sub_self, List.drop_zero, List.drop_eq_nil_of_le (by omega), List.nil_append, List.take_append_of_le_length (by omega), List.take_of_length_le (by omega)]
  have f0 : fieldN (labOf [n0, n1, n2, n3, n4, n5]) 0 = n0 := by
    unfold fieldN
    rw [e, cutp signL (put12 n0) _ (16 + 12 * 0) hs l0, get_put12 n0 (hall n0 (by simp))]
  have f1 : fieldN (labOf [n0, n1, n2, n3, n4, n5]) 1 = n1 := by
    unfold fieldN
    rw [e, ← List.append_assoc, cutp _ (put12 n1) _ (16 + 12 * 1) (by simp [hs, l0]) l1, get_put12 n1 (hall n1 (by simp))]
  have f2 : fieldN (labOf [n0, n1, n2, n3, n4, n5]) 2 = n2 := by
    unfold fieldN
    rw [e, ← List.append_assoc, ← List.append_assoc, cutp _ (put12 n2) _ (16 + 12 * 2) (by simp [hs, l0, l1]) l2, get_put12 n2 (hall n2 (by simp))]
  have f3 : fieldN (labOf [n0, n1, n2, n3, n4, n5]) 3 = n3 := by
    unfold fieldN
    rw [e, ← List.append_assoc, ← List.append_assoc, ← List.append_assoc, cutp _ (put12 n3) _ (16 + 12 * 3) (by simp [hs, l0, l1, l2]) l3, get_put12 n3 (hall n3 (by simp))]
  have f4 : fieldN (labOf [n0, n1, n2, n3, n4, n5]) 4 = n4 := by
    unfold fieldN
    rw [e, ← List.append_assoc, ← List.append_assoc, ← List.append_assoc, ← List.append_assoc, cutp _ (put12 n4) _ (16 + 12 * 4) (by simp [hs, l0, l1, l2, l3]) l4, get_put12 n4 (hall n4 (by simp))]
  have f5 : fieldN (labOf [n0, n1, n2, n3, n4, n5]) 5 = n5 := by
    unfold fieldN
    rw [e, ← List.append_assoc, ← List.append_assoc, ← List.append_assoc, ← List.append_assoc, ← List.append_assoc, cutp _ (put12 n5) _ (16 + 12 * 5) (by simp [hs, l0, l1, l2, l3, l4]) l5, get_put12 n5 (hall n5 (by simp))]
  unfold readNs
  rw [f0, f1, f2, f3, f4, f5]
/-- A volume of a label that fits is opened: its label, its part. -/
theorem open_vol (n0 n1 n2 n4 : Int) (p : List Int) (hp : ∀ x ∈ p, 0 ≤ x ∧ x ≤ 255) (h : labOk [n0, n1, n2, (p.length : Int), n4, ((crcSum p : Nat) : Int)] = true) (h01 : n0 < n1) (h32 : (p.length : Int) ≤ n2) :
    openOf (volOf [n0, n1, n2, (p.length : Int), n4, ((crcSum p : Nat) : Int)] p) = ([n0, n1, n2, (p.length : Int), n4, ((crcSum p : Nat) : Int)], p, 0) := by
  have hll := labOf_len _ h rfl
  have ht : (volOf [n0, n1, n2, (p.length : Int), n4, ((crcSum p : Nat) : Int)] p).take 512 = labOf [n0, n1, n2, (p.length : Int), n4, ((crcSum p : Nat) : Int)] := by
    unfold volOf
    rw [List.append_assoc]
    exact labOf_take _ _ h rfl
  have hd : (volOf [n0, n1, n2, (p.length : Int), n4, ((crcSum p : Nat) : Int)] p).drop 512 = p ++ List.replicate (restOf p.length) 0 := by
    unfold volOf
    rw [List.append_assoc]
    exact labOf_drop _ _ h rfl
  have hlen : ¬ (volOf [n0, n1, n2, (p.length : Int), n4, ((crcSum p : Nat) : Int)] p).length < 512 := by
    unfold volOf
    rw [List.append_assoc, List.length_append, hll]
    omega
  unfold openOf
  rw [if_neg hlen, ht, hd, field_at _ _ _ _ _ _ h]
  have hrd3 : rd [n0, n1, n2, (p.length : Int), n4, ((crcSum p : Nat) : Int)] 3 = (p.length : Int) := rfl
  have hrd5 : rd [n0, n1, n2, (p.length : Int), n4, ((crcSum p : Nat) : Int)] 5 = ((crcSum p : Nat) : Int) := rfl
  have hg : goodB [n0, n1, n2, (p.length : Int), n4, ((crcSum p : Nat) : Int)] (labOf [n0, n1, n2, (p.length : Int), n4, ((crcSum p : Nat) : Int)]) = true := by
    unfold goodB
    rw [h]
    have e0 : rd [n0, n1, n2, (p.length : Int), n4, ((crcSum p : Nat) : Int)] 0 = n0 := rfl
    have e1 : rd [n0, n1, n2, (p.length : Int), n4, ((crcSum p : Nat) : Int)] 1 = n1 := rfl
    have e2 : rd [n0, n1, n2, (p.length : Int), n4, ((crcSum p : Nat) : Int)] 2 = n2 := rfl
    rw [e0, e1, e2, hrd3, decide_eq_true h01, decide_eq_true h32]
    simp
  have htk : (p ++ List.replicate (restOf p.length) (0 : Int)).take p.length = p := by rw [List.take_append_of_le_length (Nat.le_refl _), List.take_of_length_le (Nat.le_refl _)]
  have hdr : (p ++ List.replicate (restOf p.length) (0 : Int)).drop p.length = List.replicate (restOf p.length) 0 := by rw [List.drop_append, Nat.sub_self, List.drop_zero, List.drop_eq_nil_of_le (Nat.le_refl _), List.nil_append]
  have hr : restB (p.length : Int) (p ++ List.replicate (restOf p.length) 0) = true := by
    unfold restB
    rw [Int.toNat_natCast, hdr]
    have b1 : BlkP.blank (List.replicate (restOf p.length) 0) = true := by
      unfold BlkP.blank
      rw [List.all_eq_true]
      intro x hx
      simp [List.eq_of_mem_replicate hx]
    have b2 : blocksOf p.length * 512 = (p ++ List.replicate (restOf p.length) (0 : Int)).length := by
      rw [List.length_append, List.length_replicate]
      unfold blocksOf restOf
      omega
    rw [b1, decide_eq_true b2, decide_eq_true (by rw [List.length_append]; omega)]
    rfl
  rw [hrd3, hrd5, hg, hr, Int.toNat_natCast, htk]
  simp
theorem open_volAt (b : List Int) (S i : Nat) (hb : ∀ x ∈ b, 0 ≤ x ∧ x ≤ 255) (hn : b.length ≤ 8000) (hS : 512 ≤ S) (hi : i < cntOf b.length S) :
    openOf (volAt b S (cntOf b.length S) i) = ([(i : Int), (cntOf b.length S : Int), (b.length : Int), ((Spl.partAt b S i).length : Int), ((crcSum b : Nat) : Int), ((crcSum (Spl.partAt b S i) : Nat) : Int)], Spl.partAt b S i, 0) := by
  have hm := cnt_le b.length S hn hS
  unfold volAt
  refine open_vol _ _ _ _ _ (part_at_bd hb S i) (lab_fits b S _ i hb hn hm (by omega)) (by omega) ?_
  unfold Spl.partAt
  rw [List.length_take, List.length_drop]
  omega
theorem vol_len (b : List Int) (S i : Nat) (hb : ∀ x ∈ b, 0 ≤ x ∧ x ≤ 255) (hn : b.length ≤ 8000) (hS : 512 ≤ S) (hi : i < cntOf b.length S) : (volAt b S (cntOf b.length S) i).length = 512 + (Spl.partAt b S i).length + restOf (Spl.partAt b S i).length := by
  have hm := cnt_le b.length S hn hS
  unfold volAt volOf
  rw [List.length_append, List.length_append, labOf_len _ (lab_fits b S _ i hb hn hm (by omega)) rfl, List.length_replicate]
theorem zeros_C (w : World) (m : Nat) (hm : m ≤ 9223372036854775807) : Kd.C (Kd.int .u8) (w.alloc (.cells (madeCells #[.int .u8 0] m) 5)) (some ⟨w.heap.size, 0, none⟩) m (List.replicate m 0) := by
  refine Kd.C_of_reads (enc := Value.int .u8) (d := (0 : Int)) (h1 := fun _ => rfl) ⟨by simp, hm, fun hp => ⟨_, rfl, fun j hj => ?_⟩⟩
  rw [add_plain, cell_of_row _ _ j _ 5 (0, 0) (heap_alloc_new w _)]
  simp [madeCells, hj, Nat.mod_one, List.getD]
set_option maxHeartbeats 4000000 in
set_option maxRecDepth 100000 in
theorem alive_calls (w : World) : Calls Tryd.prog 6 #[] w fun e w' => e = .returned (.bool true) ∧ Below w.heap.size w w' := by
  have hmk : ∀ W : World, (Instr.makeSlice 22 (.int .i64 600) (.int .i64 600)).run Tryd.prog W = .ok (.slice (some ⟨W.heap.size, 0, none⟩) 600 600) (W.alloc (.cells (madeCells #[.int .u8 0] 600) 5)) := fun W => print_make (P := Tryd.prog) 22 5 .u8 1 Tryd.underlying22 Lab.byteInfo (by decide) 600 (by decide) W
  have hsp := split_calls (some ⟨w.heap.size, 0, none⟩) 600 600 (List.replicate 600 0) 1 512 (w.alloc (.cells (madeCells #[.int .u8 0] 600) 5)) (zeros_C w 600 (by decide)) (Nat.le_refl _) (fun x hx => by rw [List.eq_of_mem_replicate hx]; decide) (by decide) (by decide) (by decide) rfl
  have hbd : ∀ x ∈ List.replicate 600 (0 : Int), 0 ≤ x ∧ x ≤ 255 := fun x hx => by rw [List.eq_of_mem_replicate hx]; decide
  have hl0 := vol_len (List.replicate 600 0) 512 0 hbd (by rw [List.length_replicate]; decide) (by decide) (by rw [List.length_replicate]; decide)
  have hl1 := vol_len (List.replicate 600 0) 512 1 hbd (by rw [List.length_replicate]; decide) (by decide) (by rw [List.length_replicate]; decide)
  have hp0 : (Spl.partAt (List.replicate 600 0) 512 0).length = 512 := by simp [Spl.partAt]
  have hp1 : (Spl.partAt (List.replicate 600 0) 512 1).length = 88 := by simp [Spl.partAt]
  rw [hp0] at hl0
  rw [hp1] at hl1
  have hvols : volsOf (List.replicate 600 0) 512 = [volAt (List.replicate 600 0) 512 (cntOf (List.replicate 600 (0 : Int)).length 512) 0, volAt (List.replicate 600 0) 512 (cntOf (List.replicate 600 (0 : Int)).length 512) 1] := by
    unfold volsOf
    have : cntOf (List.replicate 600 (0 : Int)).length 512 = 2 := by rw [List.length_replicate]; rfl
    rw [this]
    rfl
  rw [hvols] at hsp
  generalize volAt (List.replicate 600 0) 512 (cntOf (List.replicate 600 (0 : Int)).length 512) 0 = x0 at hsp hl0
  generalize volAt (List.replicate 600 0) 512 (cntOf (List.replicate 600 (0 : Int)).length 512) 1 = x1 at hsp hl1
  have HSP := Aside0.mk (show Calls Tryd.prog 7 #[.slice (some ⟨w.heap.size, 0, none⟩) 600 600, .int .i64 1] (w.alloc (.cells (madeCells #[.int .u8 0] 600) 5)) _ from hsp)
  have HL0 := Aside0.mk (show x0.length = 1024 from hl0)
  have HL1 := Aside0.mk (show x1.length = 1024 from hl1)
  clear hsp hvols hp0 hp1 hl0 hl1 hbd
  have HB0 := Aside0.mk ((Below.refl w.heap.size w).alloc (Nat.le_refl _) (.cells (madeCells #[.int .u8 0] 600) 5))
  go_enter Tryd.func6, Tryd.ntmps6
  go_wp2_with fail
  refine HSP.out.mono ?_
  clear HSP hmk
  rintro e w1 ⟨A, c, rfl, hR, hb1⟩
  have HB1 := Aside0.mk (HB0.out.trans (hb1.mono HB0.out.size))
  obtain ⟨a, A0, c0, hA, h0, _, _⟩ := hR.at_ 0 (by simp)
  obtain ⟨a', A1, c1, hA', h1, _, _⟩ := hR.at_ 1 (by simp)
  subst hA
  injection hA' with hA'
  subst hA'
  simp only [List.getElem_cons_zero, List.getElem_cons_succ] at h0 h1
  rw [HL0.out] at h0
  rw [HL1.out] at h1
  have ha0 : a.add 0 = a := by simp [Addr.add]
  have ha1 : a.add 1 = ⟨a.block, a.off + 1, none⟩ := by simp [Addr.add]
  rw [ha0] at h0
  rw [ha1] at h1
  clear hR hb1 ha0 ha1
  go_wp2_with fail
  go_ret
  exact ⟨rfl, HB1.out⟩
/-- What the law's loop knows. -/
def WRel (wx : World) (m : Nat) (n' : Nat) (v9 : Value) (wr : World) : Prop := ∃ i : Nat, v9 = .int .i64 i ∧ n' + i = m ∧ Below wx.heap.size wx wr
end Go.Proofs.YtkcgioggnbnfkaaDoor.WS
