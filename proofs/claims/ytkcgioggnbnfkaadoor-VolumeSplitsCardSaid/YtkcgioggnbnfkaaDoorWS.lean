/- The law VolumeSplits: its walk. -/
import Derived.Test.YtkcgioggnbnfkaaDoorRS
set_option linter.unusedVariables false
set_option linter.unusedSimpArgs false
namespace Go.Proofs.YtkcgioggnbnfkaaDoor.WS
open Go.RowKit Go.Proofs.YtkcgioggnbnfkaaDoorW.PrintWords Go.Proofs.YtkcgioggnbnfkaaDoorW.PrintLast Go.Proofs.YtkcgioggnbnfkaaDoorW.PrintMore Go.Proofs.YtkcgioggnbnfkaaDoorW.Mv Go.Proofs.YtkcgioggnbnfkaaDoorW.HKit Go.Proofs.YtkcgioggnbnfkaaDoorW.But Go.Proofs.YtkcgioggnbnfkaaDoorW.App Go.Proofs.YtkcgioggnbnfkaaDoorW.Rwb Go.Proofs.YtkcgioggnbnfkaaDoor.PVolumeJoins Go.Proofs.YtkcgioggnbnfkaaDoor.CrcA Go.Proofs.YtkcgioggnbnfkaaDoor.Crc Go.Proofs.YtkcgioggnbnfkaaDoor.NumP Go.Proofs.YtkcgioggnbnfkaaDoor.NumG Go.Proofs.YtkcgioggnbnfkaaDoor.Num Go.Proofs.YtkcgioggnbnfkaaDoor.Lab Go.Proofs.YtkcgioggnbnfkaaDoor.Read Go.Proofs.YtkcgioggnbnfkaaDoor.Open Go.Proofs.YtkcgioggnbnfkaaDoor.Vol Go.Proofs.YtkcgioggnbnfkaaDoor.Spl Go.Proofs.YtkcgioggnbnfkaaDoor.RS
theorem same_calls (A B : Option Addr) (n m c d : Nat) (xs ys : List Int) (W : World) (hx : Kd.C (Kd.int .u8) W A n xs) (hy : Kd.C (Kd.int .u8) W B m ys) (hc : n ≤ c) (hd : m ≤ d) (bx : ∀ x ∈ xs, 0 ≤ x ∧ x ≤ 255) (by_ : ∀ x ∈ ys, 0 ≤ x ∧ x ≤ 255) :
    Calls Tryd.prog 9 #[.slice A n c, .slice B m d] W fun e w' => e = .returned (.bool (decide (xs = ys))) ∧ Below W.heap.size W w' := by
  have h1 := C_len hx
  have h2 := C_len hy
  subst h1 h2
  refine (oakumref01_Same.calls A c xs B d ys _ W hx hc hy hd rfl).mono ?_
  rintro e w' ⟨rfl, hdr⟩
  refine ⟨?_, hdr.below⟩
  congr 2
  have : ((strOfNums xs).toList == (strOfNums ys).toList) = decide (xs = ys) := by
    rw [← bytesOf_inj bx by_]
    have e1 : ∀ l : List Int, (strOfNums l).toList = Lib.bytesOf l := fun l => by rw [ByteArray.toList_eq]; exact strOfNums_data l
    rw [e1, e1]
  exact this
/-! ### A volume that was split off is opened -/
theorem labOf_take (ns t : List Int) (h : labOk ns = true) (hl : ns.length = 6) : (labOf ns ++ t).take 512 = labOf ns := by
  have h1 := labOf_len ns h hl
  rw [List.take_append_of_le_length (by omega), List.take_of_length_le (by omega)]
theorem labOf_drop (ns t : List Int) (h : labOk ns = true) (hl : ns.length = 6) : (labOf ns ++ t).drop 512 = t := by
  have h1 := labOf_len ns h hl
  rw [List.drop_append, h1, Nat.sub_self, List.drop_zero, List.drop_eq_nil_of_le (by omega), List.nil_append]
theorem field_at (n0 n1 n2 n3 n4 n5 : Int) (h : labOk [n0, n1, n2, n3, n4, n5] = true) : readNs (labOf [n0, n1, n2, n3, n4, n5]) = [n0, n1, n2, n3, n4, n5] := by
  have hall := List.all_eq_true.1 h
  have l0 := put12_len n0 (hall n0 (by simp))
  have l1 := put12_len n1 (hall n1 (by simp))
  have l2 := put12_len n2 (hall n2 (by simp))
  have l3 := put12_len n3 (hall n3 (by simp))
  have l4 := put12_len n4 (hall n4 (by simp))
  have l5 := put12_len n5 (hall n5 (by simp))
  have hs : signL.length = 16 := rfl
  have e : labOf [n0, n1, n2, n3, n4, n5] = signL ++ (put12 n0 ++ (put12 n1 ++ (put12 n2 ++ (put12 n3 ++ (put12 n4 ++ (put12 n5 ++ List.replicate 424 0)))))) := by
    unfold labOf labHead
    rw [if_pos h]
    simp only [List.flatMap_cons, List.flatMap_nil, List.append_nil, List.append_assoc]
  have cutp : ∀ (p q t : List Int) (f : Nat), p.length = f → q.length = 12 → Read.part (p ++ (q ++ t)) f 12 = q := by
    intro p q t f hp hq
    unfold Read.part
    rw [List.drop_take, show f + 12 - f = 12 by omega, List.drop_append, hp, Nat.sub_self, List.drop_zero, List.drop_eq_nil_of_le (by omega), List.nil_append, List.take_append_of_le_length (by omega), List.take_of_length_le (by omega)]
  have f0 : fieldN (labOf [n0, n1, n2, n3, n4, n5]) 0 = n0 := by
    unfold fieldN
    rw [e, cutp signL (put12 n0) _ (16 + 12 * 0) hs l0, get_put12 n0 (hall n0 (by simp))]
  have f1 : fieldN (labOf [n0, n1, n2, n3, n4, n5]) 1 = n1 := by
    unfold fieldN
    rw [e, ← List.append_assoc, cutp _ (put12 n1) _ (16 + 12 * 1) (by simp [hs, l0]) l1, get_put12 n1 (hall n1 (by simp))]
  have f2 : fieldN (labOf [n0, n1, n2, n3, n4, n5]) 2 = n2 := by
    unfold fieldN
    rw [e, ← List.append_assoc, ← List.append_assoc, cutp _ (put12 n2) _ (16 + 12 * 2) (by simp [hs, l0, l1]) l2, get_put12 n2 (hall n2 (by simp))]
  have f3 : fieldN (labOf [n0, n1, n2, n3, n4, n5]) 3 = n3 := by
    unfold fieldN
    rw [e, ← List.append_assoc, ← List.append_assoc, ← List.append_assoc, cutp _ (put12 n3) _ (16 + 12 * 3) (by simp [hs, l0, l1, l2]) l3, get_put12 n3 (hall n3 (by simp))]
  have f4 : fieldN (labOf [n0, n1, n2, n3, n4, n5]) 4 = n4 := by
    unfold fieldN
    rw [e, ← List.append_assoc, ← List.append_assoc, ← List.append_assoc, ← List.append_assoc, cutp _ (put12 n4) _ (16 + 12 * 4) (by simp [hs, l0, l1, l2, l3]) l4, get_put12 n4 (hall n4 (by simp))]
  have f5 : fieldN (labOf [n0, n1, n2, n3, n4, n5]) 5 = n5 := by
    unfold fieldN
    rw [e, ← List.append_assoc, ← List.append_assoc, ← List.append_assoc, ← List.append_assoc, ← List.append_assoc, cutp _ (put12 n5) _ (16 + 12 * 5) (by simp [hs, l0, l1, l2, l3, l4]) l5, get_put12 n5 (hall n5 (by simp))]
  unfold readNs
  rw [f0, f1, f2, f3, f4, f5]
/-- A volume of a label that fits is opened: its label, its part. -/
theorem open_vol (n0 n1 n2 n4 : Int) (p : List Int) (hp : ∀ x ∈ p, 0 ≤ x ∧ x ≤ 255) (h : labOk [n0, n1, n2, (p.length : Int), n4, ((crcSum p : Nat) : Int)] = true) (h01 : n0 < n1) (h32 : (p.length : Int) ≤ n2) :
    openOf (volOf [n0, n1, n2, (p.length : Int), n4, ((crcSum p : Nat) : Int)] p) = ([n0, n1, n2, (p.length : Int), n4, ((crcSum p : Nat) : Int)], p, 0) := by
  have hll := labOf_len _ h rfl
  have ht : (volOf [n0, n1, n2, (p.length : Int), n4, ((crcSum p : Nat) : Int)] p).take 512 = labOf [n0, n1, n2, (p.length : Int), n4, ((crcSum p : Nat) : Int)] := by
    unfold volOf
    rw [List.append_assoc]
    exact labOf_take _ _ h rfl
  have hd : (volOf [n0, n1, n2, (p.length : Int), n4, ((crcSum p : Nat) : Int)] p).drop 512 = p ++ List.replicate (restOf p.length) 0 := by
    unfold volOf
    rw [List.append_assoc]
    exact labOf_drop _ _ h rfl
  have hlen : ¬ (volOf [n0, n1, n2, (p.length : Int), n4, ((crcSum p : Nat) : Int)] p).length < 512 := by
    unfold volOf
    rw [List.append_assoc, List.length_append, hll]
    omega
  unfold openOf
  rw [if_neg hlen, ht, hd, field_at _ _ _ _ _ _ h]
  have hrd3 : rd [n0, n1, n2, (p.length : Int), n4, ((crcSum p : Nat) : Int)] 3 = (p.length : Int) := rfl
  have hrd5 : rd [n0, n1, n2, (p.length : Int), n4, ((crcSum p : Nat) : Int)] 5 = ((crcSum p : Nat) : Int) := rfl
  have hg : goodB [n0, n1, n2, (p.length : Int), n4, ((crcSum p : Nat) : Int)] (labOf [n0, n1, n2, (p.length : Int), n4, ((crcSum p : Nat) : Int)]) = true := by
    unfold goodB
    rw [h]
    have e0 : rd [n0, n1, n2, (p.length : Int), n4, ((crcSum p : Nat) : Int)] 0 = n0 := rfl
    have e1 : rd [n0, n1, n2, (p.length : Int), n4, ((crcSum p : Nat) : Int)] 1 = n1 := rfl
    have e2 : rd [n0, n1, n2, (p.length : Int), n4, ((crcSum p : Nat) : Int)] 2 = n2 := rfl
    rw [e0, e1, e2, hrd3, decide_eq_true h01, decide_eq_true h32]
    simp
  have htk : (p ++ List.replicate (restOf p.length) (0 : Int)).take p.length = p := by rw [List.take_append_of_le_length (Nat.le_refl _), List.take_of_length_le (Nat.le_refl _)]
  have hdr : (p ++ List.replicate (restOf p.length) (0 : Int)).drop p.length = List.replicate (restOf p.length) 0 := by rw [List.drop_append, Nat.sub_self, List.drop_zero, List.drop_eq_nil_of_le (Nat.le_refl _), List.nil_append]
  have hr : restB (p.length : Int) (p ++ List.replicate (restOf p.length) 0) = true := by
    unfold restB
    rw [Int.toNat_natCast, hdr]
    have b1 : BlkP.blank (List.replicate (restOf p.length) 0) = true := by
      unfold BlkP.blank
      rw [List.all_eq_true]
      intro x hx
      simp [List.eq_of_mem_replicate hx]
    have b2 : blocksOf p.length * 512 = (p ++ List.replicate (restOf p.length) (0 : Int)).length := by
      rw [List.length_append, List.length_replicate]
      unfold blocksOf restOf
      omega
    rw [b1, decide_eq_true b2, decide_eq_true (by rw [List.length_append]; omega)]
    rfl
  rw [hrd3, hrd5, hg, hr, Int.toNat_natCast, htk]
  simp
theorem vol_bd (ns p : List Int) (hp : ∀ x ∈ p, 0 ≤ x ∧ x ≤ 255) : ∀ x ∈ volOf ns p, 0 ≤ x ∧ x ≤ 255 := by
  intro x hx
  unfold volOf at hx
  rcases List.mem_append.1 hx with hx | hx
  · rcases List.mem_append.1 hx with hx | hx
    · exact lab_bd ns x hx
    · exact hp x hx
  · have := List.eq_of_mem_replicate hx
    omega
theorem open_volAt (b : List Int) (S i : Nat) (hb : ∀ x ∈ b, 0 ≤ x ∧ x ≤ 255) (hn : b.length ≤ 8000) (hS : 512 ≤ S) (hi : i < cntOf b.length S) :
    openOf (volAt b S (cntOf b.length S) i) = ([(i : Int), (cntOf b.length S : Int), (b.length : Int), ((Spl.partAt b S i).length : Int), ((crcSum b : Nat) : Int), ((crcSum (Spl.partAt b S i) : Nat) : Int)], Spl.partAt b S i, 0) := by
  have hm := cnt_le b.length S hn hS
  unfold volAt
  refine open_vol _ _ _ _ _ (part_at_bd hb S i) (lab_fits b S _ i hb hn hm (by omega)) (by omega) ?_
  unfold Spl.partAt
  rw [List.length_take, List.length_drop]
  omega
theorem vol_len (b : List Int) (S i : Nat) (hb : ∀ x ∈ b, 0 ≤ x ∧ x ≤ 255) (hn : b.length ≤ 8000) (hS : 512 ≤ S) (hi : i < cntOf b.length S) : (volAt b S (cntOf b.length S) i).length = 512 + (Spl.partAt b S i).length + restOf (Spl.partAt b S i).length := by
  have hm := cnt_le b.length S hn hS
  unfold volAt volOf
  rw [List.length_append, List.length_append, labOf_len _ (lab_fits b S _ i hb hn hm (by omega)) rfl, List.length_replicate]
/-! ### The chapter's example -/
theorem zeros_C (w : World) (m : Nat) (hm : m ≤ 9223372036854775807) : Kd.C (Kd.int .u8) (w.alloc (.cells (madeCells #[.int .u8 0] m) 5)) (some ⟨w.heap.size, 0, none⟩) m (List.replicate m 0) := by
  refine Kd.C_of_reads (enc := Value.int .u8) (d := (0 : Int)) (h1 := fun _ => rfl) ⟨by simp, hm, fun hp => ⟨_, rfl, fun j hj => ?_⟩⟩
  rw [add_plain, cell_of_row _ _ j _ 5 (0, 0) (heap_alloc_new w _)]
  simp [madeCells, hj, Nat.mod_one, List.getD]
set_option maxHeartbeats 4000000 in
set_option maxRecDepth 100000 in
theorem alive_calls (w : World) : Calls Tryd.prog 6 #[] w fun e w' => e = .returned (.bool true) ∧ Below w.heap.size w w' := by
  have hmk : ∀ W : World, (Instr.makeSlice 22 (.int .i64 600) (.int .i64 600)).run Tryd.prog W = .ok (.slice (some ⟨W.heap.size, 0, none⟩) 600 600) (W.alloc (.cells (madeCells #[.int .u8 0] 600) 5)) := fun W => print_make (P := Tryd.prog) 22 5 .u8 1 Tryd.underlying22 Lab.byteInfo (by decide) 600 (by decide) W
  have hsp := split_calls (some ⟨w.heap.size, 0, none⟩) 600 600 (List.replicate 600 0) 1 512 (w.alloc (.cells (madeCells #[.int .u8 0] 600) 5)) (zeros_C w 600 (by decide)) (Nat.le_refl _) (fun x hx => by rw [List.eq_of_mem_replicate hx]; decide) (by decide) (by decide) (by decide) rfl
  have hbd : ∀ x ∈ List.replicate 600 (0 : Int), 0 ≤ x ∧ x ≤ 255 := fun x hx => by rw [List.eq_of_mem_replicate hx]; decide
  have hl0 := vol_len (List.replicate 600 0) 512 0 hbd (by rw [List.length_replicate]; decide) (by decide) (by rw [List.length_replicate]; decide)
  have hl1 := vol_len (List.replicate 600 0) 512 1 hbd (by rw [List.length_replicate]; decide) (by decide) (by rw [List.length_replicate]; decide)
  have hp0 : (Spl.partAt (List.replicate 600 0) 512 0).length = 512 := by simp [Spl.partAt]
  have hp1 : (Spl.partAt (List.replicate 600 0) 512 1).length = 88 := by simp [Spl.partAt]
  rw [hp0] at hl0
  rw [hp1] at hl1
  have hvols : volsOf (List.replicate 600 0) 512 = [volAt (List.replicate 600 0) 512 (cntOf (List.replicate 600 (0 : Int)).length 512) 0, volAt (List.replicate 600 0) 512 (cntOf (List.replicate 600 (0 : Int)).length 512) 1] := by
    unfold volsOf
    have : cntOf (List.replicate 600 (0 : Int)).length 512 = 2 := by rw [List.length_replicate]; rfl
    rw [this]
    rfl
  rw [hvols] at hsp
  generalize volAt (List.replicate 600 0) 512 (cntOf (List.replicate 600 (0 : Int)).length 512) 0 = x0 at hsp hl0
  generalize volAt (List.replicate 600 0) 512 (cntOf (List.replicate 600 (0 : Int)).length 512) 1 = x1 at hsp hl1
  have HSP := Aside0.mk (show Calls Tryd.prog 7 #[.slice (some ⟨w.heap.size, 0, none⟩) 600 600, .int .i64 1] (w.alloc (.cells (madeCells #[.int .u8 0] 600) 5)) _ from hsp)
  have HL0 := Aside0.mk (show x0.length = 1024 from hl0)
  have HL1 := Aside0.mk (show x1.length = 1024 from hl1)
  clear hsp hvols hp0 hp1 hl0 hl1 hbd
  have HB0 := Aside0.mk ((Below.refl w.heap.size w).alloc (Nat.le_refl _) (.cells (madeCells #[.int .u8 0] 600) 5))
  go_enter Tryd.func6, Tryd.ntmps6
  go_wp2_with fail
  refine HSP.out.mono ?_
  clear HSP hmk
  rintro e w1 ⟨A, c, rfl, hR, hb1⟩
  have HB1 := Aside0.mk (HB0.out.trans (hb1.mono HB0.out.size))
  obtain ⟨a, A0, c0, hA, h0, _, _⟩ := hR.at_ 0 (by simp)
  obtain ⟨a', A1, c1, hA', h1, _, _⟩ := hR.at_ 1 (by simp)
  subst hA
  injection hA' with hA'
  subst hA'
  simp only [List.getElem_cons_zero, List.getElem_cons_succ] at h0 h1
  rw [HL0.out] at h0
  rw [HL1.out] at h1
  have ha0 : a.add 0 = a := by simp [Addr.add]
  have ha1 : a.add 1 = ⟨a.block, a.off + 1, none⟩ := by simp [Addr.add]
  rw [ha0] at h0
  rw [ha1] at h1
  clear hR hb1 ha0 ha1
  go_wp2_with fail
  go_ret
  exact ⟨rfl, HB1.out⟩
/-- What the law's loop knows. -/
def WRel (wx : World) (m : Nat) (n' : Nat) (v9 : Value) (wr : World) : Prop := ∃ i : Nat, v9 = .int .i64 i ∧ n' + i = m ∧ Below wx.heap.size wx wr
set_option maxHeartbeats 8000000 in
set_option maxRecDepth 100000 in
theorem volumeSplits_calls (w : World) (A : Option Addr) (c : Nat) (l : List Int) (hr : Kd.C (Kd.int .u8) w A l.length l) (hnil : A = none → l.length = 0 ∧ c = 0) (hc : l.length ≤ c) (y : l.length * 1 ≤ 140737488351232) (hw : ∀ x ∈ l, (Lit.int .u8 x).wf = true) (k : Int) (wk : (Lit.int .i64 k).wf = true) :
    Calls Tryd.prog 3 #[.slice A l.length c, .int .i64 k] w fun e w' => e = .returned (.bool true) ∧ Below w.heap.size w w' := by
  have hb : ∀ x ∈ l, 0 ≤ x ∧ x ≤ 255 := fun x hx => by have h := hw x hx; simp [Lit.wf, IntKind.min, IntKind.max, IntKind.signed, IntKind.bits] at h; omega
  obtain ⟨n, hn⟩ : ∃ n, l.length = n := ⟨_, rfl⟩
  rw [hn] at hr hc y ⊢
  have hn9 : n ≤ 140737488351232 := by omega
  have HN := Aside0.mk hn
  have HR := Aside0.mk hr
  have HY := Aside0.mk hb
  clear hw hnil hr hb hn y wk
  by_cases hbig : 8000 < n
  · go_enter Tryd.func3, Tryd.ntmps3
    go_wp2_with fail
    refine (alive_calls w).mono ?_
    rintro e w1 ⟨rfl, hb1⟩
    go_wp2_with fail
    go_ret
    exact ⟨rfl, hb1⟩
  by_cases hk : k < 1 ∨ 1048576 < k
  · go_enter Tryd.func3, Tryd.ntmps3
    go_wp2_with fail
    refine (alive_calls w).mono ?_
    rintro e w1 ⟨rfl, hb1⟩
    have HB1 := Aside0.mk hb1
    clear hb1
    go_wp2_with fail
    refine (split_no A n c k w1 hk).mono ?_
    rintro e w2 ⟨A2, c2, rfl, _, hb2⟩
    have HB2 := Aside0.mk (HB1.out.trans (hb2.mono HB1.out.size))
    clear hb2
    go_wp2_with fail
    refine (rsplit_no A n c k w2 hk).mono ?_
    rintro e w3 ⟨A3, c3, rfl, _, hb3⟩
    have HB3 := Aside0.mk (HB2.out.trans (hb3.mono HB2.out.size))
    clear hb3
    rw [show ([] : List (List Int)).length = 0 from rfl]
    clear hk
    go_wp2_with fail
    go_loopg [9] 0 (fun n' v9 wr => WRel w 0 n' v9 wr)
    case atStart => exact ⟨0, rfl, rfl, HB3.out⟩
    case round =>
      obtain ⟨i, rfl, hni, hB⟩ := hrel
      obtain ⟨rfl, rfl⟩ : gk = 0 ∧ i = 0 := by omega
      have HB := Aside0.mk hB
      clear hB hni
      go_wp2_with fail
      go_ret
      exact ⟨rfl, HB.out⟩
  · obtain ⟨q, rfl⟩ : ∃ q : Nat, k = (q : Int) := Int.eq_ofNat_of_zero_le (by omega)
    obtain ⟨S, hS⟩ : ∃ S, S = q * 512 := ⟨_, rfl⟩
    have hq1 : 1 ≤ q := by omega
    have hq2 : q ≤ 1048576 := by omega
    have hS1 : 512 ≤ S := by omega
    have hn8 : n ≤ 8000 := by omega
    obtain ⟨m, hm⟩ : ∃ m, m = cntOf n S := ⟨_, rfl⟩
    have HM := Aside0.mk hm
    have hm16 : m ≤ 16 := by rw [hm]; exact cnt_le n S hn8 hS1
    have HVL := Aside0.mk (show (volsOf l S).length = m by unfold volsOf; rw [List.length_map, List.length_range, HN.out, ← HM.out])
    have HSP := Aside0.mk (fun (W : World) (hW : Below w.heap.size w W) => split_calls A n c l q S W (Kd.C_below HR.out hW) hc HY.out hn8 hq1 hq2 hS)
    have HRS := Aside0.mk (fun (W : World) (hW : Below w.heap.size w W) => rsplit_calls A n c l q S W (Kd.C_below HR.out hW) hc HY.out hn8 hq1 hq2 hS)
    clear hS hk hbig hm
    go_enter Tryd.func3, Tryd.ntmps3
    go_wp2_with fail
    refine (alive_calls w).mono ?_
    rintro e w1 ⟨rfl, hb1⟩
    have HB1 := Aside0.mk hb1
    clear hb1
    go_wp2_with fail
    refine (HSP.out w1 HB1.out).mono ?_
    rintro e w2 ⟨A2, c2, rfl, hR2, hb2⟩
    have HB2 := Aside0.mk (HB1.out.trans (hb2.mono HB1.out.size))
    have HR2 := Aside0.mk hR2
    clear hb2 hR2
    rw [HVL.out]
    go_wp2_with fail
    refine (HRS.out w2 HB2.out).mono ?_
    rintro e w3 ⟨A3, c3, rfl, hR3, hb3⟩
    have HB3 := Aside0.mk (HB2.out.trans (hb3.mono HB2.out.size))
    have HR3 := Aside0.mk hR3
    have HR23 := Aside0.mk (HR2.out.below hb3)
    clear hb3 hR3 HSP HRS HR2
    rw [HVL.out]
    go_wp2_with fail
    go_loopg [9] m (fun n' v9 wr => WRel w3 m n' v9 wr)
    case atStart => exact ⟨0, rfl, by omega, Below.refl _ _⟩
    case round =>
      obtain ⟨i, rfl, hni, hB⟩ := hrel
      have HNI := Aside0.mk hni
      have HB := Aside0.mk hB
      have HBw := Aside0.mk (HB3.out.trans (hB.mono HB3.out.size))
      clear hB hni
      by_cases hlt : i < m
      · obtain ⟨al, Al, Cl, hAl, hcl, hlc, hCl⟩ := (HR23.out.below HB.out).at_ i (by rw [HVL.out]; exact hlt)
        obtain ⟨aw, Aw, Cw, hAw, hcw, hwc, hCw⟩ := (HR3.out.below HB.out).at_ i (by rw [HVL.out]; exact hlt)
        have hvi : (volsOf l S)[i]'(by rw [HVL.out]; exact hlt) = volAt l S m i := by unfold volsOf; simp [HN.out, HM.out]
        rw [hvi] at hcl hlc hCl hcw hwc hCw
        obtain ⟨x, hx⟩ : ∃ x, x = volAt l S m i := ⟨_, rfl⟩
        rw [← hx] at hcl hlc hCl hcw hwc hCw
        have hil : i < cntOf l.length S := by rw [HN.out, ← HM.out]; exact hlt
        have hop := open_volAt l S i HY.out (by rw [HN.out]; exact hn8) hS1 hil
        have hxl := vol_len l S i HY.out (by rw [HN.out]; exact hn8) hS1 hil
        have em : cntOf l.length S = m := by rw [HN.out, ← HM.out]
        rw [em, ← hx] at hop hxl
        have hpl : (Spl.partAt l S i).length ≤ n := by unfold Spl.partAt; rw [List.length_take, List.length_drop, HN.out]; omega
        have hx2 : x.length ≤ 100000 := by rw [hxl]; unfold restOf; omega
        have hxb : ∀ z ∈ x, 0 ≤ z ∧ z ≤ 255 := by rw [hx]; exact vol_bd _ _ (part_at_bd HY.out S i)
        have HX2 := Aside0.mk hx2
        have HXB := Aside0.mk hxb
        have HCl := Aside0.mk hCl
        have HCw := Aside0.mk hCw
        have HOP := Aside0.mk (show (openOf x).2.2 = 0 by rw [hop])
        clear hvi hx hil hop hxl em hpl hx2 hxb hCl hCw
        subst hAl hAw
        have HSame := Aside0.mk (fun (W : World) (hS : (Hid (Below wr.heap.size wr W) ∧ W.cell? (al.add i) = some (.slice Al x.length Cl) ∧ W.cell? (aw.add i) = some (.slice Aw x.length Cw))) => ((same_calls Al Aw x.length x.length Cl Cw x x W (Kd.C_below HCl.out hS.1.out) (Kd.C_below HCw.out hS.1.out) hlc hwc HXB.out HXB.out).mono fun e W' h => (⟨by rw [h.1]; simp, Lib.hid (hS.1.out.trans (h.2.mono hS.1.out.size)), pw_cell_below h.2 hS.2.1, pw_cell_below h.2 hS.2.2⟩ : e = .returned (.bool true) ∧ (Hid (Below wr.heap.size wr W') ∧ W'.cell? (al.add i) = some (.slice Al x.length Cl) ∧ W'.cell? (aw.add i) = some (.slice Aw x.length Cw)))))
        have HCheck := Aside0.mk (fun (W : World) (hS : (Hid (Below wr.heap.size wr W) ∧ W.cell? (al.add i) = some (.slice Al x.length Cl) ∧ W.cell? (aw.add i) = some (.slice Aw x.length Cw))) => ((check_calls Al x.length Cl x W (Kd.C_below HCl.out hS.1.out) hlc HXB.out HX2.out).mono fun e W' h => (⟨by rw [h.1, HOP.out], Lib.hid (hS.1.out.trans (h.2.mono hS.1.out.size)), pw_cell_below h.2 hS.2.1, pw_cell_below h.2 hS.2.2⟩ : e = .returned (.int .u8 0) ∧ (Hid (Below wr.heap.size wr W') ∧ W'.cell? (al.add i) = some (.slice Al x.length Cl) ∧ W'.cell? (aw.add i) = some (.slice Aw x.length Cw)))))
        have HS0 := Aside0.mk (show (Hid (Below wr.heap.size wr wr.drew) ∧ wr.drew.cell? (al.add i) = some (.slice Al x.length Cl) ∧ wr.drew.cell? (aw.add i) = some (.slice Aw x.length Cw)) from ⟨Lib.hid (Below.refl wr.heap.size wr).drew, hcl, hcw⟩)
        have hw0 : IntKind.i64.wrap 0 = 0 := rfl
        go_upto_region 12 with (fail)
        refine wp_region_held_drew (S := (fun W : World => (Hid (Below wr.heap.size wr W) ∧ W.cell? (al.add i) = some (.slice Al x.length Cl) ∧ W.cell? (aw.add i) = some (.slice Aw x.length Cw)))) (by kernel_rfl) ?_ (fun hHeld => ?_)
        · exact HS0.out
        refine wpAnyH_take (i := 0) (v := ?_) rfl (by kernel_rfl) (by kernel_rfl) (by kernel_rfl) (fun _ _ _ h => h) (Or.inl ⟨by rfl, ?_⟩) (by assumption) ?_; rotate_left; focus (intro w hSw; (try dsimp only at hSw); simp only [List.getElem_toArray, List.getElem_cons_succ, List.getElem_cons_zero]; go_simp; (try (with_reducible rfl)))
        simp only [List.getElem_toArray, List.getElem_cons_succ, List.getElem_cons_zero, Act.put, List.setIfInBounds_toArray, List.set_cons_zero, List.set_cons_succ]
        refine wpAnyH_take (i := 1) (v := ?_) rfl (by kernel_rfl) (by kernel_rfl) (by kernel_rfl) (fun _ _ _ h => h) (Or.inl ⟨by rfl, ?_⟩) (by assumption) ?_; rotate_left; focus (intro w hSw; (try dsimp only at hSw); simp only [List.getElem_toArray, List.getElem_cons_succ, List.getElem_cons_zero]; go_simp; (try (with_reducible rfl)))
        simp only [List.getElem_toArray, List.getElem_cons_succ, List.getElem_cons_zero, Act.put, List.setIfInBounds_toArray, List.set_cons_zero, List.set_cons_succ]
        refine wpAnyH_take (i := 2) (v := ?_) rfl (by kernel_rfl) (by kernel_rfl) (by kernel_rfl) (fun _ _ _ h => h) (Or.inl ⟨by rfl, ?_⟩) (by assumption) ?_; rotate_left; focus (intro w hSw; (try dsimp only at hSw); simp only [List.getElem_toArray, List.getElem_cons_succ, List.getElem_cons_zero]; go_simp; (try (with_reducible rfl)))
        simp only [List.getElem_toArray, List.getElem_cons_succ, List.getElem_cons_zero, Act.put, List.setIfInBounds_toArray, List.set_cons_zero, List.set_cons_succ]
        refine wpAnyH_take (i := 3) (v := ?_) rfl (by kernel_rfl) (by kernel_rfl) (by kernel_rfl) (fun _ _ _ h => h) (Or.inl ⟨by rfl, ?_⟩) (by assumption) ?_; rotate_left; focus (intro w hSw; (try dsimp only at hSw); simp only [List.getElem_toArray, List.getElem_cons_succ, List.getElem_cons_zero]; go_simp; (try (with_reducible rfl)))
        simp only [List.getElem_toArray, List.getElem_cons_succ, List.getElem_cons_zero, Act.put, List.setIfInBounds_toArray, List.set_cons_zero, List.set_cons_succ]
        refine wpAnyH_take (i := 4) (v := ?_) rfl (by kernel_rfl) (by kernel_rfl) (by kernel_rfl) (fun _ _ _ h => h) (Or.inl ⟨by rfl, ?_⟩) (by assumption) ?_; rotate_left; focus (intro w hSw; (try dsimp only at hSw); simp only [List.getElem_toArray, List.getElem_cons_succ, List.getElem_cons_zero]; go_simp; (try (with_reducible rfl)))
        simp only [List.getElem_toArray, List.getElem_cons_succ, List.getElem_cons_zero, Act.put, List.setIfInBounds_toArray, List.set_cons_zero, List.set_cons_succ]
        refine wpAnyH_take (i := 5) (v := ?_) rfl (by kernel_rfl) (by kernel_rfl) (by kernel_rfl) (fun _ _ _ h => h) (Or.inl ⟨by rfl, ?_⟩) (by assumption) ?_; rotate_left; focus (intro w hSw; (try dsimp only at hSw); simp only [List.getElem_toArray, List.getElem_cons_succ, List.getElem_cons_zero]; go_simp; (try (with_reducible rfl)))
        simp only [List.getElem_toArray, List.getElem_cons_succ, List.getElem_cons_zero, Act.put, List.setIfInBounds_toArray, List.set_cons_zero, List.set_cons_succ]
        refine wpAnyH_take (i := 6) (v := ?_) rfl (by kernel_rfl) (by kernel_rfl) (by kernel_rfl) (fun _ _ _ h => h) (Or.inl ⟨by rfl, ?_⟩) (by assumption) ?_; rotate_left; focus (intro w hSw; (try dsimp only at hSw); simp only [List.getElem_toArray, List.getElem_cons_succ, List.getElem_cons_zero]; go_simp; (try (with_reducible rfl)))
        simp only [List.getElem_toArray, List.getElem_cons_succ, List.getElem_cons_zero, Act.put, List.setIfInBounds_toArray, List.set_cons_zero, List.set_cons_succ]
        refine wpAnyH_take (i := 7) (v := ?_) rfl (by kernel_rfl) (by kernel_rfl) (by kernel_rfl) (fun _ _ _ h => h) (Or.inl ⟨by rfl, ?_⟩) (by assumption) ?_; rotate_left; focus (intro w hSw; (try dsimp only at hSw); simp only [List.getElem_toArray, List.getElem_cons_succ, List.getElem_cons_zero]; go_simp; (try (with_reducible rfl)))
        simp only [List.getElem_toArray, List.getElem_cons_succ, List.getElem_cons_zero, Act.put, List.setIfInBounds_toArray, List.set_cons_zero, List.set_cons_succ]
        refine wpAnyH_ready (rs := [8]) (by kernel_rfl) (by simp) ?_
        refine AllReadyH.cons rfl (fun K hK => ?_) AllReadyH.nil
        go_simp
        (with_reducible refine (HSame.out _ (by assumption)).mono ?_)
        rintro e w9 ⟨rfl, hS6⟩
        refine hK.out _ _ hS6 (fun hHeld => ?_)
        clear hK K
        try simp only [List.getElem_toArray, List.getElem_cons_succ, List.getElem_cons_zero, Act.put, List.setIfInBounds_toArray, List.set_cons_zero, List.set_cons_succ]
        refine wpAnyH_take (i := 9) (v := ?_) rfl (by kernel_rfl) (by kernel_rfl) (by kernel_rfl) (fun _ _ _ h => h) (Or.inl ⟨by rfl, ?_⟩) (by assumption) ?_; rotate_left; focus (intro w hSw; (try dsimp only at hSw); simp only [List.getElem_toArray, List.getElem_cons_succ, List.getElem_cons_zero]; go_simp; (try (with_reducible rfl)))
        simp only [List.getElem_toArray, List.getElem_cons_succ, List.getElem_cons_zero, Act.put, List.setIfInBounds_toArray, List.set_cons_zero, List.set_cons_succ]
        refine wpAnyH_take (i := 10) (v := ?_) rfl (by kernel_rfl) (by kernel_rfl) (by kernel_rfl) (fun _ _ _ h => h) (Or.inl ⟨by rfl, ?_⟩) (by assumption) ?_; rotate_left; focus (intro w hSw; (try dsimp only at hSw); simp only [List.getElem_toArray, List.getElem_cons_succ, List.getElem_cons_zero]; go_simp; (try (with_reducible rfl)))
        simp only [List.getElem_toArray, List.getElem_cons_succ, List.getElem_cons_zero, Act.put, List.setIfInBounds_toArray, List.set_cons_zero, List.set_cons_succ]
        refine wpAnyH_take (i := 11) (v := ?_) rfl (by kernel_rfl) (by kernel_rfl) (by kernel_rfl) (fun _ _ _ h => h) (Or.inl ⟨by rfl, ?_⟩) (by assumption) ?_; rotate_left; focus (intro w hSw; (try dsimp only at hSw); simp only [List.getElem_toArray, List.getElem_cons_succ, List.getElem_cons_zero]; go_simp; (try (with_reducible rfl)))
        simp only [List.getElem_toArray, List.getElem_cons_succ, List.getElem_cons_zero, Act.put, List.setIfInBounds_toArray, List.set_cons_zero, List.set_cons_succ]
        refine wpAnyH_take (i := 12) (v := ?_) rfl (by kernel_rfl) (by kernel_rfl) (by kernel_rfl) (fun _ _ _ h => h) (Or.inl ⟨by rfl, ?_⟩) (by assumption) ?_; rotate_left; focus (intro w hSw; (try dsimp only at hSw); simp only [List.getElem_toArray, List.getElem_cons_succ, List.getElem_cons_zero]; go_simp; (try (with_reducible rfl)))
        simp only [List.getElem_toArray, List.getElem_cons_succ, List.getElem_cons_zero, Act.put, List.setIfInBounds_toArray, List.set_cons_zero, List.set_cons_succ]
        refine wpAnyH_take (i := 13) (v := ?_) rfl (by kernel_rfl) (by kernel_rfl) (by kernel_rfl) (fun _ _ _ h => h) (Or.inl ⟨by rfl, ?_⟩) (by assumption) ?_; rotate_left; focus (intro w hSw; (try dsimp only at hSw); simp only [List.getElem_toArray, List.getElem_cons_succ, List.getElem_cons_zero]; go_simp; (try (with_reducible rfl)))
        simp only [List.getElem_toArray, List.getElem_cons_succ, List.getElem_cons_zero, Act.put, List.setIfInBounds_toArray, List.set_cons_zero, List.set_cons_succ]
        refine wpAnyH_take (i := 14) (v := ?_) rfl (by kernel_rfl) (by kernel_rfl) (by kernel_rfl) (fun _ _ _ h => h) (Or.inl ⟨by rfl, ?_⟩) (by assumption) ?_; rotate_left; focus (intro w hSw; (try dsimp only at hSw); simp only [List.getElem_toArray, List.getElem_cons_succ, List.getElem_cons_zero]; go_simp; (try (with_reducible rfl)))
        simp only [List.getElem_toArray, List.getElem_cons_succ, List.getElem_cons_zero, Act.put, List.setIfInBounds_toArray, List.set_cons_zero, List.set_cons_succ]
        refine wpAnyH_ready (rs := [15]) (by kernel_rfl) (by simp) ?_
        refine AllReadyH.cons rfl (fun K hK => ?_) AllReadyH.nil
        go_simp
        (with_reducible refine (HCheck.out _ (by assumption)).mono ?_)
        rintro e w10 ⟨rfl, hS7⟩
        refine hK.out _ _ hS7 (fun hHeld => ?_)
        clear hK K
        try simp only [List.getElem_toArray, List.getElem_cons_succ, List.getElem_cons_zero, Act.put, List.setIfInBounds_toArray, List.set_cons_zero, List.set_cons_succ]
        refine wpAnyH_take (i := 16) (v := ?_) rfl (by kernel_rfl) (by kernel_rfl) (by kernel_rfl) (fun _ _ _ h => h) (Or.inl ⟨by rfl, ?_⟩) (by assumption) ?_; rotate_left; focus (intro w hSw; (try dsimp only at hSw); simp only [List.getElem_toArray, List.getElem_cons_succ, List.getElem_cons_zero]; go_simp; (try (with_reducible rfl)))
        simp only [List.getElem_toArray, List.getElem_cons_succ, List.getElem_cons_zero, Act.put, List.setIfInBounds_toArray, List.set_cons_zero, List.set_cons_succ]
        refine wpAnyH_take (i := 17) (v := ?_) rfl (by kernel_rfl) (by kernel_rfl) (by kernel_rfl) (fun _ _ _ h => h) (Or.inl ⟨by rfl, ?_⟩) (by assumption) ?_; rotate_left; focus (intro w hSw; (try dsimp only at hSw); simp only [List.getElem_toArray, List.getElem_cons_succ, List.getElem_cons_zero]; go_simp; (try (with_reducible rfl)))
        simp only [List.getElem_toArray, List.getElem_cons_succ, List.getElem_cons_zero, Act.put, List.setIfInBounds_toArray, List.set_cons_zero, List.set_cons_succ]
        refine wpAnyH_take (i := 18) (v := ?_) rfl (by kernel_rfl) (by kernel_rfl) (by kernel_rfl) (fun _ _ _ h => h) (Or.inl ⟨by rfl, ?_⟩) (by assumption) ?_; rotate_left; focus (intro w hSw; (try dsimp only at hSw); simp only [List.getElem_toArray, List.getElem_cons_succ, List.getElem_cons_zero]; go_simp; (try (with_reducible rfl)))
        simp only [List.getElem_toArray, List.getElem_cons_succ, List.getElem_cons_zero, Act.put, List.setIfInBounds_toArray, List.set_cons_zero, List.set_cons_succ]
        refine wpAnyH_done (by kernel_rfl) ?_ _

        have HB9 := Aside0.mk (HB.out.trans (hHeld.1.out.mono HB.out.size))
        obtain ⟨g1, rfl⟩ : ∃ g1, gk = g1 + 1 := ⟨gk - 1, by have := HNI.out; omega⟩
        clear hS6 hS7 hHeld
        go_wp2_with fail
        go_roundg g1
        case measure => exact Nat.lt_succ_self _
        case rel => exact ⟨i + 1, by go_num, by have := HNI.out; omega, HB9.out⟩
      · go_wp2_with fail
        go_ret
        exact ⟨rfl, HBw.out⟩
end Go.Proofs.YtkcgioggnbnfkaaDoor.WS
