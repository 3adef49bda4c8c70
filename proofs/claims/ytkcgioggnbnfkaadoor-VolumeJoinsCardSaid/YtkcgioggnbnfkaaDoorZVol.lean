/- volume.volume: walked once. -/
import Derived.Test.YtkcgioggnbnfkaaDoorZOpen
set_option linter.unusedVariables false
set_option linter.unusedSimpArgs false
namespace Go.Proofs.YtkcgioggnbnfkaaDoor.Vol
open Go.RowKit Go.Proofs.YtkcgioggnbnfkaaDoorW.PrintWords Go.Proofs.YtkcgioggnbnfkaaDoorW.PrintLast Go.Proofs.YtkcgioggnbnfkaaDoorW.PrintMore Go.Proofs.YtkcgioggnbnfkaaDoorW.Mv Go.Proofs.YtkcgioggnbnfkaaDoorW.HKit Go.Proofs.YtkcgioggnbnfkaaDoorW.But Go.Proofs.YtkcgioggnbnfkaaDoorW.App Go.Proofs.YtkcgioggnbnfkaaDoor.PVolumeJoins Go.Proofs.YtkcgioggnbnfkaaDoor.CrcA Go.Proofs.YtkcgioggnbnfkaaDoor.Crc Go.Proofs.YtkcgioggnbnfkaaDoor.NumP Go.Proofs.YtkcgioggnbnfkaaDoor.NumG Go.Proofs.YtkcgioggnbnfkaaDoor.Num Go.Proofs.YtkcgioggnbnfkaaDoor.Lab Go.Proofs.YtkcgioggnbnfkaaDoor.Read Go.Proofs.YtkcgioggnbnfkaaDoor.Open
theorem i64_and511 (x : Int) : bits .and .i64 x 511 = x % 512 := by
  have h1 : (BitVec.ofInt 64 x).toNat = (x % 18446744073709551616).toNat := by rw [BitVec.toNat_ofInt]; rfl
  have h2 : (BitVec.ofInt 64 511).toNat = 511 := by decide
  have h3 : (BitVec.ofInt 64 x &&& BitVec.ofInt 64 511).toNat = (x % 18446744073709551616).toNat % 512 := by
    rw [BitVec.toNat_and, h1, h2]
    exact Nat.and_two_pow_sub_one_eq_mod _ 9
  show IntKind.i64.wrap ((BitVec.ofInt 64 x &&& BitVec.ofInt 64 511).toNat : Int) = _
  rw [h3, IntKind.wrap_i64]
  omega
/-- Noughts behind so many bytes. -/
def restOf (n : Nat) : Nat := (512 - n % 512) % 512
theorem rest_calls (n : Nat) (h : n ≤ 1000000) (w : World) : Calls Tryd.prog 31 #[.int .i64 (n : Int)] w fun e w' => e = .returned (.int .i64 (restOf n : Nat)) ∧ Below w.heap.size w w' := by
  have hf : text_Rest.f (n : Int) = some ((restOf n : Nat) : Int) := by
    unfold text_Rest.f restOf
    rw [if_neg (by omega), i64_and511, IntWalk.wrap64_in _ ⟨by omega, by omega⟩]
    congr 1
    omega
  refine (text_Rest.calls (n : Int) _ w hf).mono ?_
  rintro e w' ⟨rfl, hd⟩
  exact ⟨rfl, hd.below⟩
theorem lab_grown {w w' : World} {g : Nat} {ns : List Int} {row : Option Nat} (h : LabAt w g ns) (hg : w.grownBy w' row) (hr : row ≠ some g) : LabAt w' g ns :=
  (hg.block g (Array.getElem?_eq_some_iff.1 h).1 (fun e => hr e.symm)).trans h
/-- A volume of a label and a part. -/
def volOf (ns part : List Int) : List Int := labOf ns ++ part ++ List.replicate (restOf part.length) 0
/-- A row of bytes of the call's own is handed back. -/
def VPost (w : World) (xs : List Int) (e : Ending) (w' : World) : Prop := ∃ v, e = .returned v ∧ Own w.heap.size w' v xs ∧ Below w.heap.size w w'
set_option maxHeartbeats 8000000 in
set_option maxRecDepth 100000 in
theorem volume_calls (A : Option Addr) (n c : Nat) (p : List Int) (w : World) (hr : Kd.C (Kd.int .u8) w A n p) (hc : n ≤ c) (hb : ∀ x ∈ p, 0 ≤ x ∧ x ≤ 255) (hn : n ≤ 100000) (n0 n1 n2 n3 n4 n5 : Int) (hok : labOk [n0, n1, n2, (n : Int), n4, ((crcSum p : Nat) : Int)] = true) :
    Calls Tryd.prog 19 #[.agg #[.int .i64 n0, .int .i64 n1, .int .i64 n2, .int .i64 n3, .int .i64 n4, .int .i64 n5], .slice A n c] w (VPost w (volOf [n0, n1, n2, (n : Int), n4, ((crcSum p : Nat) : Int)] p)) := by
  have hcr := crcSum_lt p hb
  have HV := Aside0.mk (C_len hr)
  have HR := Aside0.mk hr
  have HY := Aside0.mk hb
  have HOK := Aside0.mk hok
  have hcv : IntKind.i64.wrap ((crcSum p : Nat) : Int) = ((crcSum p : Nat) : Int) := by rw [IntKind.wrap_i64]; omega
  clear hr hb hok
  go_enter Tryd.func19, Tryd.ntmps19
  go_wp2_with fail
  have HB0 := Aside0.mk ((Below.refl w.heap.size w).alloc (Nat.le_refl _) (.cells #[.int .i64 n0, .int .i64 n1, .int .i64 n2, .int .i64 n3, .int .i64 n4, .int .i64 n5] 54))
  have HL0 := Aside0.mk (show LabAt (w.alloc (.cells #[.int .i64 n0, .int .i64 n1, .int .i64 n2, .int .i64 n3, .int .i64 n4, .int .i64 n5] 54)) w.heap.size [n0, n1, n2, n3, n4, n5] from heap_alloc_new w _)
  generalize w.alloc (.cells #[.int .i64 n0, .int .i64 n1, .int .i64 n2, .int .i64 n3, .int .i64 n4, .int .i64 n5] 54) = wa at HB0 HL0 ⊢
  refine (sum_any A n c p wa (Kd.C_below HR.out HB0.out) hc HY.out).mono ?_
  rintro e w1 ⟨rfl, hb1⟩
  have HB1 := Aside0.mk (HB0.out.trans (hb1.mono HB0.out.size))
  have HL1 := Aside0.mk (lab_below HL0.out hb1)
  clear hb1 HB0 HL0
  have hc3 := lab_cell HL1.out 3 (by simp)
  have hc5 := lab_cell HL1.out 5 (by simp)
  have hf3 : w1.frozen? ⟨w.heap.size, 3, none⟩ = false := blk_frozen HL1.out 3
  have hf5 : w1.frozen? ⟨w.heap.size, 5, none⟩ = false := blk_frozen HL1.out 5
  simp only [List.getElem_cons_succ, List.getElem_cons_zero] at hc3 hc5
  have HL2 := Aside0.mk (lab_set (lab_set HL1.out 3 (n : Int)) 5 ((crcSum p : Nat) : Int))
  have HB2 := Aside0.mk ((HB1.out.setCell (p := ⟨w.heap.size, 3, none⟩) (Nat.le_refl _) (.int .i64 (n : Int))).setCell (p := ⟨w.heap.size, 5, none⟩) (Nat.le_refl _) (.int .i64 ((crcSum p : Nat) : Int)))
  go_wp2_with fail
  clear hc3 hc5 hf3 hf5
  generalize (w1.setCell ⟨w.heap.size, 3, none⟩ (.int .i64 (n : Int))).setCell ⟨w.heap.size, 5, none⟩ (.int .i64 ((crcSum p : Nat) : Int)) = w2 at HL2 HB2 ⊢
  refine (bytes_calls w.heap.size [n0, n1, n2, (n : Int), n4, ((crcSum p : Nat) : Int)] w2 HL2.out rfl).mono ?_
  rintro e w3 ⟨v, rfl, hO, hb3⟩
  rw [HOK.out]
  have HB3 := Aside0.mk (HB2.out.trans (hb3.mono HB2.out.size))
  have HL3 := Aside0.mk (lab_below HL2.out hb3)
  have HLg := Aside0.mk (labOf_len _ HOK.out rfl)
  have HW2 := Aside0.mk HB2.out.size
  have HLT := Aside0.mk (show w.heap.size < w2.heap.size from (Array.getElem?_eq_some_iff.1 HL2.out).1)
  obtain ⟨A2, c2, hvs, hcn, hC2, hbs, _, _⟩ := own_C (kd := .u8) hO rfl
  subst hvs
  have HO := Aside0.mk (own_weaken hO HB2.out.size)
  have HBS := Aside0.mk hbs
  clear hO hb3 HL1 HB1 HL2 HB2 hC2 hbs
  go_wp2_with (first | (at_builtin; refine wpList_app_reads w3 rfl (.tmp 18) (.tmp 19) 22 rfl w.heap.size 5 Tryd.underlying22 byteInfo _ (labOf [n0, n1, n2, (n : Int), n4, ((crcSum p : Nat) : Int)]) p rfl HO.out A n c rfl (Kd.C_below HR.out HB3.out) (by rw [HLg.out]; omega) HB3.out.size ?_; intro v4 w4 hown4 hgrow4 hloc4; have HL4 := Aside0.mk (lab_grown HL3.out hgrow4 (fun e => by have := (HBS.out _ e).1; have := HLT.out; omega)); have hc4 := lab_cell HL4.out 3 (by simp); simp only [List.set_cons_succ, List.set_cons_zero, List.getElem_cons_succ, List.getElem_cons_zero] at hc4; have HB4 := Aside0.mk (HB3.out.grown hgrow4 HB3.out.size (own_base HO.out)); have HO4 := Aside0.mk (show Own w.heap.size w4 v4 (labOf [n0, n1, n2, (n : Int), n4, ((crcSum p : Nat) : Int)] ++ p) from hown4); clear hown4 hgrow4 hloc4))
  refine (rest_calls n (by omega) w4).mono ?_
  rintro e w5 ⟨rfl, hb5⟩
  have HO5 := Aside0.mk (own_stays HO4.out (fun q hq => hb5.block q (own_lt HO4.out q hq)))
  have HB5 := Aside0.mk (HB4.out.trans (hb5.mono HB4.out.size))
  clear hb5 HO4 HB4
  go_wp2_with (first | (at_builtin; refine wpList_app_zeros w5 rfl (.tmp 21) (.tmp 24) 22 2 rfl w.heap.size 5 .i64 .i64 Tryd.underlying22 Tryd.underlying2 byteInfo v4 (labOf [n0, n1, n2, (n : Int), n4, ((crcSum p : Nat) : Int)] ++ p) rfl HO5.out (restOf n) rfl (by rw [List.length_append, HLg.out, HV.out]; unfold restOf; omega) HB5.out.size ?_; intro v6 w6 hown6 hgrow6 hloc6))
  go_ret
  refine ⟨v6, rfl, ?_, HB5.out.grown hgrow6 HB5.out.size (own_base HO5.out)⟩
  unfold volOf Own
  rw [HV.out]
  exact hown6
end Go.Proofs.YtkcgioggnbnfkaaDoor.Vol
