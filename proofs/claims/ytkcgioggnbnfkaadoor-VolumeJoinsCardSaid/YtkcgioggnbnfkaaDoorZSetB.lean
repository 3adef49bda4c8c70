/- volume.set, Join and Missing over volumes that do not fit together: walked once. -/
import Derived.Test.YtkcgioggnbnfkaaDoorZRJ
set_option linter.unusedVariables false
set_option linter.unusedSimpArgs false
namespace Go.Proofs.YtkcgioggnbnfkaaDoor.BackP
end Go.Proofs.YtkcgioggnbnfkaaDoor.BackP
namespace Go.Proofs.YtkcgioggnbnfkaaDoor.SetB
open Go
open Go.RowKit Go.Proofs.YtkcgioggnbnfkaaDoorW.PrintWords Go.Proofs.YtkcgioggnbnfkaaDoorW.PrintLast Go.Proofs.YtkcgioggnbnfkaaDoorW.PrintMore Go.Proofs.YtkcgioggnbnfkaaDoorW.Mv Go.Proofs.YtkcgioggnbnfkaaDoorW.HKit Go.Proofs.YtkcgioggnbnfkaaDoorW.But Go.Proofs.YtkcgioggnbnfkaaDoorW.App Go.Proofs.YtkcgioggnbnfkaaDoorW.Rwb Go.Proofs.YtkcgioggnbnfkaaDoor.PVolumeJoins Go.Proofs.YtkcgioggnbnfkaaDoor.CrcA Go.Proofs.YtkcgioggnbnfkaaDoor.Crc Go.Proofs.YtkcgioggnbnfkaaDoor.NumP Go.Proofs.YtkcgioggnbnfkaaDoor.NumG Go.Proofs.YtkcgioggnbnfkaaDoor.Num Go.Proofs.YtkcgioggnbnfkaaDoor.Lab Go.Proofs.YtkcgioggnbnfkaaDoor.Read Go.Proofs.YtkcgioggnbnfkaaDoor.Open Go.Proofs.YtkcgioggnbnfkaaDoor.Vol Go.Proofs.YtkcgioggnbnfkaaDoor.Spl Go.Proofs.YtkcgioggnbnfkaaDoor.RS Go.Proofs.YtkcgioggnbnfkaaDoorW.Live Go.Proofs.YtkcgioggnbnfkaaDoor.RB Go.Proofs.YtkcgioggnbnfkaaDoor.RS Go.Proofs.YtkcgioggnbnfkaaDoor.WS Go.Proofs.YtkcgioggnbnfkaaDoorW.Mps Go.Proofs.YtkcgioggnbnfkaaDoor.SetW Go.Proofs.YtkcgioggnbnfkaaDoor.JoinW Go.Proofs.YtkcgioggnbnfkaaDoor.BackP Go.Proofs.YtkcgioggnbnfkaaDoor.BackR Go.Proofs.YtkcgioggnbnfkaaDoor.RO Go.Proofs.YtkcgioggnbnfkaaDoor.RSet Go.Proofs.YtkcgioggnbnfkaaDoorW.Rws Go.Proofs.YtkcgioggnbnfkaaDoor.RJ
theorem mem_take_at {L : List (List Int)} {i i0 : Nat} (hi : i < L.length) (h : i < i0) : L[i] ∈ L.take i0 := by
  have e : (L.take i0)[i]'(by rw [List.length_take]; omega) = L[i] := List.getElem_take
  rw [← e]
  exact List.getElem_mem _
theorem mem_take_le {L : List (List Int)} {i i0 : Nat} (h : i ≤ i0) {y : List Int} (hy : y ∈ L.take i) : y ∈ L.take i0 := by
  have e : L.take i = (L.take i0).take i := by rw [List.take_take, Nat.min_eq_left h]
  rw [e] at hy
  exact List.mem_of_mem_take hy
theorem key_fine {x : List Int} (h : (openOf x).2.2 = 0) : (Lit.int .i64 (num x)).wf = true := by
  obtain ⟨n0, n1, n2, n3, n4, n5, e, h1, h2⟩ := fine_parts h
  have b0 := fits_bd (List.all_eq_true.1 h1 n0 (by simp))
  unfold num
  rw [e]
  show (Lit.int .i64 n0).wf = true
  simp [Lit.wf, IntKind.min, IntKind.max, IntKind.signed, IntKind.bits]
  omega
theorem getD_at {L : List (List Int)} {i : Nat} (h : i < L.length) : L.getD i [] = L[i] := by rw [List.getD_eq_getElem?_getD, List.getElem?_eq_getElem h]; rfl
/-- The volumes ahead of the first that does not fit, fit. -/
theorem fit_take {L : List (List Int)} {i0 : Nat} (hfew : L.length ≤ 100) (hbt : ∀ x ∈ L, ∀ z ∈ x, 0 ≤ z ∧ z ≤ 255) (hsz : ∀ x ∈ L, x.length ≤ 100000) (hcz : ∀ j, j < L.length → codeAt L j = 0) (hnb : ∀ j, j < i0 → ¬ Bad L j) (hi : i0 ≤ L.length) : Fit (L.take i0) (labN L 0 1) (labN L 0 2) (labN L 0 4) := by
  have key : ∀ x ∈ L.take i0, ∃ j, j < i0 ∧ j < L.length ∧ L.getD j [] = x := by
    intro x hx
    obtain ⟨j, hj, e⟩ := List.getElem_of_mem hx
    rw [List.length_take] at hj
    have e2 : (L.take i0)[j]'(by rw [List.length_take]; omega) = L[j]'(by omega) := List.getElem_take
    exact ⟨j, by omega, by omega, by rw [getD_at (by omega), ← e2, e]⟩
  refine ⟨by rw [List.length_take]; omega, fun x hx => hbt x (List.mem_of_mem_take hx), fun x hx => hsz x (List.mem_of_mem_take hx), ?_, ?_, ?_, ?_, ?_, ?_⟩
  · intro x hx
    obtain ⟨j, hj, hjl, rfl⟩ := key x hx
    exact hcz j hjl
  · intro x hx
    obtain ⟨j, hj, hjl, rfl⟩ := key x hx
    exact Classical.byContradiction fun h => hnb j hj (.inl h)
  · intro x hx
    obtain ⟨j, hj, hjl, rfl⟩ := key x hx
    exact Classical.byContradiction fun h => hnb j hj (.inr (.inl h))
  · intro x hx
    obtain ⟨j, hj, hjl, rfl⟩ := key x hx
    exact Classical.byContradiction fun h => hnb j hj (.inr (.inr (.inl h)))
  · intro x hx y hy e
    obtain ⟨a, ha, hal, rfl⟩ := key x hx
    obtain ⟨b, hb, hbl, rfl⟩ := key y hy
    rw [num_at, num_at] at e
    rcases Nat.lt_trichotomy a b with hab | hab | hab
    · exact Classical.byContradiction fun hne => hnb b hb (.inr (.inr (.inr ⟨a, hab, e, hne⟩)))
    · rw [hab]
    · exact Classical.byContradiction fun hne => hnb a ha (.inr (.inr (.inr ⟨b, hab, e.symm, fun h => hne h.symm⟩)))
  · intro x hx
    obtain ⟨j, hj, hjl, rfl⟩ := key x hx
    exact key_fine (hcz j hjl)
/-- What volume.set hands back where something is wrong. -/
def SetBPost (w : World) (i : Nat) (code : Int) (e : Ending) (w' : World) : Prop := ∃ f0 f1 f2 f3 f4 f5 : Int, e = .returned (.tuple #[.agg #[.int .i64 f0, .int .i64 f1, .int .i64 f2, .int .i64 f3, .int .i64 f4, .int .i64 f5], .map none, .int .i64 (i : Nat), .int .u8 code]) ∧ Below w.heap.size w w'
def L1B (wa : World) (n i0 n' : Nat) (v21 : Value) (wr : World) : Prop := ∃ i : Nat, v21 = .int .i64 i ∧ n' + i = n ∧ i ≤ i0 ∧ Below wa.heap.size wa wr
def L2B (w : World) (L : List (List Int)) (cnt whole all : Int) (i0 n' : Nat) (v36 : Value) (wr : World) : Prop := ∃ (i : Nat) (D : DataW Value) (f0 f1 f2 f3 f4 f5 : Int), v36 = .int .i64 i ∧ n' + i = L.length ∧ i ≤ i0 ∧ LabAt wr w.heap.size z6 ∧ LabAt wr (w.heap.size + 1) [f0, f1, f2, f3, f4, f5] ∧
  (0 < i → f1 = cnt ∧ f2 = whole ∧ f4 = all) ∧ (i = 0 → f1 = 0) ∧ wr.ownsMap Tryd.prog 2 heldR (w.heap.size + 1 + 1) i D ∧ Got w D num (L.take i) ∧ Below w.heap.size w wr
set_option maxHeartbeats 8000000 in
set_option maxRecDepth 100000 in
theorem set_code (A : Option Addr) (c : Nat) (L : List (List Int)) (i0 : Nat) (code : Int) (w : World) (hR : RowsB w A c L) (hfew : L.length ≤ 100) (hbt : ∀ x ∈ L, ∀ z ∈ x, 0 ≤ z ∧ z ≤ 255) (hsz : ∀ x ∈ L, x.length ≤ 100000) (hi0 : i0 < L.length) (hcd : code = codeAt L i0) (hc0 : code ≠ 0) (hcz : ∀ j, j < i0 → codeAt L j = 0) : Calls Tryd.prog 27 #[.slice A L.length c] w (SetBPost w i0 code) := by
  have hmm := @run_makeMap Tryd.prog
  have HR := Aside0.mk hR
  have HBT := Aside0.mk hbt
  have HSZ := Aside0.mk hsz
  have HCZ := Aside0.mk hcz
  have HCD := Aside0.mk hcd
  have hcn : (code != 0) = true := by simpa using hc0
  obtain ⟨n, hn⟩ : ∃ n, n = L.length := ⟨_, rfl⟩
  have HN := Aside0.mk hn
  rw [← hn] at hfew hi0 ⊢
  clear hR hbt hsz hcz hcd hc0 hn
  go_enter Tryd.func27, Tryd.ntmps27
  go_wp2_with fail
  have HWA := Aside0.mk (show LabAt (((w.alloc (.cells #[.int .i64 0, .int .i64 0, .int .i64 0, .int .i64 0, .int .i64 0, .int .i64 0] 54)).alloc (.cells #[.int .i64 0, .int .i64 0, .int .i64 0, .int .i64 0, .int .i64 0, .int .i64 0] 54)).alloc (.map #[] 0)) w.heap.size z6 ∧ LabAt (((w.alloc (.cells #[.int .i64 0, .int .i64 0, .int .i64 0, .int .i64 0, .int .i64 0, .int .i64 0] 54)).alloc (.cells #[.int .i64 0, .int .i64 0, .int .i64 0, .int .i64 0, .int .i64 0, .int .i64 0] 54)).alloc (.map #[] 0)) (w.heap.size + 1) z6 ∧ (((w.alloc (.cells #[.int .i64 0, .int .i64 0, .int .i64 0, .int .i64 0, .int .i64 0, .int .i64 0] 54)).alloc (.cells #[.int .i64 0, .int .i64 0, .int .i64 0, .int .i64 0, .int .i64 0, .int .i64 0] 54)).alloc (.map #[] 0)).ownsMap Tryd.prog 2 heldR (w.heap.size + 1 + 1) 0 (.map []) ∧ Below w.heap.size w (((w.alloc (.cells #[.int .i64 0, .int .i64 0, .int .i64 0, .int .i64 0, .int .i64 0, .int .i64 0] 54)).alloc (.cells #[.int .i64 0, .int .i64 0, .int .i64 0, .int .i64 0, .int .i64 0, .int .i64 0] 54)).alloc (.map #[] 0)) from by
    refine ⟨?_, ?_, ?_, (((Below.refl _ w).alloc (Nat.le_refl _) _).alloc (by simp) _).alloc (by simp; omega) _⟩
    · exact (Below.heap_alloc _ _ _ (by simp; omega)).trans ((Below.heap_alloc _ _ _ (by simp)).trans (heap_alloc_new w _))
    · have := heap_alloc_new (w.alloc (.cells #[.int .i64 0, .int .i64 0, .int .i64 0, .int .i64 0, .int .i64 0, .int .i64 0] 54)) (.cells #[.int .i64 0, .int .i64 0, .int .i64 0, .int .i64 0, .int .i64 0, .int .i64 0] 54)
      rw [World.size_alloc] at this
      exact (Below.heap_alloc _ _ _ (by simp)).trans this
    · have := World.ownsMap_made ((w.alloc (.cells #[.int .i64 0, .int .i64 0, .int .i64 0, .int .i64 0, .int .i64 0, .int .i64 0] 54)).alloc (.cells #[.int .i64 0, .int .i64 0, .int .i64 0, .int .i64 0, .int .i64 0, .int .i64 0] 54)) Tryd.prog 2 heldR
      rw [World.size_alloc, World.size_alloc] at this
      exact this)
  generalize ((w.alloc (.cells #[.int .i64 0, .int .i64 0, .int .i64 0, .int .i64 0, .int .i64 0, .int .i64 0] 54)).alloc (.cells #[.int .i64 0, .int .i64 0, .int .i64 0, .int .i64 0, .int .i64 0, .int .i64 0] 54)).alloc (.map #[] 0) = wa at HWA ⊢
  clear hmm
  go_loopg [21] n (fun n' v21 wr => L1B wa n i0 n' v21 wr)
  case atStart => exact ⟨0, rfl, rfl, Nat.zero_le _, Below.refl _ _⟩
  case round =>
    obtain ⟨i, rfl, hni, hile, hB⟩ := hrel
    have HNI := Aside0.mk hni
    have HB := Aside0.mk hB
    have HBw := Aside0.mk (HWA.out.2.2.2.trans (hB.mono HWA.out.2.2.2.size))
    clear hni hB
    have hlt : i < n := by omega
    by_cases hii : i < i0
    · have hiL : i < L.length := by rw [← HN.out]; exact hlt
      obtain ⟨al, Ar, Cr, hA, hcl, hlc, hCr⟩ := (HR.out.below HBw.out).at_ i hiL
      obtain ⟨x, hx⟩ : ∃ x, x = L[i] := ⟨_, rfl⟩
      have hxm : x ∈ L := by rw [hx]; exact List.getElem_mem hiL
      rw [← hx] at hcl hlc hCr
      have HCh := Aside0.mk (check_calls Ar x.length Cr x wr hCr hlc (HBT.out x hxm) (HSZ.out x hxm))
      have HFI := Aside0.mk (show (openOf x).2.2 = 0 by have := HCZ.out i hii; unfold codeAt at this; rw [getD_at hiL, ← hx] at this; exact this)
      subst hA
      clear hx hxm hCr
      go_wp2_with fail
      refine HCh.out.mono ?_
      clear HCh
      rintro e w2 ⟨rfl, hb2⟩
      rw [HFI.out]
      have HB2 := Aside0.mk (HB.out.trans (hb2.mono HB.out.size))
      clear hb2
      go_wp2_with fail
      obtain ⟨g1, rfl⟩ : ∃ g1, gk = g1 + 1 := ⟨gk - 1, by have := HNI.out; omega⟩
      go_roundg g1
      case measure => exact Nat.lt_succ_self _
      case rel => exact ⟨i + 1, by go_num, by have := HNI.out; omega, hii, HB2.out⟩
    · obtain rfl : i = i0 := by omega
      have hiL : i < L.length := by rw [← HN.out]; exact hlt
      obtain ⟨al, Ar, Cr, hA, hcl, hlc, hCr⟩ := (HR.out.below HBw.out).at_ i hiL
      obtain ⟨x, hx⟩ : ∃ x, x = L[i] := ⟨_, rfl⟩
      have hxm : x ∈ L := by rw [hx]; exact List.getElem_mem hiL
      rw [← hx] at hcl hlc hCr
      have HCh := Aside0.mk (check_calls Ar x.length Cr x wr hCr hlc (HBT.out x hxm) (HSZ.out x hxm))
      have HFI := Aside0.mk (show (openOf x).2.2 = code by rw [HCD.out]; unfold codeAt; rw [getD_at hiL, ← hx])
      subst hA
      clear hx hxm hCr
      go_wp2_with fail
      refine HCh.out.mono ?_
      clear HCh
      rintro e w2 ⟨rfl, hb2⟩
      rw [HFI.out]
      have HBXX := Aside0.mk (HBw.out.trans (hb2.mono HBw.out.size))
      have HB2 := Aside0.mk (HB.out.trans (hb2.mono HB.out.size))
      have HRX := Aside0.mk (lab_below HWA.out.1 HB2.out)
      have HFX := Aside0.mk (show LabAt w2 (w.heap.size + 1) [0, 0, 0, 0, 0, 0] from lab_below HWA.out.2.1 HB2.out)
      clear hb2
      have HRf := Aside0.mk (setRow_heap_at w2 w.heap.size #[.int .i64 0, .int .i64 0, .int .i64 0, .int .i64 0, .int .i64 0, .int .i64 0] _ 54 (0, 0) HRX.out)
      have HBf := Aside0.mk (setRow_below HBXX.out (Nat.le_refl _) #[.int .i64 0, .int .i64 0, .int .i64 0, .int .i64 0, .int .i64 0, .int .i64 0])
      go_wp2_with (first | (refine wpList_load_row rfl 54 (.tmp 6) rfl (w.heap.size + 1) rfl 54 #[.int .i64 0, .int .i64 0, .int .i64 0, .int .i64 0, .int .i64 0, .int .i64 0] (0, 0) _ HFX.out Tryd.underlying54 rfl (by kernel_rfl) ?_) | (refine wpList_store_row rfl 54 (.tmp 2) (.tmp 30) rfl w.heap.size #[.int .i64 0, .int .i64 0, .int .i64 0, .int .i64 0, .int .i64 0, .int .i64 0] rfl rfl 54 _ HRX.out (by kernel_rfl) rfl (six_one _ _ _ _ _ _) ?_))
      refine bodyPost_ret (results_set rfl _ _ w.heap.size 54 #[.int .i64 0, .int .i64 0, .int .i64 0, .int .i64 0, .int .i64 0, .int .i64 0] (0, 0) _ rfl HRf.out Tryd.underlying54 rfl (by kernel_rfl)) rfl ?_
      exact ⟨_, _, _, _, _, _, rfl, HBf.out⟩
set_option maxHeartbeats 16000000 in
set_option maxRecDepth 100000 in
theorem set_bad2 (A : Option Addr) (c : Nat) (L : List (List Int)) (cnt whole all : Int) (i0 : Nat) (w : World) (hR : RowsB w A c L) (hfew : L.length ≤ 100) (hbt : ∀ x ∈ L, ∀ z ∈ x, 0 ≤ z ∧ z ≤ 255) (hsz : ∀ x ∈ L, x.length ≤ 100000) (hi0 : i0 < L.length) (h0i : 0 < i0) (hcz : ∀ j, j < L.length → codeAt L j = 0) (hF : Fit (L.take i0) cnt whole all) (hbad : labN L i0 1 ≠ cnt ∨ labN L i0 2 ≠ whole ∨ labN L i0 4 ≠ all ∨ ∃ k, k < i0 ∧ labN L k 0 = labN L i0 0 ∧ L.getD k [] ≠ L.getD i0 []) : Calls Tryd.prog 27 #[.slice A L.length c] w (SetBPost w i0 2) := by
  have hmm := @run_makeMap Tryd.prog
  have HR := Aside0.mk hR
  have HBT := Aside0.mk hbt
  have HSZ := Aside0.mk hsz
  have HCZ := Aside0.mk (show ∀ x ∈ L, (openOf x).2.2 = 0 by
    intro x hx
    obtain ⟨j, hj, rfl⟩ := mem_getD hx
    exact hcz j hj)
  have HF := Aside0.mk hF
  have HBAD := Aside0.mk hbad
  obtain ⟨n, hn⟩ : ∃ n, n = L.length := ⟨_, rfl⟩
  have HN := Aside0.mk hn
  rw [← hn] at hfew hi0 ⊢
  clear hR hbt hsz hcz hF hbad hn
  go_enter Tryd.func27, Tryd.ntmps27
  go_wp2_with fail
  have HWA := Aside0.mk (show LabAt (((w.alloc (.cells #[.int .i64 0, .int .i64 0, .int .i64 0, .int .i64 0, .int .i64 0, .int .i64 0] 54)).alloc (.cells #[.int .i64 0, .int .i64 0, .int .i64 0, .int .i64 0, .int .i64 0, .int .i64 0] 54)).alloc (.map #[] 0)) w.heap.size z6 ∧ LabAt (((w.alloc (.cells #[.int .i64 0, .int .i64 0, .int .i64 0, .int .i64 0, .int .i64 0, .int .i64 0] 54)).alloc (.cells #[.int .i64 0, .int .i64 0, .int .i64 0, .int .i64 0, .int .i64 0, .int .i64 0] 54)).alloc (.map #[] 0)) (w.heap.size + 1) z6 ∧ (((w.alloc (.cells #[.int .i64 0, .int .i64 0, .int .i64 0, .int .i64 0, .int .i64 0, .int .i64 0] 54)).alloc (.cells #[.int .i64 0, .int .i64 0, .int .i64 0, .int .i64 0, .int .i64 0, .int .i64 0] 54)).alloc (.map #[] 0)).ownsMap Tryd.prog 2 heldR (w.heap.size + 1 + 1) 0 (.map []) ∧ Below w.heap.size w (((w.alloc (.cells #[.int .i64 0, .int .i64 0, .int .i64 0, .int .i64 0, .int .i64 0, .int .i64 0] 54)).alloc (.cells #[.int .i64 0, .int .i64 0, .int .i64 0, .int .i64 0, .int .i64 0, .int .i64 0] 54)).alloc (.map #[] 0)) from by
    refine ⟨?_, ?_, ?_, (((Below.refl _ w).alloc (Nat.le_refl _) _).alloc (by simp) _).alloc (by simp; omega) _⟩
    · exact (Below.heap_alloc _ _ _ (by simp; omega)).trans ((Below.heap_alloc _ _ _ (by simp)).trans (heap_alloc_new w _))
    · have := heap_alloc_new (w.alloc (.cells #[.int .i64 0, .int .i64 0, .int .i64 0, .int .i64 0, .int .i64 0, .int .i64 0] 54)) (.cells #[.int .i64 0, .int .i64 0, .int .i64 0, .int .i64 0, .int .i64 0, .int .i64 0] 54)
      rw [World.size_alloc] at this
      exact (Below.heap_alloc _ _ _ (by simp)).trans this
    · have := World.ownsMap_made ((w.alloc (.cells #[.int .i64 0, .int .i64 0, .int .i64 0, .int .i64 0, .int .i64 0, .int .i64 0] 54)).alloc (.cells #[.int .i64 0, .int .i64 0, .int .i64 0, .int .i64 0, .int .i64 0, .int .i64 0] 54)) Tryd.prog 2 heldR
      rw [World.size_alloc, World.size_alloc] at this
      exact this)
  generalize ((w.alloc (.cells #[.int .i64 0, .int .i64 0, .int .i64 0, .int .i64 0, .int .i64 0, .int .i64 0] 54)).alloc (.cells #[.int .i64 0, .int .i64 0, .int .i64 0, .int .i64 0, .int .i64 0, .int .i64 0] 54)).alloc (.map #[] 0) = wa at HWA ⊢
  clear hmm
  go_loopg [21] n (fun n' v21 wr => L1 wa n n' v21 wr)
  case atStart => exact ⟨0, rfl, rfl, Below.refl _ _⟩
  case round =>
    obtain ⟨i, rfl, hni, hB⟩ := hrel
    have HNI := Aside0.mk hni
    have HB := Aside0.mk hB
    have HBw := Aside0.mk (HWA.out.2.2.2.trans (hB.mono HWA.out.2.2.2.size))
    clear hni hB
    by_cases hlt : i < n
    · have hiL : i < L.length := by rw [← HN.out]; exact hlt
      obtain ⟨al, Ar, Cr, hA, hcl, hlc, hCr⟩ := (HR.out.below HBw.out).at_ i hiL
      obtain ⟨x, hx⟩ : ∃ x, x = L[i] := ⟨_, rfl⟩
      have hxm : x ∈ L := by rw [hx]; exact List.getElem_mem hiL
      rw [← hx] at hcl hlc hCr
      have HCh := Aside0.mk (check_calls Ar x.length Cr x wr hCr hlc (HBT.out x hxm) (HSZ.out x hxm))
      have HFI := Aside0.mk (HCZ.out x hxm)
      subst hA
      clear hx hxm hCr
      go_wp2_with fail
      refine HCh.out.mono ?_
      clear HCh
      rintro e w2 ⟨rfl, hb2⟩
      rw [HFI.out]
      have HB2 := Aside0.mk (HB.out.trans (hb2.mono HB.out.size))
      clear hb2
      go_wp2_with fail
      obtain ⟨g1, rfl⟩ : ∃ g1, gk = g1 + 1 := ⟨gk - 1, by have := HNI.out; omega⟩
      go_roundg g1
      case measure => exact Nat.lt_succ_self _
      case rel => exact ⟨i + 1, by go_num, by have := HNI.out; omega, HB2.out⟩
    · have HS := Aside0.mk (show L2B w L cnt whole all i0 n (.int .i64 0) wr from ⟨0, .map [], 0, 0, 0, 0, 0, 0, rfl, by rw [← HN.out]; rfl, Nat.zero_le _, lab_below HWA.out.1 HB.out, lab_below HWA.out.2.1 HB.out, fun h => absurd h (Nat.lt_irrefl _), fun _ => rfl, map_below HWA.out.2.2.1 HB.out, Got.empty _ _, HBw.out⟩)
      clear HB HBw HNI
      obtain ⟨wx, hwx⟩ : ∃ wx, wx = wr := ⟨_, rfl⟩
      subst hwx
      go_wp2_with fail
      go_loopg [36] n (fun n' v36 wr => L2B w L cnt whole all i0 n' v36 wr)
      case atStart => exact HS.out
      case round =>
        clear HS
        obtain ⟨i, D, f0, f1, f2, f3, f4, f5, rfl, hni, hile, hRb, hFb, hfc, hfz, hM, hG, hB⟩ := hrel
        rw [← HN.out] at hni
        have HNI := Aside0.mk hni
        have HRb := Aside0.mk hRb
        have HFb := Aside0.mk hFb
        have HFC := Aside0.mk hfc
        have HFZ := Aside0.mk hfz
        have HM := Aside0.mk hM
        have HG := Aside0.mk hG
        have HB := Aside0.mk hB
        clear hni hRb hFb hfc hfz hM hG hB
        have hlt : i < n := by omega
        by_cases hii : i < i0
        · have hiL : i < L.length := by rw [← HN.out]; exact hlt
          obtain ⟨al, Ar, Cr, hA, hcl, hlc, hCr0⟩ := HR.out.at_ i hiL
          obtain ⟨x, hx⟩ : ∃ x, x = L[i] := ⟨_, rfl⟩
          have hxm : x ∈ L.take i0 := by rw [hx]; exact mem_take_at hiL hii
          have HTk := Aside0.mk (show L.take (i + 1) = L.take i ++ [x] by rw [List.take_succ_eq_append_getElem hiL, hx])
          rw [← hx] at hcl hlc hCr0
          have hcl := pw_cell_below HB.out hcl
          have HCr := Aside0.mk hCr0
          have HOp := Aside0.mk (open_calls Ar x.length Cr x wr (Kd.C_below hCr0 HB.out) hlc (HF.out.bytes x hxm) (HF.out.size x hxm))
          have HFI := Aside0.mk (HF.out.fine x hxm)
          have HXB := Aside0.mk (HF.out.bytes x hxm)
          obtain ⟨n0, n1, n2, n3, n4, n5, h6⟩ := openOf_six x
          have H6 := Aside0.mk h6
          have HC1 := Aside0.mk (show n1 = cnt by have := HF.out.cnt x hxm; rw [h6] at this; exact this)
          have HC2 := Aside0.mk (show n2 = whole by have := HF.out.whole x hxm; rw [h6] at this; exact this)
          have HC4 := Aside0.mk (show n4 = all by have := HF.out.all x hxm; rw [h6] at this; exact this)
          have HNum := Aside0.mk (show num x = n0 by unfold num; rw [h6]; rfl)
          have HKey := Aside0.mk (show keyOf Tryd.prog 2 (.int .i64 n0) = some (.int .i64 n0) by have := HF.out.key x hxm; rw [HNum.out] at this; exact Go.Maps.keyOf_int_mk Tryd.underlying2 this)
          have HGotN := Aside0.mk (show Got w (D.put (.int .i64 n0) (.held (.slice Ar x.length Cr))) num (L.take (i + 1)) by rw [HTk.out, ← HNum.out]; exact HG.out.put x Ar Cr hlc HCr.out)
          subst hA
          by_cases hin : n0 ∈ (L.take i).map num
          · have hi0 : ((i : Int) == 0) = false := by
              rcases Nat.eq_zero_or_pos i with h | h
              · subst h; simp at hin
              · simp; omega
            have hipos : 0 < i := by
              rcases Nat.eq_zero_or_pos i with h | h
              · subst h; simp at hin
              · exact h
            have HHas := Aside0.mk (show Go.Maps.has D (.int .i64 n0) = true by rw [HG.out.has, decide_eq_true hin])
            obtain ⟨y0, hy0, hyn⟩ := List.mem_map.1 hin
            obtain ⟨y, hy, hyn2, Ay, cy, hyc, hCy, hat⟩ := HG.out.some y0 hy0
            have hyx : x = y := (HF.out.one y (mem_take_le (by omega) hy) x hxm (by rw [hyn2, hyn, HNum.out])).symm
            subst hyx
            have HCy := Aside0.mk hCy
            have HAt := Aside0.mk (by have := hat (.held (.slice none 0 0)); rw [hyn] at this; exact this)
            clear hx hxm hCr0 h6 hin hyn hyn2 hat hCy hy hy0 hyc
            go_upto_region 13 with (fail)
            go_wp2_with fail
            refine HOp.out.mono ?_
            clear HOp
            rintro e w2 ⟨A1, c1, rfl, _, _, hb2⟩
            rw [H6.out, HFI.out, show (nums .i64 [n0, n1, n2, n3, n4, n5]).toArray = #[.int .i64 n0, .int .i64 n1, .int .i64 n2, .int .i64 n3, .int .i64 n4, .int .i64 n5] from rfl]
            have hb3 := hb2.trans ((Below.refl w2.heap.size w2).alloc (Nat.le_refl _) (.cells #[.int .i64 n0, .int .i64 n1, .int .i64 n2, .int .i64 n3, .int .i64 n4, .int .i64 n5] 54) |>.mono hb2.size)
            have HX3 := Aside0.mk (show LabAt (w2.alloc (.cells #[.int .i64 n0, .int .i64 n1, .int .i64 n2, .int .i64 n3, .int .i64 n4, .int .i64 n5] 54)) w2.heap.size [n0, n1, n2, n3, n4, n5] from heap_alloc_new w2 _)
            have HRb3 := Aside0.mk (lab_below HRb.out hb3)
            have HF3 := Aside0.mk (lab_below HFb.out hb3)
            have HM3 := Aside0.mk (map_below HM.out hb3)
            have HB3 := Aside0.mk (HB.out.trans (hb3.mono HB.out.size))
            have HSZ := Aside0.mk (show w.heap.size + 1 < w2.heap.size from Nat.lt_of_lt_of_le (Array.getElem?_eq_some_iff.1 HFb.out).1 hb2.size)
            clear hb2 hb3
            go_upto_region 16 with (fail)
            generalize w2.alloc (.cells #[.int .i64 n0, .int .i64 n1, .int .i64 n2, .int .i64 n3, .int .i64 n4, .int .i64 n5] 54) = w5 at HX3 HRb3 HF3 HM3 HB3 ⊢
            have HXl := HX3
            have HFl := HF3
            have HRl := HRb3
            have HMl := HM3
            have HBl := HB3
            obtain ⟨g0, g1, g2, g3, g4, g5, hg⟩ : ∃ g0 g1 g2 g3 g4 g5, [f0, f1, f2, f3, f4, f5] = [g0, g1, g2, g3, g4, g5] := ⟨_, _, _, _, _, _, rfl⟩
            have HG1 := Aside0.mk (show g1 = cnt by have := (List.cons.inj (List.cons.inj hg).2).1; rw [← this]; exact (HFC.out (by omega)).1)
            have HG2 := Aside0.mk (show g2 = whole by have := (List.cons.inj (List.cons.inj (List.cons.inj hg).2).2).1; rw [← this]; exact (HFC.out (by omega)).2.1)
            have HG4 := Aside0.mk (show g4 = all by have := (List.cons.inj (List.cons.inj (List.cons.inj (List.cons.inj (List.cons.inj hg).2).2).2).2).1; rw [← this]; exact (HFC.out (by omega)).2.2)
            rw [hg] at HFl
            clear hg HX3 HRb3 HF3 HM3 HB3
            generalize w2.heap.size = X at HXl HSZ ⊢
            have hx0 := lab_cell HXl.out 0 (by simp)
            have hx1 := lab_cell HXl.out 1 (by simp)
            have hx2 := lab_cell HXl.out 2 (by simp)
            have hx4 := lab_cell HXl.out 4 (by simp)
            have hf1 := lab_cell HFl.out 1 (by simp)
            have hf2 := lab_cell HFl.out 2 (by simp)
            have hf4 := lab_cell HFl.out 4 (by simp)
            simp only [List.getElem_cons_succ, List.getElem_cons_zero] at hx0 hx1 hx2 hx4 hf1 hf2 hf4
            rw [HC1.out] at hx1
            rw [HC2.out] at hx2
            rw [HC4.out] at hx4
            rw [HG1.out] at hf1
            rw [HG2.out] at hf2
            rw [HG4.out] at hf4
            have hb1 : (cnt != cnt) = false := by simp
            have hb2 : (whole != whole) = false := by simp
            have hb4 : (all != all) = false := by simp
            have HEq := Aside0.mk (show Calls Tryd.prog 37 #[.slice Ay x.length cy, .slice Ar x.length Cr] w5 fun e w' => e = .returned (.bool true) ∧ w' = w5 from (equal_calls Ay Ar x.length x.length cy Cr x x w5 (Kd.C_below HCy.out HBl.out) (Kd.C_below HCr.out HBl.out) HXB.out HXB.out).mono fun e w' h => ⟨by rw [h.1]; simp, h.2⟩)
            go_wp2_with (first | (at_lookup; refine wpList_look_ok w5 rfl (.tmp 51) (.tmp 53) 65 rfl 2 22 law Tryd.underlying65 (zeroE _) (w.heap.size + 1 + 1) i D rfl HMl.out _ (.int .i64 n0) rfl HKey.out (.slice Ay x.length cy) true HAt.out HHas.out ?_) | (at_mapUpdate; refine wpList_mapUpdate_own w5 rfl (.tmp 87) (.tmp 89) (.tmp 90) 65 rfl 2 22 law Tryd.underlying65 heldR (w.heap.size + 1 + 1) i D rfl HMl.out (by unfold maxLen; omega) _ _ _ rfl rfl HKey.out _ [] rfl ?_; intro w6 hown6 hgrow6))
            refine HEq.out.mono ?_
            clear HEq
            rintro e w6 ⟨rfl, hw⟩
            subst hw
            go_wp2_with (at_mapUpdate; refine wpList_mapUpdate_own w6 rfl (.tmp 87) (.tmp 89) (.tmp 90) 65 rfl 2 22 law Tryd.underlying65 heldR (w.heap.size + 1 + 1) i D rfl HMl.out (by unfold maxLen; omega) _ _ _ rfl rfl HKey.out _ [] rfl ?_; intro w7 hown6 hgrow6)
            have HM7 := Aside0.mk hown6
            have HF7 := Aside0.mk (lab_grown HFl.out hgrow6 (fun e => map_ne HMl.out HFl.out (Option.some.inj e)))
            have HR7 := Aside0.mk (lab_grown HRl.out hgrow6 (fun e => map_ne HMl.out HRl.out (Option.some.inj e)))
            have HB7 := Aside0.mk (HBl.out.grown hgrow6 HBl.out.size (fun k hk => by injection hk with hk; omega))
            clear hown6 hgrow6
            obtain ⟨gg, rfl⟩ : ∃ gg, gk = gg + 1 := ⟨gk - 1, by have := HNI.out; omega⟩
            go_roundg gg
            case measure => exact Nat.lt_succ_self _
            case rel => exact ⟨i + 1, _, g0, g1, g2, g3, g4, g5, by go_num, by rw [← HN.out]; have := HNI.out; omega, hii, HR7.out, HF7.out, fun _ => ⟨HG1.out, HG2.out, HG4.out⟩, fun h => absurd h (Nat.succ_ne_zero _), HM7.out, HGotN.out, HB7.out⟩
          · have HHas := Aside0.mk (show Go.Maps.has D (.int .i64 n0) = false by rw [HG.out.has, decide_eq_false hin])
            have HAt := Aside0.mk (show D.atKey (.int .i64 n0) (.held (.slice none 0 0)) = .held (.slice none 0 0) from HG.out.none n0 (fun z hz e => hin (List.mem_map.2 ⟨z, hz, e⟩)) _)
            clear hx hxm hCr0 h6 hin
            by_cases hi : i = 0
            · have hi0 : ((i : Int) == 0) = true := by subst hi; rfl
              clear hi
              go_upto_region 13 with (fail)
              go_wp2_with fail
              refine HOp.out.mono ?_
              clear HOp
              rintro e w2 ⟨A1, c1, rfl, _, _, hb2⟩
              rw [H6.out, HFI.out, show (nums .i64 [n0, n1, n2, n3, n4, n5]).toArray = #[.int .i64 n0, .int .i64 n1, .int .i64 n2, .int .i64 n3, .int .i64 n4, .int .i64 n5] from rfl]
              have hb3 := hb2.trans ((Below.refl w2.heap.size w2).alloc (Nat.le_refl _) (.cells #[.int .i64 n0, .int .i64 n1, .int .i64 n2, .int .i64 n3, .int .i64 n4, .int .i64 n5] 54) |>.mono hb2.size)
              have HX3 := Aside0.mk (show LabAt (w2.alloc (.cells #[.int .i64 n0, .int .i64 n1, .int .i64 n2, .int .i64 n3, .int .i64 n4, .int .i64 n5] 54)) w2.heap.size [n0, n1, n2, n3, n4, n5] from heap_alloc_new w2 _)
              have HRb3 := Aside0.mk (lab_below HRb.out hb3)
              have HF3 := Aside0.mk (lab_below HFb.out hb3)
              have HM3 := Aside0.mk (map_below HM.out hb3)
              have HB3 := Aside0.mk (HB.out.trans (hb3.mono HB.out.size))
              have HSZ := Aside0.mk (show w.heap.size + 1 < w2.heap.size from Nat.lt_of_lt_of_le (Array.getElem?_eq_some_iff.1 HFb.out).1 hb2.size)
              clear hb2 hb3
              have HXl := Aside0.mk (show LabAt ((w2.alloc (.cells #[.int .i64 n0, .int .i64 n1, .int .i64 n2, .int .i64 n3, .int .i64 n4, .int .i64 n5] 54)).setRow (w.heap.size + 1) #[.int .i64 n0, .int .i64 n1, .int .i64 n2, .int .i64 n3, .int .i64 n4, .int .i64 n5]) w2.heap.size [n0, n1, n2, n3, n4, n5] from (But.setRow (F := fun k => k = w.heap.size + 1) _ _ _ rfl).heap HX3.out (by have := HSZ.out; omega))
              have HFl := Aside0.mk (show LabAt ((w2.alloc (.cells #[.int .i64 n0, .int .i64 n1, .int .i64 n2, .int .i64 n3, .int .i64 n4, .int .i64 n5] 54)).setRow (w.heap.size + 1) #[.int .i64 n0, .int .i64 n1, .int .i64 n2, .int .i64 n3, .int .i64 n4, .int .i64 n5]) (w.heap.size + 1) [n0, n1, n2, n3, n4, n5] from setRow_heap_at _ _ _ _ 54 (0, 0) HF3.out)
              have HRl := Aside0.mk (show LabAt ((w2.alloc (.cells #[.int .i64 n0, .int .i64 n1, .int .i64 n2, .int .i64 n3, .int .i64 n4, .int .i64 n5] 54)).setRow (w.heap.size + 1) #[.int .i64 n0, .int .i64 n1, .int .i64 n2, .int .i64 n3, .int .i64 n4, .int .i64 n5]) w.heap.size z6 from (But.setRow (F := fun k => k = w.heap.size + 1) _ _ _ rfl).heap HRb3.out (by omega))
              have HMl := Aside0.mk (map_other HM3.out (w' := (w2.alloc (.cells #[.int .i64 n0, .int .i64 n1, .int .i64 n2, .int .i64 n3, .int .i64 n4, .int .i64 n5] 54)).setRow (w.heap.size + 1) #[.int .i64 n0, .int .i64 n1, .int .i64 n2, .int .i64 n3, .int .i64 n4, .int .i64 n5]) (setRow_other _ _ _ _ (by omega)))
              have HBl := Aside0.mk (setRow_below HB3.out (Nat.le_succ w.heap.size) #[.int .i64 n0, .int .i64 n1, .int .i64 n2, .int .i64 n3, .int .i64 n4, .int .i64 n5])
              go_upto_region 16 with (first | (refine wpList_load_row rfl 54 (.tmp 13) rfl w2.heap.size rfl 54 #[.int .i64 n0, .int .i64 n1, .int .i64 n2, .int .i64 n3, .int .i64 n4, .int .i64 n5] (0, 0) _ HX3.out Tryd.underlying54 rfl (by kernel_rfl) ?_) | (refine wpList_store_row rfl 54 (.tmp 6) (.tmp 49) rfl (w.heap.size + 1) #[.int .i64 n0, .int .i64 n1, .int .i64 n2, .int .i64 n3, .int .i64 n4, .int .i64 n5] rfl rfl 54 _ HF3.out (by kernel_rfl) rfl (six_one _ _ _ _ _ _) ?_))
              generalize (w2.alloc (.cells #[.int .i64 n0, .int .i64 n1, .int .i64 n2, .int .i64 n3, .int .i64 n4, .int .i64 n5] 54)).setRow (w.heap.size + 1) #[.int .i64 n0, .int .i64 n1, .int .i64 n2, .int .i64 n3, .int .i64 n4, .int .i64 n5] = w5 at HXl HFl HRl HMl HBl ⊢
              clear HX3 HRb3 HF3 HM3 HB3
              obtain ⟨g0, g1, g2, g3, g4, g5, hg⟩ : ∃ g0 g1 g2 g3 g4 g5, [n0, n1, n2, n3, n4, n5] = [g0, g1, g2, g3, g4, g5] := ⟨_, _, _, _, _, _, rfl⟩
              have HG1 := Aside0.mk (show g1 = cnt by have := (List.cons.inj (List.cons.inj hg).2).1; rw [← this]; exact HC1.out)
              have HG2 := Aside0.mk (show g2 = whole by have := (List.cons.inj (List.cons.inj (List.cons.inj hg).2).2).1; rw [← this]; exact HC2.out)
              have HG4 := Aside0.mk (show g4 = all by have := (List.cons.inj (List.cons.inj (List.cons.inj (List.cons.inj (List.cons.inj hg).2).2).2).2).1; rw [← this]; exact HC4.out)
              rw [hg] at HFl
              clear hg
              generalize w2.heap.size = X at HXl HSZ ⊢
              have hx0 := lab_cell HXl.out 0 (by simp)
              have hx1 := lab_cell HXl.out 1 (by simp)
              have hx2 := lab_cell HXl.out 2 (by simp)
              have hx4 := lab_cell HXl.out 4 (by simp)
              have hf1 := lab_cell HFl.out 1 (by simp)
              have hf2 := lab_cell HFl.out 2 (by simp)
              have hf4 := lab_cell HFl.out 4 (by simp)
              simp only [List.getElem_cons_succ, List.getElem_cons_zero] at hx0 hx1 hx2 hx4 hf1 hf2 hf4
              rw [HC1.out] at hx1
              rw [HC2.out] at hx2
              rw [HC4.out] at hx4
              rw [HG1.out] at hf1
              rw [HG2.out] at hf2
              rw [HG4.out] at hf4
              have hb1 : (cnt != cnt) = false := by simp
              have hb2 : (whole != whole) = false := by simp
              have hb4 : (all != all) = false := by simp
              go_wp2_with (first | (at_lookup; refine wpList_look_ok w5 rfl (.tmp 51) (.tmp 53) 65 rfl 2 22 law Tryd.underlying65 (zeroE _) (w.heap.size + 1 + 1) i D rfl HMl.out _ (.int .i64 n0) rfl HKey.out (.slice none 0 0) false HAt.out HHas.out ?_) | (at_mapUpdate; refine wpList_mapUpdate_own w5 rfl (.tmp 87) (.tmp 89) (.tmp 90) 65 rfl 2 22 law Tryd.underlying65 heldR (w.heap.size + 1 + 1) i D rfl HMl.out (by unfold maxLen; omega) _ _ _ rfl rfl HKey.out _ [] rfl ?_; intro w7 hown6 hgrow6))
              have HM7 := Aside0.mk hown6
              have HF7 := Aside0.mk (lab_grown HFl.out hgrow6 (fun e => map_ne HMl.out HFl.out (Option.some.inj e)))
              have HR7 := Aside0.mk (lab_grown HRl.out hgrow6 (fun e => map_ne HMl.out HRl.out (Option.some.inj e)))
              have HB7 := Aside0.mk (HBl.out.grown hgrow6 HBl.out.size (fun k hk => by injection hk with hk; omega))
              clear hown6 hgrow6
              obtain ⟨gg, rfl⟩ : ∃ gg, gk = gg + 1 := ⟨gk - 1, by have := HNI.out; omega⟩
              go_roundg gg
              case measure => exact Nat.lt_succ_self _
              case rel => exact ⟨i + 1, _, g0, g1, g2, g3, g4, g5, by go_num, by rw [← HN.out]; have := HNI.out; omega, hii, HR7.out, HF7.out, fun _ => ⟨HG1.out, HG2.out, HG4.out⟩, fun h => absurd h (Nat.succ_ne_zero _), HM7.out, HGotN.out, HB7.out⟩
            · have hi0 : ((i : Int) == 0) = false := by simp; omega
              have hipos : 0 < i := by omega
              clear hi
              go_upto_region 13 with (fail)
              go_wp2_with fail
              refine HOp.out.mono ?_
              clear HOp
              rintro e w2 ⟨A1, c1, rfl, _, _, hb2⟩
              rw [H6.out, HFI.out, show (nums .i64 [n0, n1, n2, n3, n4, n5]).toArray = #[.int .i64 n0, .int .i64 n1, .int .i64 n2, .int .i64 n3, .int .i64 n4, .int .i64 n5] from rfl]
              have hb3 := hb2.trans ((Below.refl w2.heap.size w2).alloc (Nat.le_refl _) (.cells #[.int .i64 n0, .int .i64 n1, .int .i64 n2, .int .i64 n3, .int .i64 n4, .int .i64 n5] 54) |>.mono hb2.size)
              have HX3 := Aside0.mk (show LabAt (w2.alloc (.cells #[.int .i64 n0, .int .i64 n1, .int .i64 n2, .int .i64 n3, .int .i64 n4, .int .i64 n5] 54)) w2.heap.size [n0, n1, n2, n3, n4, n5] from heap_alloc_new w2 _)
              have HRb3 := Aside0.mk (lab_below HRb.out hb3)
              have HF3 := Aside0.mk (lab_below HFb.out hb3)
              have HM3 := Aside0.mk (map_below HM.out hb3)
              have HB3 := Aside0.mk (HB.out.trans (hb3.mono HB.out.size))
              have HSZ := Aside0.mk (show w.heap.size + 1 < w2.heap.size from Nat.lt_of_lt_of_le (Array.getElem?_eq_some_iff.1 HFb.out).1 hb2.size)
              clear hb2 hb3
              go_upto_region 16 with (fail)
              generalize w2.alloc (.cells #[.int .i64 n0, .int .i64 n1, .int .i64 n2, .int .i64 n3, .int .i64 n4, .int .i64 n5] 54) = w5 at HX3 HRb3 HF3 HM3 HB3 ⊢
              have HXl := HX3
              have HFl := HF3
              have HRl := HRb3
              have HMl := HM3
              have HBl := HB3
              obtain ⟨g0, g1, g2, g3, g4, g5, hg⟩ : ∃ g0 g1 g2 g3 g4 g5, [f0, f1, f2, f3, f4, f5] = [g0, g1, g2, g3, g4, g5] := ⟨_, _, _, _, _, _, rfl⟩
              have HG1 := Aside0.mk (show g1 = cnt by have := (List.cons.inj (List.cons.inj hg).2).1; rw [← this]; exact (HFC.out (by omega)).1)
              have HG2 := Aside0.mk (show g2 = whole by have := (List.cons.inj (List.cons.inj (List.cons.inj hg).2).2).1; rw [← this]; exact (HFC.out (by omega)).2.1)
              have HG4 := Aside0.mk (show g4 = all by have := (List.cons.inj (List.cons.inj (List.cons.inj (List.cons.inj (List.cons.inj hg).2).2).2).2).1; rw [← this]; exact (HFC.out (by omega)).2.2)
              rw [hg] at HFl
              clear hg HX3 HRb3 HF3 HM3 HB3
              generalize w2.heap.size = X at HXl HSZ ⊢
              have hx0 := lab_cell HXl.out 0 (by simp)
              have hx1 := lab_cell HXl.out 1 (by simp)
              have hx2 := lab_cell HXl.out 2 (by simp)
              have hx4 := lab_cell HXl.out 4 (by simp)
              have hf1 := lab_cell HFl.out 1 (by simp)
              have hf2 := lab_cell HFl.out 2 (by simp)
              have hf4 := lab_cell HFl.out 4 (by simp)
              simp only [List.getElem_cons_succ, List.getElem_cons_zero] at hx0 hx1 hx2 hx4 hf1 hf2 hf4
              rw [HC1.out] at hx1
              rw [HC2.out] at hx2
              rw [HC4.out] at hx4
              rw [HG1.out] at hf1
              rw [HG2.out] at hf2
              rw [HG4.out] at hf4
              have hb1 : (cnt != cnt) = false := by simp
              have hb2 : (whole != whole) = false := by simp
              have hb4 : (all != all) = false := by simp
              go_wp2_with (first | (at_lookup; refine wpList_look_ok w5 rfl (.tmp 51) (.tmp 53) 65 rfl 2 22 law Tryd.underlying65 (zeroE _) (w.heap.size + 1 + 1) i D rfl HMl.out _ (.int .i64 n0) rfl HKey.out (.slice none 0 0) false HAt.out HHas.out ?_) | (at_mapUpdate; refine wpList_mapUpdate_own w5 rfl (.tmp 87) (.tmp 89) (.tmp 90) 65 rfl 2 22 law Tryd.underlying65 heldR (w.heap.size + 1 + 1) i D rfl HMl.out (by unfold maxLen; omega) _ _ _ rfl rfl HKey.out _ [] rfl ?_; intro w7 hown6 hgrow6))
              have HM7 := Aside0.mk hown6
              have HF7 := Aside0.mk (lab_grown HFl.out hgrow6 (fun e => map_ne HMl.out HFl.out (Option.some.inj e)))
              have HR7 := Aside0.mk (lab_grown HRl.out hgrow6 (fun e => map_ne HMl.out HRl.out (Option.some.inj e)))
              have HB7 := Aside0.mk (HBl.out.grown hgrow6 HBl.out.size (fun k hk => by injection hk with hk; omega))
              clear hown6 hgrow6
              obtain ⟨gg, rfl⟩ : ∃ gg, gk = gg + 1 := ⟨gk - 1, by have := HNI.out; omega⟩
              go_roundg gg
              case measure => exact Nat.lt_succ_self _
              case rel => exact ⟨i + 1, _, g0, g1, g2, g3, g4, g5, by go_num, by rw [← HN.out]; have := HNI.out; omega, hii, HR7.out, HF7.out, fun _ => ⟨HG1.out, HG2.out, HG4.out⟩, fun h => absurd h (Nat.succ_ne_zero _), HM7.out, HGotN.out, HB7.out⟩
        · obtain rfl : i = i0 := by omega
          have hiL : i < L.length := by rw [← HN.out]; exact hlt
          obtain ⟨al, Ar, Cr, hA, hcl, hlc, hCr0⟩ := HR.out.at_ i hiL
          obtain ⟨x, hx⟩ : ∃ x, x = L[i] := ⟨_, rfl⟩
          have hxm : x ∈ L := by rw [hx]; exact List.getElem_mem hiL
          have HXD := Aside0.mk (show L.getD i [] = x by rw [getD_at hiL, hx])
          rw [← hx] at hcl hlc hCr0
          have hcl := pw_cell_below HB.out hcl
          have HCr := Aside0.mk hCr0
          have HOp := Aside0.mk (open_calls Ar x.length Cr x wr (Kd.C_below hCr0 HB.out) hlc (HBT.out x hxm) (HSZ.out x hxm))
          have HFI := Aside0.mk (HCZ.out x hxm)
          have HXB := Aside0.mk (HBT.out x hxm)
          obtain ⟨n0, n1, n2, n3, n4, n5, h6⟩ := openOf_six x
          have H6 := Aside0.mk h6
          have HNum := Aside0.mk (show num x = n0 by unfold num; rw [h6]; rfl)
          have HBX := Aside0.mk (show n1 ≠ cnt ∨ n2 ≠ whole ∨ n4 ≠ all ∨ ∃ k, k < i ∧ labN L k 0 = n0 ∧ L.getD k [] ≠ x by
            have := HBAD.out
            unfold labN at this
            rw [HXD.out, h6] at this
            exact this)
          have HKey := Aside0.mk (show keyOf Tryd.prog 2 (.int .i64 n0) = some (.int .i64 n0) by have := key_fine HFI.out; rw [HNum.out] at this; exact Go.Maps.keyOf_int_mk Tryd.underlying2 this)
          have hi0 : ((i : Int) == 0) = false := by simp; omega
          -- what the map tells of that number
          obtain ⟨XX, bo, hAt, hHas, hsame⟩ : ∃ XX bo, D.atKey (.int .i64 n0) (.held (.slice none 0 0)) = .held XX ∧ Go.Maps.has D (.int .i64 n0) = bo ∧ ((n1 = cnt ∧ n2 = whole ∧ n4 = all) → bo = true ∧ ∃ Ay y cy, XX = .slice Ay y.length cy ∧ Kd.C (Kd.int .u8) w Ay y.length y ∧ (∀ z ∈ y, 0 ≤ z ∧ z ≤ 255) ∧ y ≠ x) := by
            by_cases hin : n0 ∈ (L.take i).map num
            · obtain ⟨y0, hy0, hyn⟩ := List.mem_map.1 hin
              obtain ⟨y, hy, hyn2, Ay, cy, hyc, hCy, hat⟩ := HG.out.some y0 hy0
              refine ⟨.slice Ay y.length cy, true, by have := hat (.held (.slice none 0 0)); rw [hyn] at this; exact this, by rw [HG.out.has, decide_eq_true hin], fun h => ⟨rfl, Ay, y, cy, rfl, hCy, HBT.out y (List.mem_of_mem_take hy), ?_⟩⟩
              rcases HBX.out with g | g | g | ⟨k, hk, hkn, hkx⟩
              · exact absurd h.1 g
              · exact absurd h.2.1 g
              · exact absurd h.2.2 g
              · have hkm : L.getD k [] ∈ L.take i := by rw [getD_at (by omega)]; exact mem_take_at (by omega) hk
                have e : L.getD k [] = y := HF.out.one _ hkm y hy (by rw [num_at, hkn, hyn2, hyn])
                rw [← e]
                exact hkx
            · refine ⟨.slice none 0 0, false, HG.out.none n0 (fun z hz e => hin (List.mem_map.2 ⟨z, hz, e⟩)) _, by rw [HG.out.has, decide_eq_false hin], fun h => absurd ?_ hin⟩
              rcases HBX.out with g | g | g | ⟨k, hk, hkn, hkx⟩
              · exact absurd h.1 g
              · exact absurd h.2.1 g
              · exact absurd h.2.2 g
              · exact List.mem_map.2 ⟨L.getD k [], by rw [getD_at (by omega)]; exact mem_take_at (by omega) hk, by rw [num_at, hkn]⟩
          have HAt := Aside0.mk hAt
          have HHas := Aside0.mk hHas
          have HSame := Aside0.mk hsame
          have HFCi := Aside0.mk (HFC.out (by omega))
          subst hA
          clear hx hxm hCr0 h6 hAt hHas hsame
          go_upto_region 13 with (fail)
          go_wp2_with fail
          refine HOp.out.mono ?_
          clear HOp
          rintro e w2 ⟨A1, c1, rfl, _, _, hb2⟩
          rw [H6.out, HFI.out, show (nums .i64 [n0, n1, n2, n3, n4, n5]).toArray = #[.int .i64 n0, .int .i64 n1, .int .i64 n2, .int .i64 n3, .int .i64 n4, .int .i64 n5] from rfl]
          have hb3 := hb2.trans ((Below.refl w2.heap.size w2).alloc (Nat.le_refl _) (.cells #[.int .i64 n0, .int .i64 n1, .int .i64 n2, .int .i64 n3, .int .i64 n4, .int .i64 n5] 54) |>.mono hb2.size)
          have HX3 := Aside0.mk (show LabAt (w2.alloc (.cells #[.int .i64 n0, .int .i64 n1, .int .i64 n2, .int .i64 n3, .int .i64 n4, .int .i64 n5] 54)) w2.heap.size [n0, n1, n2, n3, n4, n5] from heap_alloc_new w2 _)
          have HRX := Aside0.mk (lab_below HRb.out hb3)
          have HFX := Aside0.mk (lab_below HFb.out hb3)
          have HM3 := Aside0.mk (map_below HM.out hb3)
          have HBXX := Aside0.mk (HB.out.trans (hb3.mono HB.out.size))
          clear hb2 hb3
          go_upto_region 16 with (fail)
          generalize w2.alloc (.cells #[.int .i64 n0, .int .i64 n1, .int .i64 n2, .int .i64 n3, .int .i64 n4, .int .i64 n5] 54) = w5 at HX3 HRX HFX HM3 HBXX ⊢
          generalize w2.heap.size = X at HX3 ⊢
          have hx0 := lab_cell HX3.out 0 (by simp)
          have hx1 := lab_cell HX3.out 1 (by simp)
          have hx2 := lab_cell HX3.out 2 (by simp)
          have hx4 := lab_cell HX3.out 4 (by simp)
          have hf1 := lab_cell HFX.out 1 (by simp)
          have hf2 := lab_cell HFX.out 2 (by simp)
          have hf4 := lab_cell HFX.out 4 (by simp)
          simp only [List.getElem_cons_succ, List.getElem_cons_zero] at hx0 hx1 hx2 hx4 hf1 hf2 hf4
          by_cases h1 : n1 = f1
          · have hb1 : (n1 != f1) = false := by simp [h1]
            by_cases h2 : n2 = f2
            · have hb2 : (n2 != f2) = false := by simp [h2]
              by_cases h4 : n4 = f4
              · have hb4 : (n4 != f4) = false := by simp [h4]
                obtain ⟨rfl, Ay, y, cy, rfl, hCy, hyb, hyx⟩ := HSame.out ⟨h1.trans HFCi.out.1, h2.trans HFCi.out.2.1, h4.trans HFCi.out.2.2⟩
                have HEq := Aside0.mk (show Calls Tryd.prog 37 #[.slice Ay y.length cy, .slice Ar x.length Cr] w5 fun e w' => e = .returned (.bool false) ∧ w' = w5 from (equal_calls Ay Ar y.length x.length cy Cr y x w5 (Kd.C_below hCy HBXX.out) (Kd.C_below HCr.out HBXX.out) hyb HXB.out).mono fun e w' h => ⟨by rw [h.1, decide_eq_false hyx], h.2⟩)
                clear h1 h2 h4 hyb hyx hCy
                go_wp2_with (at_lookup; refine wpList_look_ok w5 rfl (.tmp 51) (.tmp 53) 65 rfl 2 22 law Tryd.underlying65 (zeroE _) (w.heap.size + 1 + 1) i D rfl HM3.out _ (.int .i64 n0) rfl HKey.out _ true HAt.out HHas.out ?_)
                refine HEq.out.mono ?_
                clear HEq
                rintro e w6 ⟨rfl, hw⟩
                subst hw
                have HRf := Aside0.mk (setRow_heap_at w6 w.heap.size #[.int .i64 f0, .int .i64 f1, .int .i64 f2, .int .i64 f3, .int .i64 f4, .int .i64 f5] _ 54 (0, 0) HRX.out)
                have HBf := Aside0.mk (setRow_below HBXX.out (Nat.le_refl _) #[.int .i64 f0, .int .i64 f1, .int .i64 f2, .int .i64 f3, .int .i64 f4, .int .i64 f5])
                go_wp2_with (first | (refine wpList_load_row rfl 54 (.tmp 6) rfl (w.heap.size + 1) rfl 54 #[.int .i64 f0, .int .i64 f1, .int .i64 f2, .int .i64 f3, .int .i64 f4, .int .i64 f5] (0, 0) _ HFX.out Tryd.underlying54 rfl (by kernel_rfl) ?_) | (refine wpList_store_row rfl 54 (.tmp 2) (.tmp 85) rfl w.heap.size #[.int .i64 f0, .int .i64 f1, .int .i64 f2, .int .i64 f3, .int .i64 f4, .int .i64 f5] rfl rfl 54 _ HRX.out (by kernel_rfl) rfl (six_one _ _ _ _ _ _) ?_))
                refine bodyPost_ret (results_set rfl _ _ w.heap.size 54 #[.int .i64 f0, .int .i64 f1, .int .i64 f2, .int .i64 f3, .int .i64 f4, .int .i64 f5] (0, 0) _ rfl HRf.out Tryd.underlying54 rfl (by kernel_rfl)) rfl ?_
                exact ⟨_, _, _, _, _, _, rfl, HBf.out⟩
              · have hb4 : (n4 != f4) = true := by simpa using h4
                clear h1 h2 h4
                have HRf := Aside0.mk (setRow_heap_at w5 w.heap.size #[.int .i64 f0, .int .i64 f1, .int .i64 f2, .int .i64 f3, .int .i64 f4, .int .i64 f5] _ 54 (0, 0) HRX.out)
                have HBf := Aside0.mk (setRow_below HBXX.out (Nat.le_refl _) #[.int .i64 f0, .int .i64 f1, .int .i64 f2, .int .i64 f3, .int .i64 f4, .int .i64 f5])
                go_wp2_with (first | (at_lookup; refine wpList_look_ok w5 rfl (.tmp 51) (.tmp 53) 65 rfl 2 22 law Tryd.underlying65 (zeroE _) (w.heap.size + 1 + 1) i D rfl HM3.out _ (.int .i64 n0) rfl HKey.out XX bo HAt.out HHas.out ?_) | (refine wpList_load_row rfl 54 (.tmp 6) rfl (w.heap.size + 1) rfl 54 #[.int .i64 f0, .int .i64 f1, .int .i64 f2, .int .i64 f3, .int .i64 f4, .int .i64 f5] (0, 0) _ HFX.out Tryd.underlying54 rfl (by kernel_rfl) ?_) | (refine wpList_store_row rfl 54 (.tmp 2) (.tmp 85) rfl w.heap.size #[.int .i64 f0, .int .i64 f1, .int .i64 f2, .int .i64 f3, .int .i64 f4, .int .i64 f5] rfl rfl 54 _ HRX.out (by kernel_rfl) rfl (six_one _ _ _ _ _ _) ?_))
                refine bodyPost_ret (results_set rfl _ _ w.heap.size 54 #[.int .i64 f0, .int .i64 f1, .int .i64 f2, .int .i64 f3, .int .i64 f4, .int .i64 f5] (0, 0) _ rfl HRf.out Tryd.underlying54 rfl (by kernel_rfl)) rfl ?_
                exact ⟨_, _, _, _, _, _, rfl, HBf.out⟩
            · have hb2 : (n2 != f2) = true := by simpa using h2
              clear h1 h2
              have HRf := Aside0.mk (setRow_heap_at w5 w.heap.size #[.int .i64 f0, .int .i64 f1, .int .i64 f2, .int .i64 f3, .int .i64 f4, .int .i64 f5] _ 54 (0, 0) HRX.out)
              have HBf := Aside0.mk (setRow_below HBXX.out (Nat.le_refl _) #[.int .i64 f0, .int .i64 f1, .int .i64 f2, .int .i64 f3, .int .i64 f4, .int .i64 f5])
              go_wp2_with (first | (at_lookup; refine wpList_look_ok w5 rfl (.tmp 51) (.tmp 53) 65 rfl 2 22 law Tryd.underlying65 (zeroE _) (w.heap.size + 1 + 1) i D rfl HM3.out _ (.int .i64 n0) rfl HKey.out XX bo HAt.out HHas.out ?_) | (refine wpList_load_row rfl 54 (.tmp 6) rfl (w.heap.size + 1) rfl 54 #[.int .i64 f0, .int .i64 f1, .int .i64 f2, .int .i64 f3, .int .i64 f4, .int .i64 f5] (0, 0) _ HFX.out Tryd.underlying54 rfl (by kernel_rfl) ?_) | (refine wpList_store_row rfl 54 (.tmp 2) (.tmp 85) rfl w.heap.size #[.int .i64 f0, .int .i64 f1, .int .i64 f2, .int .i64 f3, .int .i64 f4, .int .i64 f5] rfl rfl 54 _ HRX.out (by kernel_rfl) rfl (six_one _ _ _ _ _ _) ?_))
              refine bodyPost_ret (results_set rfl _ _ w.heap.size 54 #[.int .i64 f0, .int .i64 f1, .int .i64 f2, .int .i64 f3, .int .i64 f4, .int .i64 f5] (0, 0) _ rfl HRf.out Tryd.underlying54 rfl (by kernel_rfl)) rfl ?_
              exact ⟨_, _, _, _, _, _, rfl, HBf.out⟩
          · have hb1 : (n1 != f1) = true := by simpa using h1
            clear h1
            have HRf := Aside0.mk (setRow_heap_at w5 w.heap.size #[.int .i64 f0, .int .i64 f1, .int .i64 f2, .int .i64 f3, .int .i64 f4, .int .i64 f5] _ 54 (0, 0) HRX.out)
            have HBf := Aside0.mk (setRow_below HBXX.out (Nat.le_refl _) #[.int .i64 f0, .int .i64 f1, .int .i64 f2, .int .i64 f3, .int .i64 f4, .int .i64 f5])
            go_wp2_with (first | (at_lookup; refine wpList_look_ok w5 rfl (.tmp 51) (.tmp 53) 65 rfl 2 22 law Tryd.underlying65 (zeroE _) (w.heap.size + 1 + 1) i D rfl HM3.out _ (.int .i64 n0) rfl HKey.out XX bo HAt.out HHas.out ?_) | (refine wpList_load_row rfl 54 (.tmp 6) rfl (w.heap.size + 1) rfl 54 #[.int .i64 f0, .int .i64 f1, .int .i64 f2, .int .i64 f3, .int .i64 f4, .int .i64 f5] (0, 0) _ HFX.out Tryd.underlying54 rfl (by kernel_rfl) ?_) | (refine wpList_store_row rfl 54 (.tmp 2) (.tmp 85) rfl w.heap.size #[.int .i64 f0, .int .i64 f1, .int .i64 f2, .int .i64 f3, .int .i64 f4, .int .i64 f5] rfl rfl 54 _ HRX.out (by kernel_rfl) rfl (six_one _ _ _ _ _ _) ?_))
            refine bodyPost_ret (results_set rfl _ _ w.heap.size 54 #[.int .i64 f0, .int .i64 f1, .int .i64 f2, .int .i64 f3, .int .i64 f4, .int .i64 f5] (0, 0) _ rfl HRf.out Tryd.underlying54 rfl (by kernel_rfl)) rfl ?_
            exact ⟨_, _, _, _, _, _, rfl, HBf.out⟩
/-- volume.set where something is wrong. -/
theorem set_bad (A : Option Addr) (c : Nat) (L : List (List Int)) (i : Nat) (code : Int) (w : World) (hR : RowsB w A c L) (hfew : L.length ≤ 100) (hbt : ∀ x ∈ L, ∀ z ∈ x, 0 ≤ z ∧ z ≤ 255) (hsz : ∀ x ∈ L, x.length ≤ 100000) (h : SetIs L (some (i, code))) : Calls Tryd.prog 27 #[.slice A L.length c] w (SetBPost w i code) ∧ code ≠ 0 := by
  obtain ⟨hi, h⟩ := h
  rcases h with ⟨h1, h2, h3⟩ | ⟨rfl, h2, h3, h4⟩
  · exact ⟨set_code A c L i code w hR hfew hbt hsz hi h1 h2 h3, h2⟩
  · refine ⟨set_bad2 A c L _ _ _ i w hR hfew hbt hsz hi ?_ h2 (fit_take hfew hbt hsz h2 h4 (Nat.le_of_lt hi)) h3, by decide⟩
    rcases Nat.eq_zero_or_pos i with e | e
    · subst e
      rcases h3 with h | h | h | ⟨k, hk, _⟩
      · exact absurd rfl h
      · exact absurd rfl h
      · exact absurd rfl h
      · exact absurd hk (Nat.not_lt_zero _)
    · exact e
/-- volume.Join where something is wrong. -/
def JBPost (w : World) (i : Nat) (code : Int) (e : Ending) (w' : World) : Prop := e = .returned (.tuple #[.slice none 0 0, .int .i64 (i : Nat), .int .u8 code]) ∧ Below w.heap.size w w'
set_option maxHeartbeats 4000000 in
set_option maxRecDepth 100000 in
theorem join_bad (A : Option Addr) (c : Nat) (L : List (List Int)) (i : Nat) (code : Int) (w : World) (hR : RowsB w A c L) (hfew : L.length ≤ 100) (hbt : ∀ x ∈ L, ∀ z ∈ x, 0 ≤ z ∧ z ≤ 255) (hsz : ∀ x ∈ L, x.length ≤ 100000) (h : SetIs L (some (i, code))) : Calls Tryd.prog 13 #[.slice A L.length c] w (JBPost w i code) := by
  obtain ⟨hS, hc⟩ := set_bad A c L i code w hR hfew hbt hsz h
  have HS := Aside0.mk hS
  have hcn : (code != 0) = true := by simpa using hc
  generalize L.length = n at HS ⊢
  clear hS hc hR hbt hsz h hfew
  go_enter Tryd.func13, Tryd.ntmps13
  go_wp2_with fail
  refine HS.out.mono ?_
  rintro e w1 ⟨f0, f1, f2, f3, f4, f5, rfl, hb1⟩
  have HB := Aside0.mk (hb1.alloc hb1.size (.cells #[.int .i64 f0, .int .i64 f1, .int .i64 f2, .int .i64 f3, .int .i64 f4, .int .i64 f5] 54))
  clear hb1
  go_wp2_with fail
  go_ret3
  exact ⟨rfl, HB.out⟩
def MBPost (w : World) (code : Int) (e : Ending) (w' : World) : Prop := e = .returned (.tuple #[.slice none 0 0, .int .u8 code]) ∧ Below w.heap.size w w'
set_option maxHeartbeats 4000000 in
set_option maxRecDepth 100000 in
theorem missing_bad (A : Option Addr) (c : Nat) (L : List (List Int)) (i : Nat) (code : Int) (w : World) (hR : RowsB w A c L) (hfew : L.length ≤ 100) (hbt : ∀ x ∈ L, ∀ z ∈ x, 0 ≤ z ∧ z ≤ 255) (hsz : ∀ x ∈ L, x.length ≤ 100000) (h : SetIs L (some (i, code))) : Calls Tryd.prog 16 #[.slice A L.length c] w (MBPost w code) := by
  obtain ⟨hS, hc⟩ := set_bad A c L i code w hR hfew hbt hsz h
  have HS := Aside0.mk hS
  have hcn : (code != 0) = true := by simpa using hc
  generalize L.length = n at HS ⊢
  clear hS hc hR hbt hsz h hfew
  go_enter Tryd.func16, Tryd.ntmps16
  go_wp2_with fail
  refine HS.out.mono ?_
  rintro e w1 ⟨f0, f1, f2, f3, f4, f5, rfl, hb1⟩
  have HB := Aside0.mk (hb1.alloc hb1.size (.cells #[.int .i64 f0, .int .i64 f1, .int .i64 f2, .int .i64 f3, .int .i64 f4, .int .i64 f5] 54))
  clear hb1
  go_wp2_with fail
  go_ret2
  exact ⟨rfl, HB.out⟩
end Go.Proofs.YtkcgioggnbnfkaaDoor.SetB
