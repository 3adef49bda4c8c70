/- The law VolumeBack: the plain law. -/
import Derived.Test.YtkcgioggnbnfkaaDoorZJoinW
import Derived.Test.YtkcgioggnbnfkaaDoorZWS
set_option linter.unusedVariables false
set_option linter.unusedSimpArgs false
set_option linter.unusedSectionVars false
namespace Go.Proofs.YtkcgioggnbnfkaaDoor.BackP
open Go Go.RowKit Go.Proofs.YtkcgioggnbnfkaaDoorW.PrintWords Go.Proofs.YtkcgioggnbnfkaaDoorW.PrintLast Go.Proofs.YtkcgioggnbnfkaaDoorW.PrintMore Go.Proofs.YtkcgioggnbnfkaaDoorW.Mv Go.Proofs.YtkcgioggnbnfkaaDoorW.HKit Go.Proofs.YtkcgioggnbnfkaaDoorW.But Go.Proofs.YtkcgioggnbnfkaaDoorW.App Go.Proofs.YtkcgioggnbnfkaaDoorW.Rwb Go.Proofs.YtkcgioggnbnfkaaDoorW.Mps Go.Proofs.YtkcgioggnbnfkaaDoor.PVolumeJoins Go.Proofs.YtkcgioggnbnfkaaDoor.CrcA Go.Proofs.YtkcgioggnbnfkaaDoor.Crc Go.Proofs.YtkcgioggnbnfkaaDoor.NumP Go.Proofs.YtkcgioggnbnfkaaDoor.NumG Go.Proofs.YtkcgioggnbnfkaaDoor.Num Go.Proofs.YtkcgioggnbnfkaaDoor.Lab Go.Proofs.YtkcgioggnbnfkaaDoor.Read Go.Proofs.YtkcgioggnbnfkaaDoor.Open Go.Proofs.YtkcgioggnbnfkaaDoor.Vol Go.Proofs.YtkcgioggnbnfkaaDoor.Spl Go.Proofs.YtkcgioggnbnfkaaDoor.SetW Go.Proofs.YtkcgioggnbnfkaaDoor.WS Go.Proofs.YtkcgioggnbnfkaaDoor.JoinW
theorem swap_perm {α : Type} (P : List α) (k : Nat) (hk : k < P.length) (h0 : 0 < P.length) : ((P.set 0 P[k]).set k P[0]).Perm P := by
  have h := Array.swap_perm (xs := P.toArray) (i := 0) (j := k) (by simpa using h0) (by simpa using hk)
  have h2 := h.toList
  simpa [Array.swap_def] using h2
variable {b : List Int} {S : Nat}
theorem mem_vols (x : List Int) : x ∈ volsOf b S ↔ ∃ i, i < cntOf b.length S ∧ x = volAt b S (cntOf b.length S) i := by
  unfold volsOf
  simp only [List.mem_map, List.mem_range]
  exact ⟨fun ⟨i, h1, h2⟩ => ⟨i, h1, h2.symm⟩, fun ⟨i, h1, h2⟩ => ⟨i, h1, h2.symm⟩⟩
section
variable (hb : ∀ x ∈ b, 0 ≤ x ∧ x ≤ 255) (hn : b.length ≤ 8000) (hS : 512 ≤ S)
include hb hn hS
theorem num_vol {i : Nat} (hi : i < cntOf b.length S) : num (volAt b S (cntOf b.length S) i) = (i : Int) := by
  unfold num
  rw [open_volAt b S i hb hn hS hi]
  rfl
theorem part_vol {i : Nat} (hi : i < cntOf b.length S) : partOf (volAt b S (cntOf b.length S) i) = Spl.partAt b S i := by
  unfold partOf
  rw [open_volAt b S i hb hn hS hi]
theorem vol_small {i : Nat} (hi : i < cntOf b.length S) : (volAt b S (cntOf b.length S) i).length ≤ 100000 := by
  rw [vol_len b S i hb hn hS hi]
  have : (Spl.partAt b S i).length ≤ 8000 := by unfold Spl.partAt; rw [List.length_take, List.length_drop]; omega
  unfold restOf
  omega
/-- Volumes of one whole fit together. -/
theorem fit_vols {P : List (List Int)} (hP : ∀ x ∈ P, x ∈ volsOf b S) (hl : P.length ≤ 100) : Fit P (cntOf b.length S : Int) (b.length : Int) ((crcSum b : Nat) : Int) := by
  have hm := cnt_le b.length S hn hS
  refine ⟨hl, ?_, ?_, ?_, ?_, ?_, ?_, ?_, ?_⟩
  · intro x hx
    obtain ⟨i, hi, rfl⟩ := (mem_vols x).1 (hP x hx)
    exact vol_bd _ _ (part_at_bd hb S i)
  · intro x hx
    obtain ⟨i, hi, rfl⟩ := (mem_vols x).1 (hP x hx)
    exact vol_small hb hn hS hi
  · intro x hx
    obtain ⟨i, hi, rfl⟩ := (mem_vols x).1 (hP x hx)
    rw [open_volAt b S i hb hn hS hi]
  · intro x hx
    obtain ⟨i, hi, rfl⟩ := (mem_vols x).1 (hP x hx)
    rw [open_volAt b S i hb hn hS hi]
    rfl
  · intro x hx
    obtain ⟨i, hi, rfl⟩ := (mem_vols x).1 (hP x hx)
    rw [open_volAt b S i hb hn hS hi]
    rfl
  · intro x hx
    obtain ⟨i, hi, rfl⟩ := (mem_vols x).1 (hP x hx)
    rw [open_volAt b S i hb hn hS hi]
    rfl
  · intro x hx y hy e
    obtain ⟨i, hi, rfl⟩ := (mem_vols x).1 (hP x hx)
    obtain ⟨j, hj, rfl⟩ := (mem_vols y).1 (hP y hy)
    rw [num_vol hb hn hS hi, num_vol hb hn hS hj] at e
    rw [Int.natCast_inj.1 e]
  · intro x hx
    obtain ⟨i, hi, rfl⟩ := (mem_vols x).1 (hP x hx)
    rw [num_vol hb hn hS hi]
    have : i ≤ 16 := by omega
    simp [Lit.wf, IntKind.min, IntKind.max, IntKind.signed, IntKind.bits]
    omega
/-- Every number is there. -/
theorem all_there {P : List (List Int)} (hA : ∀ x ∈ volsOf b S, x ∈ P) : ∀ k, k < cntOf b.length S → ∃ x ∈ P, num x = (k : Int) := fun k hk =>
  ⟨volAt b S (cntOf b.length S) k, hA _ ((mem_vols _).2 ⟨k, hk, rfl⟩), num_vol hb hn hS hk⟩
theorem byNum_vol {P : List (List Int)} (hP : ∀ x ∈ P, x ∈ volsOf b S) (hA : ∀ x ∈ volsOf b S, x ∈ P) {k : Nat} (hk : k < cntOf b.length S) : byNum P k = volAt b S (cntOf b.length S) k := by
  obtain ⟨h1, h2⟩ := byNum_of (all_there hb hn hS hA k hk)
  obtain ⟨j, hj, e⟩ := (mem_vols _).1 (hP _ h1)
  rw [e, num_vol hb hn hS hj] at h2
  rw [e, Int.natCast_inj.1 h2]
/-- What is joined is what was split. -/
theorem out_take {P : List (List Int)} (hP : ∀ x ∈ P, x ∈ volsOf b S) (hA : ∀ x ∈ volsOf b S, x ∈ P) : ∀ k, k ≤ cntOf b.length S → outOf P k = b.take (k * S)
  | 0, _ => by simp [outOf]
  | k + 1, h => by
    rw [outOf_succ, out_take hP hA k (by omega), byNum_vol hb hn hS hP hA (by omega), part_vol hb hn hS (by omega)]
    unfold Spl.partAt
    rw [Nat.succ_mul, List.take_add]
theorem out_all {P : List (List Int)} (hP : ∀ x ∈ P, x ∈ volsOf b S) (hA : ∀ x ∈ volsOf b S, x ∈ P) : outOf P (cntOf b.length S) = b := by
  rw [out_take hb hn hS hP hA _ (Nat.le_refl _), List.take_of_length_le (cnt_end b.length S _ hS rfl)]
theorem dd_all {P : List (List Int)} (hA : ∀ x ∈ volsOf b S, x ∈ P) : cntOf b.length S ≤ (dd (P.map num)).length := by
  have h := nodup_sub ((List.range (cntOf b.length S)).map (fun (j : Nat) => (j : Int))) (dd (P.map num)) (by
    rw [List.Nodup, List.pairwise_map]
    exact List.nodup_range.imp (fun hne e => hne (Int.natCast_inj.1 e))) (by
    intro x hx
    obtain ⟨j, hj, rfl⟩ := List.mem_map.1 hx
    obtain ⟨y, hy, e⟩ := all_there hb hn hS hA j (List.mem_range.1 hj)
    exact (dd_mem _ _).2 (List.mem_map.2 ⟨y, hy, e⟩))
  rwa [List.length_map, List.length_range] at h
theorem nums_vols : (volsOf b S).map num = (List.range (cntOf b.length S)).map (fun (j : Nat) => (j : Int)) := by
  unfold volsOf
  rw [List.map_map]
  exact List.map_congr_left (fun i hi => num_vol hb hn hS (List.mem_range.1 hi))
/-- Without the first of them. -/
theorem tail_num {x : List Int} {T : List (List Int)} (hp : (x :: T).Perm (volsOf b S)) : ∃ i, i < cntOf b.length S ∧ x = volAt b S (cntOf b.length S) i ∧ ∀ j, j < cntOf b.length S → ((j : Int) ∈ T.map num ↔ j ≠ i) := by
  obtain ⟨i, hi, hx⟩ := (mem_vols x).1 (hp.mem_iff.1 List.mem_cons_self)
  have hq : ((x :: T).map num).Perm ((List.range (cntOf b.length S)).map (fun (j : Nat) => (j : Int))) := by rw [← nums_vols hb hn hS]; exact hp.map num
  have hnd : ((x :: T).map num).Nodup := hq.nodup_iff.2 (by
    rw [List.Nodup, List.pairwise_map]
    exact List.nodup_range.imp (fun hne e => hne (Int.natCast_inj.1 e)))
  have hnx : num x = (i : Int) := by rw [hx]; exact num_vol hb hn hS hi
  rw [List.map_cons, List.nodup_cons, hnx] at hnd
  refine ⟨i, hi, hx, fun j hj => ⟨fun h e => ?_, fun h => ?_⟩⟩
  · subst e
    exact hnd.1 h
  · have h1 : (j : Int) ∈ (x :: T).map num := hq.mem_iff.2 (List.mem_map.2 ⟨j, List.mem_range.2 hj, rfl⟩)
    rw [List.map_cons, hnx] at h1
    rcases List.mem_cons.1 h1 with h1 | h1
    · exact absurd (Int.natCast_inj.1 h1) h
    · exact h1
theorem miss_tail {x : List Int} {T : List (List Int)} (hp : (x :: T).Perm (volsOf b S)) : ∃ i, i < cntOf b.length S ∧ x = volAt b S (cntOf b.length S) i ∧ missOf T (cntOf b.length S) = [(i : Int)] := by
  obtain ⟨i, hi, hx, hj⟩ := tail_num hb hn hS hp
  refine ⟨i, hi, hx, ?_⟩
  have key : ∀ k, k ≤ cntOf b.length S → missOf T k = if i < k then [(i : Int)] else [] := by
    intro k
    induction k with
    | zero => intro _; rfl
    | succ k ih =>
      intro hk
      rw [missOf_succ, ih (by omega)]
      by_cases e : k = i
      · subst e
        have hno : ¬ ((k : Int) ∈ T.map num) := fun h => (hj k (by omega)).1 h rfl
        rw [if_neg (Nat.lt_irrefl _), if_neg hno, if_pos (Nat.lt_succ_self _)]
        rfl
      · have hyes : (k : Int) ∈ T.map num := (hj k (by omega)).2 e
        rw [if_pos hyes, List.append_nil]
        by_cases hlt : i < k
        · rw [if_pos hlt, if_pos (by omega)]
        · rw [if_neg hlt, if_neg (by omega)]
  rw [key _ (Nat.le_refl _), if_pos hi]
theorem dd_tail {x : List Int} {T : List (List Int)} (hp : (x :: T).Perm (volsOf b S)) : ((dd (T.map num)).length : Int) < (cntOf b.length S : Int) := by
  have hl : (x :: T).length = cntOf b.length S := by rw [hp.length_eq]; unfold volsOf; rw [List.length_map, List.length_range]
  have h := nodup_sub (dd (T.map num)) (T.map num) (dd_nodup _) (fun y hy => (dd_mem _ _).1 hy)
  rw [List.length_map] at h
  rw [List.length_cons] at hl
  omega
end
end Go.Proofs.YtkcgioggnbnfkaaDoor.BackP
