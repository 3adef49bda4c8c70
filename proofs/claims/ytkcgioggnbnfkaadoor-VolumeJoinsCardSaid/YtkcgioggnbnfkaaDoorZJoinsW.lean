/- The law VolumeJoins: its walk. -/
import Derived.Test.YtkcgioggnbnfkaaDoorZJoinB
set_option linter.unusedVariables false
set_option linter.unusedSimpArgs false
namespace Go.Proofs.YtkcgioggnbnfkaaDoor.BackP
end Go.Proofs.YtkcgioggnbnfkaaDoor.BackP
namespace Go.Proofs.YtkcgioggnbnfkaaDoor.JoinsW
open Go
open Go.RowKit Go.Proofs.YtkcgioggnbnfkaaDoorW.PrintWords Go.Proofs.YtkcgioggnbnfkaaDoorW.PrintLast Go.Proofs.YtkcgioggnbnfkaaDoorW.PrintMore Go.Proofs.YtkcgioggnbnfkaaDoorW.Mv Go.Proofs.YtkcgioggnbnfkaaDoorW.HKit Go.Proofs.YtkcgioggnbnfkaaDoorW.But Go.Proofs.YtkcgioggnbnfkaaDoorW.App Go.Proofs.YtkcgioggnbnfkaaDoorW.Rwb Go.Proofs.YtkcgioggnbnfkaaDoor.PVolumeJoins Go.Proofs.YtkcgioggnbnfkaaDoor.CrcA Go.Proofs.YtkcgioggnbnfkaaDoor.Crc Go.Proofs.YtkcgioggnbnfkaaDoor.NumP Go.Proofs.YtkcgioggnbnfkaaDoor.NumG Go.Proofs.YtkcgioggnbnfkaaDoor.Num Go.Proofs.YtkcgioggnbnfkaaDoor.Lab Go.Proofs.YtkcgioggnbnfkaaDoor.Read Go.Proofs.YtkcgioggnbnfkaaDoor.Open Go.Proofs.YtkcgioggnbnfkaaDoor.Vol Go.Proofs.YtkcgioggnbnfkaaDoor.Spl Go.Proofs.YtkcgioggnbnfkaaDoor.RS Go.Proofs.YtkcgioggnbnfkaaDoorW.Live Go.Proofs.YtkcgioggnbnfkaaDoor.RB Go.Proofs.YtkcgioggnbnfkaaDoor.RS Go.Proofs.YtkcgioggnbnfkaaDoor.WS Go.Proofs.YtkcgioggnbnfkaaDoorW.Mps Go.Proofs.YtkcgioggnbnfkaaDoor.SetW Go.Proofs.YtkcgioggnbnfkaaDoor.JoinW Go.Proofs.YtkcgioggnbnfkaaDoor.BackP Go.Proofs.YtkcgioggnbnfkaaDoor.BackR Go.Proofs.YtkcgioggnbnfkaaDoor.RO Go.Proofs.YtkcgioggnbnfkaaDoor.RSet Go.Proofs.YtkcgioggnbnfkaaDoorW.Rws Go.Proofs.YtkcgioggnbnfkaaDoor.RJ Go.Proofs.YtkcgioggnbnfkaaDoor.SetB Go.Proofs.YtkcgioggnbnfkaaDoor.JoinB
theorem code_bd (x : List Int) : 0 ≤ (openOf x).2.2 ∧ (openOf x).2.2 ≤ 15 := by
  unfold openOf
  split
  · exact ⟨by simp, by simp⟩
  · split
    · split
      · exact ⟨by simp, by simp⟩
      · exact ⟨by simp, by simp⟩
    · exact ⟨by simp, by simp⟩
theorem set_code_bd {L : List (List Int)} {i : Nat} {code : Int} (h : SetIs L (some (i, code))) : 0 ≤ code ∧ code ≤ 15 := by
  rcases h.2 with ⟨h, _⟩ | ⟨h, _⟩
  · rw [h]; exact code_bd _
  · rw [h]; exact ⟨by decide, by decide⟩
theorem jis_code_bd {L : List (List Int)} {xs : List Int} {i : Nat} {code : Int} (h : JIs L xs i code) : 0 ≤ code ∧ code ≤ 16 := by
  rcases h with ⟨h, _⟩ | ⟨_, _, h⟩
  · have := set_code_bd h
    omega
  · rcases h with ⟨_, h, _⟩ | ⟨_, _, ⟨_, _, h⟩ | ⟨_, _, _, h⟩ | ⟨_, _, _, h⟩⟩ <;> rw [h] <;> exact ⟨by decide, by decide⟩
theorem jis_bd {L : List (List Int)} (hb : ∀ x ∈ L, ∀ z ∈ x, 0 ≤ z ∧ z ≤ 255) {xs : List Int} {i : Nat} {code : Int} (h : JIs L xs i code) : ∀ z ∈ xs, 0 ≤ z ∧ z ≤ 255 := by
  rcases h with ⟨_, h⟩ | ⟨hS, _, h⟩
  · rw [h]; intro z hz; cases hz
  · rcases h with ⟨h, _, _⟩ | ⟨h0, hall, ⟨_, h, _⟩ | ⟨_, _, h, _⟩ | ⟨_, _, h, _⟩⟩
    · rw [h]; intro z hz; cases hz
    · rw [h]; intro z hz; cases hz
    · rw [h]; intro z hz; cases hz
    · rw [h]
      have hb0 := lab_bds (hS.1 0 h0)
      exact out_bd hb _ (fun j hj => hall j (by omega))
theorem set_none_or (L : List (List Int)) : ∃ r, SetIs L r := by
  by_cases hc : ∃ i, i < L.length ∧ codeAt L i ≠ 0
  · obtain ⟨i, ⟨hi, h1⟩, h2⟩ : ∃ i, (i < L.length ∧ codeAt L i ≠ 0) ∧ ∀ j, j < i → ¬ (j < L.length ∧ codeAt L j ≠ 0) := by
      obtain ⟨i, hi⟩ := hc
      induction i using Nat.strongRecOn with
      | _ i ih =>
        by_cases h : ∃ j, j < i ∧ j < L.length ∧ codeAt L j ≠ 0
        · obtain ⟨j, hj, h⟩ := h
          exact ih j hj h
        · exact ⟨i, hi, fun j hj hh => h ⟨j, hj, hh⟩⟩
    exact ⟨some (i, codeAt L i), hi, .inl ⟨rfl, h1, fun j hj => Classical.byContradiction fun h => h2 j hj ⟨by omega, h⟩⟩⟩
  · have hz : ∀ j, j < L.length → codeAt L j = 0 := fun j hj => Classical.byContradiction fun h => hc ⟨j, hj, h⟩
    by_cases hb : ∃ i, i < L.length ∧ Bad L i
    · obtain ⟨i, ⟨hi, h1⟩, h2⟩ : ∃ i, (i < L.length ∧ Bad L i) ∧ ∀ j, j < i → ¬ (j < L.length ∧ Bad L j) := by
        obtain ⟨i, hi⟩ := hb
        induction i using Nat.strongRecOn with
        | _ i ih =>
          by_cases h : ∃ j, j < i ∧ j < L.length ∧ Bad L j
          · obtain ⟨j, hj, h⟩ := h
            exact ih j hj h
          · exact ⟨i, hi, fun j hj hh => h ⟨j, hj, hh⟩⟩
      exact ⟨some (i, 2), hi, .inr ⟨rfl, hz, h1, fun j hj h => h2 j hj ⟨by omega, h⟩⟩⟩
    · exact ⟨none, hz, fun j hj h => hb ⟨j, hj, h⟩⟩
/-- Missing numbers, further and further. -/
theorem miss_more (L : List (List Int)) (n : Nat) : ∀ d, ∃ t, missOf L (n + d) = missOf L n ++ t
  | 0 => ⟨[], by simp⟩
  | d + 1 => by
    obtain ⟨t, h⟩ := miss_more L n d
    refine ⟨t ++ (if ((n + d : Nat) : Int) ∈ L.map num then [] else [((n + d : Nat) : Int)]), ?_⟩
    rw [← Nat.add_assoc, missOf_succ, h, List.append_assoc]
theorem miss_le (L : List (List Int)) {n K : Nat} (h : n ≤ K) : (missOf L n).length ≤ (missOf L K).length := by
  obtain ⟨t, e⟩ := miss_more L n (K - n)
  rw [show n + (K - n) = K by omega] at e
  rw [e, List.length_append]
  omega
theorem miss_at (L : List (List Int)) {n K : Nat} (h : n < K) (hno : ¬ (n : Int) ∈ L.map num) : (missOf L K)[(missOf L n).length]? = some (n : Int) := by
  obtain ⟨t, e⟩ := miss_more L (n + 1) (K - (n + 1))
  rw [show n + 1 + (K - (n + 1)) = K by omega, missOf_succ, if_neg hno] at e
  rw [e, List.append_assoc, List.getElem?_append_right (Nat.le_refl _), Nat.sub_self]
  rfl
theorem total_mem {L : List (List Int)} {x : List Int} (h : x ∈ L) : x.length ≤ total L := by
  unfold total
  induction L with
  | nil => cases h
  | cons y L ih =>
    rw [List.map_cons, List.sum_cons]
    rcases List.mem_cons.1 h with rfl | h
    · omega
    · have := ih h; omega
theorem total_few {L : List (List Int)} (B : Nat) (h : ∀ x ∈ L, x.length ≤ B) : total L ≤ L.length * B := by
  unfold total
  induction L with
  | nil => simp
  | cons y L ih =>
    rw [List.map_cons, List.sum_cons, List.length_cons, Nat.succ_mul]
    have h1 := h y List.mem_cons_self
    have h2 := ih (fun x hx => h x (List.mem_cons_of_mem _ hx))
    omega
def YPost (w : World) (L : List (List Int)) (e : Ending) (w' : World) : Prop := ∃ b : Bool, e = .returned (.bool b) ∧ (b = false → L.length ≤ 12 ∧ total L ≤ 20000) ∧ Below w.heap.size w w'
def YRel (w : World) (L : List (List Int)) (n' : Nat) (v3 v4 : Value) (wr : World) : Prop := ∃ (i : Nat) (t : Int), v4 = .int .i64 i ∧ v3 = .int .i64 t ∧ n' + i = L.length ∧ (i ≤ 12 → t = (total (L.take i) : Nat)) ∧ Below w.heap.size w wr
set_option maxHeartbeats 4000000 in
set_option maxRecDepth 100000 in
/-- The law's many. -/
theorem many_calls (A : Option Addr) (c : Nat) (L : List (List Int)) (w : World) (hR : RowsB w A c L) (hcap : ∀ x ∈ L, x.length ≤ 140737488351232) :
    Calls Tryd.prog 11 #[.slice A L.length c] w (YPost w L) := by
  have HR := Aside0.mk hR
  have HCAP := Aside0.mk hcap
  have hcm : L.length ≤ 9223372036854775807 := Nat.le_trans hR.1 hR.2.1
  obtain ⟨n, hn⟩ : ∃ n, n = L.length := ⟨_, rfl⟩
  have HN := Aside0.mk hn
  rw [← hn] at hcm ⊢
  clear hR hcap hn
  go_enter Tryd.func11, Tryd.ntmps11
  go_wp2_with fail
  go_loopg [3, 4] n (fun n' v3 v4 wr => YRel w L n' v3 v4 wr)
  case atStart => exact ⟨0, 0, rfl, rfl, by rw [← HN.out]; rfl, fun _ => rfl, Below.refl _ _⟩
  case round =>
    obtain ⟨i, t, rfl, rfl, hni, ht, hB⟩ := hrel
    rw [← HN.out] at hni
    have HNI := Aside0.mk hni
    have HT := Aside0.mk ht
    have HB := Aside0.mk hB
    clear hni ht hB
    by_cases hlt : i < n
    · have hiL : i < L.length := by rw [← HN.out]; exact hlt
      obtain ⟨al, Ar, Cr, hA, hcl, hlc, hCr⟩ := (HR.out.below HB.out).at_ i hiL
      obtain ⟨x, hx⟩ : ∃ x, x = L[i] := ⟨_, rfl⟩
      have hxc : x.length ≤ 140737488351232 := HCAP.out x (by rw [hx]; exact List.getElem_mem hiL)
      have HTk := Aside0.mk (show total (L.take (i + 1)) = total (L.take i) + x.length by
        rw [List.take_succ_eq_append_getElem hiL, ← hx, total_append]
        simp [total])
      rw [← hx] at hcl
      subst hA
      clear hx hlc hCr
      obtain ⟨g1, rfl⟩ : ∃ g1, gk = g1 + 1 := ⟨gk - 1, by have := HNI.out; omega⟩
      go_wp2_with fail
      go_roundg g1
      case measure => exact Nat.lt_succ_self _
      case rel => exact ⟨i + 1, wrap64 (t + (x.length : Int)), by go_num, rfl, by rw [← HN.out]; have := HNI.out; omega, fun h => (by
        have h1 := HT.out (by omega)
        have h2 := total_few (L := L.take i) 140737488351232 (fun y hy => HCAP.out y (List.mem_of_mem_take hy))
        rw [List.length_take] at h2
        have h3 : min i L.length * 140737488351232 ≤ 12 * 140737488351232 := Nat.mul_le_mul_right _ (by omega)
        rw [IntWalk.wrap64_in _ ⟨by omega, by omega⟩, h1, HTk.out]
        omega), HB.out⟩
    · obtain ⟨rfl, rfl⟩ : gk = 0 ∧ i = n := by have := HNI.out; omega
      have htk : L.take i = L := List.take_of_length_le (by rw [← HN.out]; exact Nat.le_refl _)
      have HT2 := Aside0.mk (show i ≤ 12 → t = (total L : Nat) by have := HT.out; rw [htk] at this; exact this)
      clear htk hlt
      by_cases hbig : 12 < i
      · go_wp2_with fail
        go_ret
        exact ⟨true, rfl, (fun h => by cases h), HB.out⟩
      · obtain rfl := HT2.out (by omega)
        by_cases h2 : 20000 < total L
        · go_wp2_with fail
          go_ret
          exact ⟨true, by first | rfl | (simp; omega), (fun h => by cases h), HB.out⟩
        · go_wp2_with fail
          go_ret
          exact ⟨false, by first | rfl | (simp; omega), fun _ => ⟨by rw [← HN.out]; omega, by omega⟩, HB.out⟩
def C1 (w : World) (L : List (List Int)) (n' : Nat) (v3 : Value) (wr : World) : Prop := ∃ (i : Nat), v3 = .int .i64 i ∧ n' + i = L.length ∧ Below w.heap.size w wr
def C2 (wb : World) (L : List (List Int)) (m n' : Nat) (v18 v19 : Value) (wr : World) : Prop := ∃ (k : Nat), v19 = .int .i64 k ∧ n' + k = m ∧ v18 = .int .i64 ((missOf L k).length : Nat) ∧ (missOf L k).length ≤ 4096 ∧ Below wb.heap.size wb wr
set_option maxHeartbeats 16000000 in
set_option maxRecDepth 100000 in
theorem volumeJoins_calls (w : World) (A : Option Addr) (c : Nat) (L : List (List Int)) (hr : RowsAt .u8 w A c L) : Calls Tryd.prog 4 #[.slice A L.length c] w fun e w' => e = .returned (.bool true) ∧ Below w.heap.size w w' := by
  have hR : RowsB w A c L := ⟨hr.2.1, hr.2.2.1, hr.2.2.2.1, fun a ha r hrr => by
    obtain ⟨Ar, Cr, k1, k2, _, k4, _⟩ := hr.2.2.2.2 a ha r hrr
    exact ⟨Ar, Cr, k1, k2, k4⟩⟩
  have hrow : ∀ x ∈ L, (∀ z ∈ x, 0 ≤ z ∧ z ≤ 255) ∧ x.length ≤ 140737488351232 := by
    intro x hx
    obtain ⟨r, hrr, rfl⟩ := List.getElem_of_mem hx
    obtain ⟨a, Ar, Cr, _, _, k2, _, _, k5, k6⟩ := hr.at_ r hrr
    exact ⟨fun z hz => by have h := k5 z hz; simp [Lit.wf, IntKind.min, IntKind.max, IntKind.signed, IntKind.bits] at h; omega, Nat.le_trans k2 k6⟩
  have HR := Aside0.mk hR
  have HBT := Aside0.mk (fun x hx => (hrow x hx).1)
  have HMany := Aside0.mk (fun (W : World) (hW : Below w.heap.size w W) => many_calls A c L W (hR.below hW) (fun x hx => (hrow x hx).2))
  have hcm : L.length ≤ 9223372036854775807 := Nat.le_trans hR.1 hR.2.1
  obtain ⟨n, hn⟩ : ∃ n, n = L.length := ⟨_, rfl⟩
  have HN := Aside0.mk hn
  rw [← hn] at HMany hcm ⊢
  clear hr hR hrow hn
  go_enter Tryd.func4, Tryd.ntmps4
  go_wp2_with fail
  refine (alive_calls w).mono ?_
  rintro e w1 ⟨rfl, hb1⟩
  have HB1 := Aside0.mk hb1
  clear hb1
  go_wp2_with fail
  refine (HMany.out w1 HB1.out).mono ?_
  clear HMany
  rintro e w2 ⟨b, rfl, hfew, hb2⟩
  have HB2 := Aside0.mk (HB1.out.trans (hb2.mono HB1.out.size))
  have HFEW := Aside0.mk hfew
  clear hb2 hfew
  cases b with
  | true =>
    go_wp2_with fail
    go_ret
    exact ⟨rfl, HB2.out⟩
  | false =>
    have hn12 : n ≤ 12 := by rw [HN.out]; exact (HFEW.out rfl).1
    have HSZ := Aside0.mk (show ∀ x ∈ L, x.length ≤ 20000 from fun x hx => Nat.le_trans (total_mem hx) (HFEW.out rfl).2)
    clear HFEW
    obtain ⟨r, hr⟩ := set_none_or L
    have HSR := Aside0.mk hr
    clear hr
    go_wp2_with fail
    go_loopg [3] n (fun n' v3 wr => C1 w L n' v3 wr)
    case atStart => exact ⟨0, rfl, by rw [← HN.out]; exact Nat.add_zero n, HB2.out⟩
    case round =>
      obtain ⟨i, rfl, hni, hB⟩ := hrel
      rw [← HN.out] at hni
      have HNI := Aside0.mk hni
      have HB := Aside0.mk hB
      clear hni hB
      by_cases hlt : i < n
      · have hiL : i < L.length := by rw [← HN.out]; exact hlt
        obtain ⟨al, Ar, Cr, hA, hcl, hlc, hCr⟩ := HR.out.at_ i hiL
        obtain ⟨x, hx⟩ : ∃ x, x = L[i] := ⟨_, rfl⟩
        have hxm : x ∈ L := by rw [hx]; exact List.getElem_mem hiL
        rw [← hx] at hcl hlc hCr
        have HCL := Aside0.mk hcl
        have hcl := pw_cell_below HB.out HCL.out
        have HOp := Aside0.mk (ropen_calls Ar x.length Cr x wr (Kd.C_below hCr HB.out) hlc (HBT.out x hxm) (by have := HSZ.out x hxm; omega))
        have HCh := Aside0.mk (fun (W : World) (hW : Below w.heap.size w W) => check_calls Ar x.length Cr x W (Kd.C_below hCr hW) hlc (HBT.out x hxm) (by have := HSZ.out x hxm; omega))
        obtain ⟨n0, n1, n2, n3, n4, n5, h6⟩ := openOf_six x
        have H6 := Aside0.mk h6
        have hcb := code_bd x
        obtain ⟨cd, hcd⟩ : ∃ cd, cd = (openOf x).2.2 := ⟨_, rfl⟩
        rw [← hcd] at hcb
        have HCD := Aside0.mk hcd
        subst hA
        clear hx hxm hCr hlc h6 hcd
        go_wp2_with fail
        refine HOp.out.mono ?_
        clear HOp
        rintro e w3 ⟨A1, c1, rfl, _, _, hb3⟩
        rw [H6.out, ← HCD.out, show (nums .i64 [n0, n1, n2, n3, n4, n5]).toArray = #[.int .i64 n0, .int .i64 n1, .int .i64 n2, .int .i64 n3, .int .i64 n4, .int .i64 n5] from rfl]
        have HB3 := Aside0.mk ((HB.out.trans (hb3.mono HB.out.size)).alloc (Nat.le_trans HB.out.size hb3.size) (.cells #[.int .i64 n0, .int .i64 n1, .int .i64 n2, .int .i64 n3, .int .i64 n4, .int .i64 n5] 35))
        clear hb3
        go_upto_region 9 with (fail)
        generalize w3.alloc (.cells #[.int .i64 n0, .int .i64 n1, .int .i64 n2, .int .i64 n3, .int .i64 n4, .int .i64 n5] 35) = w4 at HB3 ⊢
        have hcl4 := pw_cell_below HB3.out HCL.out
        have hwc : IntKind.i64.wrap cd = cd := (i64_w _).trans (IntWalk.wrap64_in _ ⟨by omega, by omega⟩)
        have hne : (cd != cd) = false := by simp
        clear hcl
        go_wp2_with fail
        refine (HCh.out w4 HB3.out).mono ?_
        clear HCh
        rintro e w5 ⟨rfl, hb5⟩
        rw [← HCD.out]
        have HB5 := Aside0.mk (HB3.out.trans (hb5.mono HB3.out.size))
        clear hb5 hcl4
        obtain ⟨g1, rfl⟩ : ∃ g1, gk = g1 + 1 := ⟨gk - 1, by have := HNI.out; omega⟩
        go_wp2_with fail
        go_roundg g1
        case measure => exact Nat.lt_succ_self _
        case rel => exact ⟨i + 1, by go_num, by rw [← HN.out]; have := HNI.out; omega, HB5.out⟩
      · obtain ⟨rfl, rfl⟩ : gk = 0 ∧ i = n := by have := HNI.out; omega
        have HPJ := Aside0.mk (by have := pjoin_calls A c L wr (HR.out.below HB.out) (by rw [← HN.out]; omega) HBT.out HSZ.out r HSR.out; rw [← HN.out] at this; exact this)
        clear hlt HNI
        obtain ⟨n, hnn⟩ : ∃ n, n = i := ⟨_, rfl⟩
        subst hnn
        go_wp2_with fail
        refine HPJ.out.mono ?_
        clear HPJ
        rintro e w3 ⟨xs, at_, code, v7, hJ, rfl, hO7, hb3⟩
        have HJ := Aside0.mk hJ
        have HB3 := Aside0.mk (HB.out.trans (hb3.mono HB.out.size))
        have HO7 := Aside0.mk hO7
        have HRJ := Aside0.mk (by have := rjoin_calls A c L w3 (HR.out.below HB3.out) (by rw [← HN.out]; omega) HBT.out HSZ.out; rw [← HN.out] at this; exact this)
        clear hJ hO7 hb3
        go_wp2_with fail
        refine HRJ.out.mono ?_
        clear HRJ
        rintro e w4 ⟨ys, at2, code2, v10, hJ2, rfl, hO10, hb4⟩
        obtain ⟨rfl, rfl, rfl⟩ := jis_one HJ.out hJ2
        have HB4 := Aside0.mk (HB3.out.trans (hb4.mono HB3.out.size))
        obtain ⟨A7, c7, e7, hc7, hC7, _, _, _⟩ := own_C (kd := .u8) HO7.out rfl
        obtain ⟨A10, c10, e10, hc10, hC10, _, _, _⟩ := own_C (kd := .u8) hO10 rfl
        subst e7 e10
        have hcb := jis_code_bd HJ.out
        have hwc : IntKind.i64.wrap code = code := (i64_w _).trans (IntWalk.wrap64_in _ ⟨by omega, by omega⟩)
        have hne : (code != code) = false := by simp
        have hat : ((at_ : Int) != (at_ : Int)) = false := by simp
        have HSm := Aside0.mk ((same_calls A7 A10 xs.length xs.length c7 c10 xs xs w4 (Kd.C_below hC7 hb4) hC10 hc7 hc10 (jis_bd HBT.out HJ.out) (jis_bd HBT.out HJ.out)).mono fun e W' h => (⟨by rw [h.1]; simp, h.2⟩ : e = .returned (.bool true) ∧ Below w4.heap.size w4 W'))
        clear hJ2 hO10 hb4 hC7 hC10 hc7 hc10 hcb
        go_wp2_with fail
        refine HSm.out.mono ?_
        clear HSm
        rintro e w5 ⟨rfl, hb5⟩
        have HB5 := Aside0.mk (HB4.out.trans (hb5.mono HB4.out.size))
        have HRS := Aside0.mk (by have := rset_calls A c L w5 (HR.out.below HB5.out) (by rw [← HN.out]; omega) HBT.out (fun x hx => by have := HSZ.out x hx; omega); rw [← HN.out] at this; exact this)
        clear hb5 hat hwc hne
        go_wp2_with fail
        refine HRS.out.mono ?_
        clear HRS
        rintro e w6 ⟨h6, hb6⟩
        have HB6 := Aside0.mk (HB5.out.trans (hb6.mono HB5.out.size))
        clear hb6
        rcases h6 with ⟨i, cd, hS, rfl⟩ | ⟨hS, lv, pv, cs, rfl, hO13, _, _⟩
        · have hcb := set_code_bd hS
          have HMi := Aside0.mk (by have := missing_bad A c L i cd w6 (HR.out.below HB6.out) (by rw [← HN.out]; omega) HBT.out (fun x hx => by have := HSZ.out x hx; omega) hS; rw [← HN.out] at this; exact this)
          have hwc : IntKind.i64.wrap cd = cd := (i64_w _).trans (IntWalk.wrap64_in _ ⟨by omega, by omega⟩)
          have hne : (cd != cd) = false := by simp
          have hcn : (cd != 0) = true := by
            rcases hS.2 with ⟨_, h, _⟩ | ⟨h, _⟩
            · simpa using h
            · rw [h]; rfl
          clear hS hcb
          go_wp2_with fail
          refine HMi.out.mono ?_
          clear HMi
          rintro e w7 ⟨rfl, hb7⟩
          have HB7 := Aside0.mk (HB6.out.trans (hb7.mono HB6.out.size))
          clear hb7
          go_wp2_with fail
          go_ret
          exact ⟨rfl, HB7.out⟩
        · have HS := Aside0.mk hS
          have hF := fit_all (L := L) (by rw [← HN.out]; omega) HBT.out (fun x hx => by have := HSZ.out x hx; omega) hS
          obtain ⟨m, hm, hm0⟩ : ∃ m : Nat, ((0 < L.length → labN L 0 1 = (m : Int)) ∧ m ≤ 100000000000) ∧ (L.length = 0 → m = 0) := by
            by_cases h0 : L.length = 0
            · exact ⟨0, ⟨fun h => by omega, by decide⟩, fun _ => rfl⟩
            · have hbds := lab_bds (hS.1 0 (by omega))
              obtain ⟨m, hm⟩ : ∃ m : Nat, labN L 0 1 = (m : Int) := Int.eq_ofNat_of_zero_le (by omega)
              exact ⟨m, ⟨fun _ => hm, by omega⟩, fun h => absurd h h0⟩
          have HMi := Aside0.mk (show Calls Tryd.prog 16 #[.slice A n c] w6 (MGPost w6 L m) by
            have hF2 : Fit L (m : Int) (labN L 0 2) (labN L 0 4) := by
              by_cases h0 : L.length = 0
              · obtain rfl : L = [] := List.eq_nil_of_length_eq_zero h0
                exact ⟨by simp, by simp, by simp, by simp, by simp, by simp, by simp, by simp, by simp⟩
              · rw [← hm.1 (by omega)]; exact hF
            have := missing_any A c m L _ _ w6 (HR.out.below HB6.out) hF2 hm.2 hm0
            rw [← HN.out] at this
            exact this)
          have HM := Aside0.mk hm
          have HM0 := Aside0.mk hm0
          have hmb := hm.2
          rw [← HN.out] at hO13
          have HO13 := Aside0.mk hO13
          clear hS hF hm hm0 hO13
          obtain ⟨A13, c13, e13, _⟩ := JoinW.own_slice HO13.out
          subst e13
          go_wp2_with fail
          refine HMi.out.mono ?_
          clear HMi
          rintro e w7 ⟨K, v16, hK1, hK2, hK3, rfl, hO16, hb7⟩
          have HK2 := Aside0.mk hK2
          have HB7 := Aside0.mk (HB6.out.trans (hb7.mono HB6.out.size))
          have HO137 := Aside0.mk (own_below HO13.out hb7)
          obtain ⟨A16, c16, e16, _⟩ := JoinW.own_slice hO16
          subst e16
          have HO16 := Aside0.mk hO16
          have HK1 := Aside0.mk hK1
          have HK3 := Aside0.mk hK3
          clear hb7 hO16 hK2 HO13 hK1
          by_cases hz : n = 0
          · have HZ := Aside0.mk hz
            have hl0 : (missOf L K).length = 0 := by
              have h1 := HM0.out (by rw [← HN.out]; exact hz)
              have h2 := missOf_len L K
              have := HK1.out
              omega
            have hzb : ((n : Int) == 0) = true := by simp [hz]
            have hlb : (((missOf L K).length : Int) == 0) = true := by simp [hl0]
            clear hz hl0
            go_wp2_with fail
            go_ret
            exact ⟨rfl, HB7.out⟩
          · have hzb : ((n : Int) == 0) = false := by simp; omega
            obtain ⟨gl, capl, e6⟩ : ∃ g cap, Value.slice A13 n c13 = .slice (some ⟨g, 0, none⟩) n cap := by
              rcases HO137.out.2 with ⟨_, h0⟩ | ⟨g, cap, _, h0, _⟩
              · omega
              · exact ⟨g, cap, h0⟩
            injection e6 with e6 _ e7
            subst e6 e7
            have hn0 : 0 < n := by omega
            have HLI := Aside0.mk (labsIn_own HO137.out HN.out)
            have HC1 := Aside0.mk (show w7.cell? ⟨gl, 1, none⟩ = some (.int .i64 (m : Int)) by
              have h := HLI.out.cell 0 1 (by rw [← HN.out]; omega) (by decide)
              rw [HM.out.1 (by rw [← HN.out]; omega), Nat.zero_mul, Nat.zero_add] at h
              exact h)
            obtain ⟨wb, hwb⟩ : ∃ wb, wb = w7 := ⟨_, rfl⟩
            subst hwb
            clear hz
            go_wp2_with fail
            clear hzb
            go_loopg [18, 19] m (fun n' v18 v19 wr => C2 wb L m n' v18 v19 wr)
            case atStart => exact ⟨0, rfl, rfl, rfl, Nat.zero_le _, Below.refl _ _⟩
            case round =>
              obtain ⟨k, rfl, hnk, rfl, hk4, hBB⟩ := hrel
              have HNK := Aside0.mk hnk
              have HBB := Aside0.mk hBB
              have HBW := Aside0.mk (HB7.out.trans (hBB.mono HB7.out.size))
              have hc1 := pw_cell_below hBB HC1.out
              have hkm : k ≤ m := by omega
              clear hnk hBB
              by_cases hin : k < m ∧ (missOf L k).length < 4096
              · obtain ⟨hk, hl4⟩ := hin
                have hd1 : decide ((k : Int) < (m : Int)) = true := decide_eq_true (by omega)
                have hd1' : decide (k < m) = true := decide_eq_true hk
                have hd2 : decide (((missOf L k).length : Int) < 4096) = true := decide_eq_true (by omega)
                have hd2' : decide ((missOf L k).length < 4096) = true := decide_eq_true hl4
                have HW := Aside0.mk (by have := which_calls gl c13 L (k : Int) wr (HLI.out.below HBB.out) (by rw [← HN.out]; omega); rw [← HN.out] at this; exact this)
                have HS1 := Aside0.mk (missOf_succ L k)
                obtain ⟨g1, rfl⟩ : ∃ g1, gk = g1 + 1 := ⟨gk - 1, by have := HNK.out; omega⟩
                go_wp2_with fail
                refine HW.out.mono ?_
                clear HW hd1 hd1' hd2 hd2' hc1
                rintro e w8 ⟨h8, hb8⟩
                have HB8 := Aside0.mk (HBB.out.trans (hb8.mono HBB.out.size))
                clear hb8
                rcases h8 with ⟨q, hq, hqn, rfl⟩ | ⟨hno, rfl⟩
                · have hX : missOf L (k + 1) = missOf L k := by
                    rw [HS1.out, if_pos (List.mem_map.2 ⟨L.getD q [], getD_mem hq, hqn⟩), List.append_nil]
                  have HX := Aside0.mk hX
                  clear hX hq hqn
                  go_wp2_with fail
                  go_roundg g1
                  case measure => exact Nat.lt_succ_self _
                  case rel => exact ⟨k + 1, by go_num, by have := HNK.out; omega, by rw [HX.out], by rw [HX.out]; exact hk4, HB8.out⟩
                · have hnin : ¬ (k : Int) ∈ L.map num := by
                    intro h
                    obtain ⟨y, hy, e⟩ := List.mem_map.1 h
                    obtain ⟨j, hj, rfl⟩ := mem_getD hy
                    exact hno j hj e
                  have hkK : k < K := by
                    rcases Nat.lt_or_ge k K with h | h
                    · exact h
                    · rcases HK2.out with e | e
                      · omega
                      · have := miss_le L h; omega
                  have hat := miss_at L hkK hnin
                  have hlt : (missOf L k).length < (missOf L K).length := (List.getElem?_eq_some_iff.1 hat).1
                  have HX := Aside0.mk (show missOf L (k + 1) = missOf L k ++ [(k : Int)] by rw [HS1.out, if_neg hnin])
                  obtain ⟨gm, capm, e6⟩ : ∃ g cap, Value.slice A16 (missOf L K).length c16 = .slice (some ⟨g, 0, none⟩) (missOf L K).length cap := by
                    rcases HO16.out.2 with ⟨_, h0⟩ | ⟨g, cap, _, h0, _⟩
                    · omega
                    · exact ⟨g, cap, h0⟩
                  injection e6 with e6 _ e7
                  subst e6 e7
                  have hcell : w8.cell? ⟨gm, (missOf L k).length, none⟩ = some (.int .i64 (k : Int)) := pw_cell_below HB8.out (by
                    rw [HO16.out.cellAt _ (by omega)]
                    unfold nums
                    rw [List.getElem?_map, hat]
                    rfl)
                  have hge : decide (((missOf L K).length : Int) ≤ ((missOf L k).length : Int)) = false := decide_eq_false (by omega)
                  have hge' : decide ((missOf L K).length ≤ (missOf L k).length) = false := decide_eq_false (by omega)
                  have hkk : ((k : Int) != (k : Int)) = false := by simp
                  clear hno hnin hat
                  go_wp2_with fail
                  go_roundg g1
                  case measure => exact Nat.lt_succ_self _
                  case rel => exact ⟨k + 1, by go_num, by have := HNK.out; omega, by rw [HX.out, List.length_append, List.length_singleton]; go_num, by rw [HX.out, List.length_append, List.length_singleton]; omega, HB8.out⟩
              · have hend : (missOf L k).length = (missOf L K).length := by
                  have hK1 := HK1.out
                  rcases Nat.lt_or_ge k m with h | h
                  · have h4 : (missOf L k).length = 4096 := by omega
                    rcases HK2.out with e | e
                    · have := miss_le L (show k ≤ K by omega); omega
                    · omega
                  · have hkm2 : k = m := by omega
                    subst hkm2
                    have := miss_le L hK1
                    rcases HK2.out with e | e
                    · rw [e]
                    · omega
                have heb : (((missOf L k).length : Int) == ((missOf L K).length : Int)) = true := by simp [hend]
                have heb' : ((missOf L k).length == (missOf L K).length) = true := by simp [hend]
                rcases Nat.lt_or_ge k m with h | h
                · have hd1 : decide ((k : Int) < (m : Int)) = true := decide_eq_true (by omega)
                  have hd1' : decide (k < m) = true := decide_eq_true h
                  have hd2 : decide (((missOf L k).length : Int) < 4096) = false := decide_eq_false (by omega)
                  have hd2' : decide ((missOf L k).length < 4096) = false := decide_eq_false (by omega)
                  clear hin hend
                  go_wp2_with fail
                  go_ret
                  exact ⟨rfl, HBW.out⟩
                · have hd1 : decide ((k : Int) < (m : Int)) = false := decide_eq_false (by omega)
                  have hd1' : decide (k < m) = false := decide_eq_false (by omega)
                  clear hin hend
                  go_wp2_with fail
                  go_ret
                  exact ⟨rfl, HBW.out⟩
end Go.Proofs.YtkcgioggnbnfkaaDoor.JoinsW
