/- The document's Which and Join, the law's many: walked once. -/
import Derived.Test.YtkcgioggnbnfkaaDoorZRSet
import Derived.Test.YtkcgioggnbnfkaaDoorZRws
set_option linter.unusedVariables false
set_option linter.unusedSimpArgs false
namespace Go.Proofs.YtkcgioggnbnfkaaDoor.BackP
end Go.Proofs.YtkcgioggnbnfkaaDoor.BackP
namespace Go.Proofs.YtkcgioggnbnfkaaDoor.RJ
open Go
open Go.RowKit Go.Proofs.YtkcgioggnbnfkaaDoorW.PrintWords Go.Proofs.YtkcgioggnbnfkaaDoorW.PrintLast Go.Proofs.YtkcgioggnbnfkaaDoorW.PrintMore Go.Proofs.YtkcgioggnbnfkaaDoorW.Mv Go.Proofs.YtkcgioggnbnfkaaDoorW.HKit Go.Proofs.YtkcgioggnbnfkaaDoorW.But Go.Proofs.YtkcgioggnbnfkaaDoorW.App Go.Proofs.YtkcgioggnbnfkaaDoorW.Rwb Go.Proofs.YtkcgioggnbnfkaaDoor.PVolumeJoins Go.Proofs.YtkcgioggnbnfkaaDoor.CrcA Go.Proofs.YtkcgioggnbnfkaaDoor.Crc Go.Proofs.YtkcgioggnbnfkaaDoor.NumP Go.Proofs.YtkcgioggnbnfkaaDoor.NumG Go.Proofs.YtkcgioggnbnfkaaDoor.Num Go.Proofs.YtkcgioggnbnfkaaDoor.Lab Go.Proofs.YtkcgioggnbnfkaaDoor.Read Go.Proofs.YtkcgioggnbnfkaaDoor.Open Go.Proofs.YtkcgioggnbnfkaaDoor.Vol Go.Proofs.YtkcgioggnbnfkaaDoor.Spl Go.Proofs.YtkcgioggnbnfkaaDoor.RS Go.Proofs.YtkcgioggnbnfkaaDoorW.Live Go.Proofs.YtkcgioggnbnfkaaDoor.RB Go.Proofs.YtkcgioggnbnfkaaDoor.RS Go.Proofs.YtkcgioggnbnfkaaDoor.WS Go.Proofs.YtkcgioggnbnfkaaDoorW.Mps Go.Proofs.YtkcgioggnbnfkaaDoor.SetW Go.Proofs.YtkcgioggnbnfkaaDoor.JoinW Go.Proofs.YtkcgioggnbnfkaaDoor.BackP Go.Proofs.YtkcgioggnbnfkaaDoor.BackR Go.Proofs.YtkcgioggnbnfkaaDoor.RO Go.Proofs.YtkcgioggnbnfkaaDoor.RSet Go.Proofs.YtkcgioggnbnfkaaDoorW.Rws
theorem more_l0' (l : List Int) (hl : l.length ≤ 1000000) (hb : ∀ c ∈ l, 0 ≤ c ∧ c ≤ 255) (d : Nat) : ∀ (i : Nat) (x : Nat), i + d = l.length → x < 4294967296 → Ev (fun n => oakumref32_More.l0 n l (x : Int) (i : Int)) ((crcFin (crcAll x (l.drop i)) : Nat) : Int) := by
  induction d with
  | zero =>
    intro i x h hx
    have hf : (crcFin x : Int) = 4294967295 - (x : Int) := by unfold crcFin; omega
    have hu : IntKind.u64.wrap (4294967295 - (x : Int)) % 4294967296 = (crcFin x : Int) := by rw [CrcP.u64_id _ (by omega) (by omega), hf]; omega
    have hd : crcAll x (l.drop i) = x := by rw [List.drop_of_length_le (by omega)]; rfl
    rw [hd]
    refine Ev.step (fun n => oakumref32_More.l0.eq_2 ..) ?_
    simp only [if_neg (show ¬ (i : Int) < (l.length : Int) by omega), hu]
    exact Ev.now _
  | succ d ih =>
    intro i x h hx
    have hi : i < l.length := by omega
    have hc := hb l[i] (List.getElem_mem hi)
    have hrd : rd l (i : Int) = l[i] := by simp [rd, List.getD, hi]
    obtain ⟨c, hcn⟩ := Int.eq_ofNat_of_zero_le hc.1
    have hu : IntKind.u64.wrap (rd l (i : Int)) = (c : Int) := by rw [hrd, hcn]; exact CrcP.u64_id _ (by omega) (by omega)
    have hxr : Go.bits .xor .u64 (x : Int) (c : Int) = ((x ^^^ c : Nat) : Int) := CrcP.xor64 x c (by omega) (by omega)
    have hlt : x ^^^ c < 4294967296 := xor_lt _ _ 32 (by omega) (by omega)
    have hw : wrap64 ((i : Int) + 1) = ((i + 1 : Nat) : Int) := by rw [CrcP.w64 (by omega) (by omega)]; omega
    have hall : crcAll x (l.drop i) = crcAll (crcBits 8 (x ^^^ c)) (l.drop (i + 1)) := by
      rw [List.drop_eq_getElem_cons hi]
      show crcAll (crcBits 8 (x ^^^ (l[i]).toNat)) (l.drop (i + 1)) = _
      rw [show (l[i]).toNat = c by rw [hcn]; rfl]
    rw [hall]
    have ih' := ih (i + 1) (crcBits 8 (x ^^^ c)) (by omega) (crcBits_lt 8 _ hlt)
    rw [← hw] at ih'
    generalize hX : crcBits 8 (x ^^^ c) = X at ih'
    have hm := fun (hr : Ev (fun n => oakumref32_More.l0 n l ((crcBits 8 (x ^^^ c) : Nat) : Int) (wrap64 ((i : Int) + 1))) ((crcFin (crcAll X (l.drop (i + 1))) : Nat) : Int)) => CrcP.more_l1 l i _ 8 0 (x ^^^ c) (by omega) hlt hr
    rw [hX] at hm
    have hm2 := hm ih'
    have hm3 : Ev (fun n => oakumref32_More.l1 n l (Go.bits .xor .u64 (x : Int) (IntKind.u64.wrap (rd l (i : Int)))) (i : Int) 0) ((crcFin (crcAll X (l.drop (i + 1))) : Nat) : Int) := by
      rw [hu, hxr]
      exact hm2
    exact Ev.step (fun n => CrcP.more_in n l (x : Int) i hi) hm3
/-- The document's sum of bytes. -/
theorem more_ev' (l : List Int) (hl : l.length ≤ 1000000) (hb : ∀ c ∈ l, 0 ≤ c ∧ c ≤ 255) : Ev (fun n => oakumref32_More.f n 0 l) ((crcSum l : Nat) : Int) := by
  unfold oakumref32_More.f
  have h := more_l0' l hl hb l.length 0 4294967295 (by omega) (by decide)
  rw [List.drop_zero] at h
  have hz : IntKind.u64.wrap (4294967295 - IntKind.u64.wrap 0) = 4294967295 := by
    rw [CrcP.u64_id 0 (by omega) (by omega), CrcP.u64_id _ (by omega) (by omega)]
    omega
  rw [hz]
  unfold crcSum
  simp only [Int.cast_ofNat_Int, Int.natCast_zero] at h
  exact h
/-- The document's sum of bytes, as a call. -/
theorem rsum_more (A : Option Addr) (n c : Nat) (l : List Int) (w : World) (hr : Kd.C (Kd.int .u8) w A n l) (hc : n ≤ c) (hn : n ≤ 1000000) (hb : ∀ y ∈ l, 0 ≤ y ∧ y ≤ 255) :
    Calls Tryd.prog 21 #[.int .u32 0, .slice A n c] w (SumPost w l) := by
  have hl := C_len hr
  subst hl
  obtain ⟨k, hk⟩ := (more_ev' l hn hb).rounds
  refine (oakumref32_More.calls k 0 A c l _ w hr hc hk).mono ?_
  rintro e w' ⟨rfl, hd⟩
  exact ⟨rfl, hd.below⟩
/-- A good volume's label. -/
theorem fine_parts {x : List Int} (h : (openOf x).2.2 = 0) : ∃ n0 n1 n2 n3 n4 n5, (openOf x).1 = [n0, n1, n2, n3, n4, n5] ∧ labOk [n0, n1, n2, n3, n4, n5] = true ∧ n0 < n1 := by
  unfold openOf at h ⊢
  by_cases hl : x.length < 512
  · rw [if_pos hl] at h; exact absurd h (by decide)
  · rw [if_neg hl] at h ⊢
    by_cases hg : (goodB (readNs (x.take 512)) (x.take 512) && restB (rd (readNs (x.take 512)) 3) (x.drop 512)) = true
    · rw [if_pos hg] at h ⊢
      by_cases hc : ((crcSum ((x.drop 512).take (rd (readNs (x.take 512)) 3).toNat) : Nat) : Int) = rd (readNs (x.take 512)) 5
      · rw [if_pos hc]
        obtain ⟨h1, _, h3, _⟩ := good_parts (Bool.and_eq_true_iff.1 hg).1
        exact ⟨_, _, _, _, _, _, rfl, h1, h3⟩
      · rw [if_neg hc] at h; exact absurd h (by decide)
    · rw [if_neg hg] at h; exact absurd h (by decide)
theorem fits_bd {n : Int} (h : fits12 n = true) : 0 ≤ n ∧ n ≤ 68719476735 := by
  unfold fits12 at h
  simpa using h
theorem lab_bds {L : List (List Int)} {i : Nat} (h : codeAt L i = 0) : 0 ≤ labN L i 0 ∧ labN L i 0 < labN L i 1 ∧ labN L i 1 ≤ 68719476735 ∧ 0 ≤ labN L i 2 ∧ labN L i 2 ≤ 68719476735 := by
  obtain ⟨n0, n1, n2, n3, n4, n5, e, h1, h2⟩ := fine_parts h
  have ha := List.all_eq_true.1 h1
  have b0 := fits_bd (ha n0 (by simp))
  have b1 := fits_bd (ha n1 (by simp))
  have b2 := fits_bd (ha n2 (by simp))
  unfold labN
  rw [e]
  exact ⟨b0.1, h2, b1.2, b2.1, b2.2⟩
theorem num_at (L : List (List Int)) (i : Nat) : num (L.getD i []) = labN L i 0 := rfl
theorem getD_mem {L : List (List Int)} {i : Nat} (h : i < L.length) : L.getD i [] ∈ L := by
  rw [List.getD_eq_getElem?_getD, List.getElem?_eq_getElem h]
  exact List.getElem_mem h
theorem mem_getD {L : List (List Int)} {x : List Int} (h : x ∈ L) : ∃ i, i < L.length ∧ L.getD i [] = x := by
  obtain ⟨i, hi, e⟩ := List.getElem_of_mem h
  exact ⟨i, hi, by rw [List.getD_eq_getElem?_getD, List.getElem?_eq_getElem hi, e]; rfl⟩
theorem set_one {L : List (List Int)} (h : SetIs L none) {x y : List Int} (hx : x ∈ L) (hy : y ∈ L) (e : num x = num y) : x = y := by
  obtain ⟨a, ha, rfl⟩ := mem_getD hx
  obtain ⟨b, hb, rfl⟩ := mem_getD hy
  rw [num_at, num_at] at e
  rcases Nat.lt_trichotomy a b with hab | hab | hab
  · by_cases hne : L.getD a [] = L.getD b []
    · exact hne
    · exact absurd (.inr (.inr (.inr ⟨a, hab, e, hne⟩))) (h.2 b hb)
  · rw [hab]
  · by_cases hne : L.getD b [] = L.getD a []
    · exact hne.symm
    · exact absurd (.inr (.inr (.inr ⟨b, hab, e.symm, hne⟩))) (h.2 a ha)
/-- All numbers below that are there: so many volumes. -/
theorem all_few {L : List (List Int)} {m : Nat} (h : ∀ k : Nat, k < m → ∃ j, j < L.length ∧ labN L j 0 = (k : Int)) : m ≤ L.length := by
  have h2 := nodup_sub ((List.range m).map (fun (j : Nat) => (j : Int))) (L.map num) (by
    rw [List.Nodup, List.pairwise_map]
    exact List.nodup_range.imp (fun hne e => hne (Int.natCast_inj.1 e))) (by
    intro x hx
    obtain ⟨k, hk, rfl⟩ := List.mem_map.1 hx
    obtain ⟨j, hj, e⟩ := h k (List.mem_range.1 hk)
    exact List.mem_map.2 ⟨L.getD j [], getD_mem hj, e⟩)
  rwa [List.length_map, List.length_range, List.length_map] at h2
/-- What joined volumes are: the bytes, the code; where their numbers fit. -/
def JFin (L : List (List Int)) (xs : List Int) (code : Int) : Prop :=
  (xs = [] ∧ code = 16 ∧ (L.length = 0 ∨ ∃ k : Nat, (k : Int) < labN L 0 1 ∧ ∀ j, j < L.length → labN L j 0 ≠ (k : Int))) ∨
    (0 < L.length ∧ (∀ k : Nat, (k : Int) < labN L 0 1 → ∃ j, j < L.length ∧ labN L j 0 = (k : Int)) ∧
      ((((outOf L (labN L 0 1).toNat).length : Int) ≠ labN L 0 2 ∧ xs = [] ∧ code = 11) ∨
        (((outOf L (labN L 0 1).toNat).length : Int) = labN L 0 2 ∧ ((crcSum (outOf L (labN L 0 1).toNat) : Nat) : Int) ≠ labN L 0 4 ∧ xs = [] ∧ code = 4) ∨
        (((outOf L (labN L 0 1).toNat).length : Int) = labN L 0 2 ∧ ((crcSum (outOf L (labN L 0 1).toNat) : Nat) : Int) = labN L 0 4 ∧ xs = outOf L (labN L 0 1).toNat ∧ code = 0)))
def JIs (L : List (List Int)) (xs : List Int) (at_ : Nat) (code : Int) : Prop :=
  (SetIs L (some (at_, code)) ∧ xs = []) ∨ (SetIs L none ∧ at_ = 0 ∧ JFin L xs code)
theorem jis_one {L : List (List Int)} {xs ys : List Int} {a b : Nat} {p q : Int} (h : JIs L xs a p) (k : JIs L ys b q) : xs = ys ∧ a = b ∧ p = q := by
  rcases h with ⟨h, hx⟩ | ⟨h, ha, hf⟩
  · rcases k with ⟨k, hy⟩ | ⟨k, _, _⟩
    · have := setIs_one h k
      injection this with this
      injection this with e1 e2
      exact ⟨hx.trans hy.symm, e1, e2⟩
    · cases setIs_one h k
  · rcases k with ⟨k, _⟩ | ⟨_, hb, kf⟩
    · cases setIs_one h k
    · refine ⟨?_, ha.trans hb.symm, ?_⟩ <;>
      · rcases hf with ⟨f1, f2, f3⟩ | ⟨f1, f2, f3⟩
        · rcases kf with ⟨g1, g2, g3⟩ | ⟨g1, g2, g3⟩
          · first | exact f1.trans g1.symm | exact f2.trans g2.symm
          · rcases f3 with f3 | ⟨k, hk, f3⟩
            · omega
            · obtain ⟨j, hj, e⟩ := g2 k hk
              exact absurd e (f3 j hj)
        · rcases kf with ⟨g1, g2, g3⟩ | ⟨g1, g2, g3⟩
          · rcases g3 with g3 | ⟨k, hk, g3⟩
            · omega
            · obtain ⟨j, hj, e⟩ := f2 k hk
              exact absurd e (g3 j hj)
          · rcases f3 with ⟨a1, a2, a3⟩ | ⟨a1, a2, a3, a4⟩ | ⟨a1, a2, a3, a4⟩ <;> rcases g3 with ⟨b1, b2, b3⟩ | ⟨b1, b2, b3, b4⟩ | ⟨b1, b2, b3, b4⟩ <;>
              first | exact absurd a1 b1 | exact absurd b1 a1 | exact absurd a2 b2 | exact absurd b2 a2 | exact a2.trans b2.symm | exact a3.trans b3.symm | exact a4.trans b4.symm
/-- Labels that lie in a block, row behind row. -/
def LabsIn (W : World) (gl : Nat) (L : List (List Int)) : Prop := ∀ r, r < L.length → W.rangeAt gl (r * 6) (nums .i64 (openOf (L.getD r [])).1)
theorem LabsIn.below {W W' : World} {gl : Nat} {L : List (List Int)} (h : LabsIn W gl L) (hb : Below W.heap.size W W') : LabsIn W' gl L := fun r hr j v hj => pw_cell_below hb (h r hr j v hj)
theorem LabsIn.cell {W : World} {gl : Nat} {L : List (List Int)} (h : LabsIn W gl L) (r j : Nat) (hr : r < L.length) (hj : j < 6) : W.cell? ⟨gl, r * 6 + j, none⟩ = some (.int .i64 (labN L r j)) := by
  refine h r hr j _ ?_
  obtain ⟨n0, n1, n2, n3, n4, n5, e⟩ := openOf_six (L.getD r [])
  unfold labN
  rw [e]
  match j, hj with
  | 0, _ => rfl
  | 1, _ => rfl
  | 2, _ => rfl
  | 3, _ => rfl
  | 4, _ => rfl
  | 5, _ => rfl
theorem labsIn_own {W : World} {B n gl cap : Nat} {L : List (List Int)} (h : W.ownsRow B 35 6 (.slice (some ⟨gl, 0, none⟩) n cap) n (labsOf L)) (hn : n = L.length) : LabsIn W gl L := by
  subst hn
  intro r hr j v hj
  have hj6 : j < 6 := by
    have := (List.getElem?_eq_some_iff.1 hj).1
    rwa [nums_six] at this
  rw [h.cellAt (r * 6 + j) (by omega), labs_at L r hr j hj6, show L[r] = L.getD r [] by rw [List.getD_eq_getElem?_getD, List.getElem?_eq_getElem hr]; rfl]
  exact hj
def WPost (w : World) (L : List (List Int)) (n : Int) (e : Ending) (w' : World) : Prop := ((∃ r : Nat, r < L.length ∧ labN L r 0 = n ∧ e = .returned (.int .i64 (r : Int))) ∨ ((∀ r, r < L.length → labN L r 0 ≠ n) ∧ e = .returned (.int .i64 (-1)))) ∧ Below w.heap.size w w'
def WRel (w : World) (L : List (List Int)) (n : Int) (n' : Nat) (v5 : Value) (wr : World) : Prop := ∃ i : Nat, v5 = .int .i64 i ∧ n' + i = L.length ∧ (∀ j, j < i → labN L j 0 ≠ n) ∧ Below w.heap.size w wr
set_option maxHeartbeats 4000000 in
set_option maxRecDepth 100000 in
theorem which_calls (gl cap : Nat) (L : List (List Int)) (n : Int) (w : World) (hL : LabsIn w gl L) (hlen : L.length ≤ 100) : Calls Tryd.prog 17 #[.slice (some ⟨gl, 0, none⟩) L.length cap, .int .i64 n] w (WPost w L n) := by
  have HL := Aside0.mk hL
  obtain ⟨m, hm⟩ : ∃ m, m = L.length := ⟨_, rfl⟩
  have HM := Aside0.mk hm
  rw [← hm] at hlen ⊢
  clear hL hm
  go_enter Tryd.func17, Tryd.ntmps17
  go_wp2_with fail
  go_loopg [5] m (fun n' v5 wr => WRel w L n n' v5 wr)
  case atStart => exact ⟨0, rfl, by rw [← HM.out]; rfl, fun j hj => absurd hj (Nat.not_lt_zero _), Below.refl _ _⟩
  case round =>
    obtain ⟨i, rfl, hni, hno, hB⟩ := hrel
    rw [← HM.out] at hni
    have HNI := Aside0.mk hni
    have HNO := Aside0.mk hno
    have HB := Aside0.mk hB
    clear hni hno hB
    by_cases hlt : i < m
    · have hcell := pw_cell_below HB.out (HL.out.cell i 0 (by rw [← HM.out]; exact hlt) (by decide))
      rw [Nat.add_zero] at hcell
      obtain ⟨g1, rfl⟩ : ∃ g1, gk = g1 + 1 := ⟨gk - 1, by have := HNI.out; omega⟩
      obtain ⟨y, hy⟩ : ∃ y, y = labN L i 0 := ⟨_, rfl⟩
      have HY := Aside0.mk hy
      rw [← hy] at hcell
      clear hy
      by_cases hyn : y = n
      · have hb : (y == n) = true := by simp [hyn]
        have HE := Aside0.mk hyn
        clear hyn
        go_wp2_with fail
        go_ret
        exact ⟨.inl ⟨i, by rw [← HM.out]; exact hlt, by rw [← HY.out]; exact HE.out, rfl⟩, HB.out⟩
      · have hb : (y == n) = false := by simp [hyn]
        have HNO2 := Aside0.mk (show ∀ j, j < i + 1 → labN L j 0 ≠ n by
          intro j hj
          rcases Nat.lt_succ_iff_lt_or_eq.1 hj with h | h
          · exact HNO.out j h
          · subst h; rw [← HY.out]; exact hyn)
        clear hyn
        go_wp2_with fail
        go_roundg g1
        case measure => exact Nat.lt_succ_self _
        case rel => exact ⟨i + 1, by go_num, by rw [← HM.out]; have := HNI.out; omega, HNO2.out, HB.out⟩
    · obtain ⟨rfl, rfl⟩ : gk = 0 ∧ i = m := by have := HNI.out; omega
      go_wp2_with fail
      go_ret
      exact ⟨.inr ⟨by rw [← HM.out]; exact HNO.out, rfl⟩, HB.out⟩
/-- What the document's Join hands back. -/
def RJPost (w : World) (L : List (List Int)) (e : Ending) (w' : World) : Prop := ∃ xs at_ code v, JIs L xs at_ code ∧ e = .returned (.tuple #[v, .int .i64 (at_ : Nat), .int .i64 code]) ∧ Own w.heap.size w' v xs ∧ Below w.heap.size w w'
def RJRel (wb : World) (L : List (List Int)) (m n' : Nat) (v9 v10 : Value) (wr : World) : Prop := ∃ k : Nat, v10 = .int .i64 k ∧ n' + k = m ∧ Own wb.heap.size wr v9 (outOf L k) ∧ (∀ j : Nat, j < k → ∃ i, i < L.length ∧ labN L i 0 = (j : Int)) ∧ Below wb.heap.size wb wr
theorem out_small {L : List (List Int)} (hsz : ∀ x ∈ L, x.length ≤ 20000) : ∀ k, (∀ j : Nat, j < k → ∃ i, i < L.length ∧ labN L i 0 = (j : Int)) → (outOf L k).length ≤ k * 20000
  | 0, _ => by simp [outOf]
  | k + 1, h => by
    obtain ⟨i, hi, e⟩ := h k (Nat.lt_succ_self _)
    have hm := (byNum_of ⟨L.getD i [], getD_mem hi, e⟩).1
    have h1 := out_small hsz k (fun j hj => h j (Nat.lt_succ_of_lt hj))
    have h2 : (partOf (byNum L k)).length ≤ 20000 := by
      have hx := hsz _ hm
      unfold partOf openOf
      split
      · simp
      · split
        · split
          · show (((byNum L k).drop 512).take _).length ≤ _
            rw [List.length_take, List.length_drop]; omega
          · simp
        · simp
    rw [outOf_succ, List.length_append, Nat.succ_mul]
    omega
theorem out_bd {L : List (List Int)} (hb : ∀ x ∈ L, ∀ z ∈ x, 0 ≤ z ∧ z ≤ 255) (k : Nat) (h : ∀ j : Nat, j < k → ∃ i, i < L.length ∧ labN L i 0 = (j : Int)) : ∀ z ∈ outOf L k, 0 ≤ z ∧ z ≤ 255 := by
  intro z hz
  unfold outOf at hz
  obtain ⟨j, hj, hz⟩ := List.mem_flatMap.1 hz
  obtain ⟨i, hi, e⟩ := h j (List.mem_range.1 hj)
  exact part_bd2 _ (hb _ (byNum_of ⟨L.getD i [], getD_mem hi, e⟩).1) z hz
set_option maxHeartbeats 16000000 in
set_option maxRecDepth 100000 in
theorem rjoin_calls (A : Option Addr) (c : Nat) (L : List (List Int)) (w : World) (hR : RowsB w A c L) (hlen : L.length ≤ 12) (hbt : ∀ x ∈ L, ∀ z ∈ x, 0 ≤ z ∧ z ≤ 255) (hsz : ∀ x ∈ L, x.length ≤ 20000) : Calls Tryd.prog 14 #[.slice A L.length c] w (RJPost w L) := by
  have HSet := Aside0.mk (rset_calls A c L w hR (by omega) hbt (fun x hx => by have := hsz x hx; omega))
  have HBT := Aside0.mk hbt
  have HSZ := Aside0.mk hsz
  obtain ⟨n, hn⟩ : ∃ n, n = L.length := ⟨_, rfl⟩
  have HN := Aside0.mk hn
  rw [← hn] at HSet hlen ⊢
  clear hR hbt hsz hn
  go_enter Tryd.func14, Tryd.ntmps14
  go_wp2_with fail
  refine HSet.out.mono ?_
  clear HSet
  rintro e w1 ⟨h1, hb1⟩
  have HB := Aside0.mk hb1
  clear hb1
  rcases h1 with ⟨i, code, hS, rfl⟩ | ⟨hS, lv, pv, cs, rfl, hO6, hO7, hPR⟩
  · have HS := Aside0.mk hS
    have hcn : (code != 0) = true := by
      rcases hS.2 with ⟨_, h, _⟩ | ⟨h, _⟩
      · simpa using h
      · rw [h]; rfl
    clear hS
    go_wp2_with fail
    go_ret3
    exact ⟨[], i, code, _, .inl ⟨HS.out, rfl⟩, rfl, World.ownsRow_nil _ _ _ _, HB.out⟩
  · have HS := Aside0.mk hS
    rw [← HN.out] at hO6 hO7
    have HO7 := Aside0.mk hO7
    have HPR := Aside0.mk hPR
    by_cases hz : n = 0
    · have hzb : ((n : Int) == 0) = true := by subst hz; rfl
      have HZ := Aside0.mk hz
      clear hz hS hO6 hO7 hPR
      go_wp2_with fail
      go_ret3
      exact ⟨[], 0, 16, _, .inr ⟨HS.out, rfl, .inl ⟨rfl, rfl, .inl (by rw [← HN.out]; exact HZ.out)⟩⟩, rfl, World.ownsRow_nil _ _ _ _, HB.out⟩
    · have hzb : ((n : Int) == 0) = false := by simp; omega
      obtain ⟨gl, capl, e6⟩ : ∃ g cap, lv = .slice (some ⟨g, 0, none⟩) n cap := by
        rcases hO6.2 with ⟨_, h0⟩ | ⟨g, cap, _, h0, _⟩
        · omega
        · exact ⟨g, cap, h0⟩
      subst e6
      obtain ⟨gp, capp, e7⟩ : ∃ g cap, pv = .slice (some ⟨g, 0, none⟩) n cap := by
        rcases hO7.2 with ⟨_, h0⟩ | ⟨g, cap, _, h0, _⟩
        · omega
        · exact ⟨g, cap, h0⟩
      subst e7
      have hLI := labsIn_own hO6 HN.out
      have HLI := Aside0.mk hLI
      have hbds := lab_bds (hS.1 0 (by rw [← HN.out]; omega))
      obtain ⟨m, hm⟩ : ∃ m : Nat, labN L 0 1 = (m : Int) := Int.eq_ofNat_of_zero_le (by omega)
      obtain ⟨wh, hwh⟩ : ∃ x, labN L 0 2 = x := ⟨_, rfl⟩
      obtain ⟨al, hal⟩ : ∃ x, labN L 0 4 = x := ⟨_, rfl⟩
      rw [hm] at hbds
      have HBD := Aside0.mk hbds
      have hc1 := hLI.cell 0 1 (by rw [← HN.out]; omega) (by decide)
      have hc2 := hLI.cell 0 2 (by rw [← HN.out]; omega) (by decide)
      have hc4 := hLI.cell 0 4 (by rw [← HN.out]; omega) (by decide)
      rw [hm] at hc1
      rw [hwh] at hc2
      rw [hal] at hc4
      simp only [Nat.zero_mul, Nat.zero_add] at hc1 hc2 hc4
      have HM := Aside0.mk hm
      have HWH := Aside0.mk hwh
      have HAL := Aside0.mk hal
      have hn0 : 0 < n := by omega
      have HC1 := Aside0.mk hc1
      have HC2 := Aside0.mk hc2
      have HC4 := Aside0.mk hc4
      clear hz hS hO6 hO7 hPR hLI hbds hm hwh hal hc2 hc4
      by_cases hgt : n < m
      · have hgb : decide ((n : Int) < (m : Int)) = true := decide_eq_true (by omega)
        have HMiss := Aside0.mk (show ∃ k : Nat, (k : Int) < labN L 0 1 ∧ ∀ j, j < L.length → labN L j 0 ≠ (k : Int) by
          refine Classical.byContradiction fun hno => ?_
          have := all_few (L := L) (m := m) (fun k hk => Classical.byContradiction fun hk2 => hno ⟨k, by rw [HM.out]; omega, fun j hj e => hk2 ⟨j, hj, e⟩⟩)
          rw [← HN.out] at this
          omega)
        have hgb2 : decide (n < m) = true := decide_eq_true (by omega)
        go_wp2_with fail
        go_ret3
        exact ⟨[], 0, 16, _, .inr ⟨HS.out, rfl, .inl ⟨rfl, rfl, .inr HMiss.out⟩⟩, rfl, World.ownsRow_nil _ _ _ _, HB.out⟩
      · have hgb : decide ((n : Int) < (m : Int)) = false := decide_eq_false (by omega)
        have hgb2 : decide (n < m) = false := decide_eq_false (by omega)
        have hmn : m ≤ n := by omega
        clear hgt
        obtain ⟨wb, hwb⟩ : ∃ wb, wb = w1 := ⟨_, rfl⟩
        subst hwb
        go_wp2_with fail
        clear hc1 hzb hgb hgb2
        go_loopg [9, 10] m (fun n' v9 v10 wr => RJRel wb L m n' v9 v10 wr)
        case atStart => exact ⟨0, rfl, rfl, World.ownsRow_nil _ _ _ _, fun j hj => absurd hj (Nat.not_lt_zero _), Below.refl _ _⟩
        case round =>
          obtain ⟨k, rfl, hnk, hO, hal, hB2⟩ := hrel
          have HNK := Aside0.mk hnk
          have HO := Aside0.mk hO
          have HA := Aside0.mk hal
          have HB2 := Aside0.mk hB2
          clear hnk hO hal hB2
          have hc1 := pw_cell_below HB2.out HC1.out
          by_cases hkm : k < m
          · have HW := Aside0.mk (by have := which_calls gl capl L (k : Int) wr (HLI.out.below HB2.out) (by rw [← HN.out]; omega); rw [← HN.out] at this; exact this)
            go_wp2_with fail
            refine HW.out.mono ?_
            clear HW
            rintro e w3 ⟨h3, hb3⟩
            have HB3 := Aside0.mk (HB2.out.trans (hb3.mono HB2.out.size))
            have HO3 := Aside0.mk (own_stays HO.out (fun q hq => hb3.block q (own_lt HO.out q hq)))
            clear hb3 HO hc1
            rcases h3 with ⟨r, hr, hrn, rfl⟩ | ⟨hno, rfl⟩
            · have hrn' : r < n := by rw [HN.out]; exact hr
              have hcs : cs.length = n := by rw [HPR.out.1, List.length_map, ← HN.out]
              obtain ⟨Ap, Cp, hcp, hlp, hCp⟩ := HPR.out.2 r (by rw [hcs]; exact hrn') (by rw [List.length_map]; exact hr)
              have hpt : (L.map partOf)[r]'(by rw [List.length_map]; exact hr) = partOf (L.getD r []) := by
                rw [List.getElem_map, List.getD_eq_getElem?_getD, List.getElem?_eq_getElem hr]
                rfl
              rw [hpt] at hcp hlp hCp
              have hby := byNum_of ⟨L.getD r [], getD_mem hr, hrn⟩
              have heq : byNum L k = L.getD r [] := set_one HS.out hby.1 (getD_mem hr) (hby.2.trans hrn.symm)
              obtain ⟨pt, hptt⟩ : ∃ pt, pt = partOf (L.getD r []) := ⟨_, rfl⟩
              have HX := Aside0.mk (show outOf L (k + 1) = outOf L k ++ pt by rw [outOf_succ, heq, hptt])
              rw [← hptt] at hcp hlp hCp
              have hps : pt.length ≤ 20000 := by
                have hx := HSZ.out _ (getD_mem hr)
                rw [hptt]
                unfold partOf openOf
                split
                · simp
                · split
                  · split
                    · show ((((L.getD r [])).drop 512).take _).length ≤ _
                      rw [List.length_take, List.length_drop]; omega
                    · simp
                  · simp
              have hcell : w3.cell? ⟨gp, r, none⟩ = some (.slice Ap pt.length Cp) := pw_cell_below HB3.out (by rw [HO7.out.cellAt r (by omega), List.getElem?_eq_getElem (by rw [hcs]; exact hrn'), hcp])
              have HC3 := Aside0.mk (Kd.C_below hCp (HB.out.trans (HB3.out.mono HB.out.size)))
              have HA2 := Aside0.mk (show ∀ j : Nat, j < k + 1 → ∃ i, i < L.length ∧ labN L i 0 = (j : Int) by
                intro j hj
                rcases Nat.lt_succ_iff_lt_or_eq.1 hj with h | h
                · exact HA.out j h
                · subst h; exact ⟨r, hr, hrn⟩)
              have hskl : (outOf L k).length ≤ 240000 := by
                have := out_small HSZ.out k HA.out
                omega
              clear hr hrn hcs hcp hCp hpt hby heq hptt
              go_wp2_with (at_builtin; refine wpList_app_reads w3 rfl (.tmp 48) (.tmp 52) 22 rfl wb.heap.size 5 Tryd.underlying22 Lab.byteInfo u9 (outOf L k) pt rfl HO3.out Ap pt.length Cp rfl HC3.out (by omega) HB3.out.size ?_; intro v4 w4 hown4 hgrow4 hloc4)
              have HO4 := Aside0.mk (show Own wb.heap.size w4 v4 (outOf L (k + 1)) by rw [HX.out]; exact hown4)
              have HB4 := Aside0.mk (HB3.out.grown hgrow4 HB3.out.size (own_base HO3.out))
              clear hown4 hgrow4 hloc4
              obtain ⟨gg, rfl⟩ : ∃ gg, gk = gg + 1 := ⟨gk - 1, by have := HNK.out; omega⟩
              go_roundg gg
              case measure => exact Nat.lt_succ_self _
              case rel => exact ⟨k + 1, by go_num, by have := HNK.out; omega, HO4.out, HA2.out, HB4.out⟩
            · have HMiss := Aside0.mk (show ∃ k : Nat, (k : Int) < labN L 0 1 ∧ ∀ j, j < L.length → labN L j 0 ≠ (k : Int) from ⟨k, by rw [HM.out]; omega, hno⟩)
              have HBf := Aside0.mk (HB.out.trans (HB3.out.mono HB.out.size))
              clear hno
              go_wp2_with fail
              go_ret3
              exact ⟨[], 0, 16, _, .inr ⟨HS.out, rfl, .inl ⟨rfl, rfl, .inr HMiss.out⟩⟩, rfl, World.ownsRow_nil _ _ _ _, HBf.out⟩
          · obtain ⟨rfl, rfl⟩ : gk = 0 ∧ k = m := by have := HNK.out; omega
            have HAll := Aside0.mk (show ∀ j : Nat, (j : Int) < labN L 0 1 → ∃ i, i < L.length ∧ labN L i 0 = (j : Int) from fun j hj => HA.out j (by rw [HM.out] at hj; omega))
            have HMT := Aside0.mk (show (labN L 0 1).toNat = k by rw [HM.out]; simp)
            have hc2 := pw_cell_below HB2.out HC2.out
            have hc4 := pw_cell_below HB2.out HC4.out
            have HBf := Aside0.mk (HB.out.trans (HB2.out.mono HB.out.size))
            obtain ⟨A9, c9, hv9, hlc9, hC9, _, hnil9, _⟩ := own_C (kd := .u8) HO.out rfl
            subst hv9
            have hob := out_bd HBT.out k HA.out
            have hsl := out_small HSZ.out k HA.out
            obtain ⟨out, hout⟩ : ∃ out, out = outOf L k := ⟨_, rfl⟩
            have HOut := Aside0.mk hout
            have HO := Aside0.mk (show Own wb.heap.size wr (.slice A9 out.length c9) out by have := HO.out; rw [hout]; exact this)
            rw [← hout] at hlc9 hC9 hob hsl ⊢
            have HC9 := Aside0.mk hC9
            have HOB := Aside0.mk hob
            have hsl2 : out.length ≤ 240000 := by omega
            clear hout hC9 hob hnil9 hsl
            by_cases hle : (out.length : Int) = wh
            · have hleb : ((out.length : Int) != wh) = false := by simp [hle]
              have HLE := Aside0.mk hle
              clear hle
              go_upto_region 16 with (fail)
              have HS5 := Aside0.mk (show (fun W : World => Hid (Below wr.heap.size wr W) ∧ W.cell? ⟨gl, 4, none⟩ = some (.int .i64 al)) wr.drew from ⟨Lib.hid (Below.refl wr.heap.size wr).drew, hc4⟩)
              have HSm := Aside0.mk (rsum_more A9 out.length c9 out wr.drew (Kd.C_below HC9.out (Below.refl wr.heap.size wr).drew) hlc9 (by omega) HOB.out)
              have hcv : IntKind.i64.wrap ((crcSum out : Nat) : Int) = ((crcSum out : Nat) : Int) := by rw [IntKind.wrap_i64]; have := crcSum_lt out HOB.out; omega
              refine wp_region_held_drew (S := (fun W : World => Hid (Below wr.heap.size wr W) ∧ W.cell? ⟨gl, 4, none⟩ = some (.int .i64 al))) (by kernel_rfl) ?_ (fun hHeld => ?_)
              · exact HS5.out
              refine wpAnyH_take (i := 0) (v := ?_) rfl (by kernel_rfl) (by kernel_rfl) (by kernel_rfl) (fun _ _ _ h => h) (Or.inl ⟨by rfl, ?_⟩) (by assumption) ?_; rotate_left; focus (intro w hSw; (try dsimp only at hSw); simp only [List.getElem_toArray, List.getElem_cons_succ, List.getElem_cons_zero]; go_simp; (try (with_reducible rfl)))
              simp only [List.getElem_toArray, List.getElem_cons_succ, List.getElem_cons_zero, Act.put, List.setIfInBounds_toArray, List.set_cons_zero, List.set_cons_succ]
              refine wpAnyH_take (i := 3) (v := ?_) rfl (by kernel_rfl) (by kernel_rfl) (by kernel_rfl) (fun _ _ _ h => h) (Or.inl ⟨by rfl, ?_⟩) (by assumption) ?_; rotate_left; focus (intro w hSw; (try dsimp only at hSw); simp only [List.getElem_toArray, List.getElem_cons_succ, List.getElem_cons_zero]; go_simp; (try (with_reducible rfl)))
              simp only [List.getElem_toArray, List.getElem_cons_succ, List.getElem_cons_zero, Act.put, List.setIfInBounds_toArray, List.set_cons_zero, List.set_cons_succ]
              refine wpAnyH_take (i := 4) (v := ?_) rfl (by kernel_rfl) (by kernel_rfl) (by kernel_rfl) (fun _ _ _ h => h) (Or.inl ⟨by rfl, ?_⟩) (by assumption) ?_; rotate_left; focus (intro w hSw; (try dsimp only at hSw); simp only [List.getElem_toArray, List.getElem_cons_succ, List.getElem_cons_zero]; go_simp; (try (with_reducible rfl)))
              simp only [List.getElem_toArray, List.getElem_cons_succ, List.getElem_cons_zero, Act.put, List.setIfInBounds_toArray, List.set_cons_zero, List.set_cons_succ]
              refine wpAnyH_take (i := 5) (v := ?_) rfl (by kernel_rfl) (by kernel_rfl) (by kernel_rfl) (fun _ _ _ h => h) (Or.inl ⟨by rfl, ?_⟩) (by assumption) ?_; rotate_left; focus (intro w hSw; (try dsimp only at hSw); simp only [List.getElem_toArray, List.getElem_cons_succ, List.getElem_cons_zero]; go_simp; (try (with_reducible rfl)))
              simp only [List.getElem_toArray, List.getElem_cons_succ, List.getElem_cons_zero, Act.put, List.setIfInBounds_toArray, List.set_cons_zero, List.set_cons_succ]
              refine wpAnyH_take (i := 6) (v := ?_) rfl (by kernel_rfl) (by kernel_rfl) (by kernel_rfl) (fun _ _ _ h => h) (Or.inl ⟨by rfl, ?_⟩) (by assumption) ?_; rotate_left; focus (intro w hSw; (try dsimp only at hSw); simp only [List.getElem_toArray, List.getElem_cons_succ, List.getElem_cons_zero]; go_simp; (try (with_reducible rfl)))
              simp only [List.getElem_toArray, List.getElem_cons_succ, List.getElem_cons_zero, Act.put, List.setIfInBounds_toArray, List.set_cons_zero, List.set_cons_succ]
              refine wpAnyH_ready (rs := [1]) (by kernel_rfl) (by simp) ?_
              refine AllReadyH.cons rfl (fun K hK => ?_) AllReadyH.nil
              go_simp
              (with_reducible refine (HSm.out).mono ?_)
              rintro e w6 ⟨rfl, hb6⟩
              refine hK.out _ _ ⟨Lib.hid ((Below.refl wr.heap.size wr).drew.trans hb6), pw_cell_below (w := wr.drew) hb6 hc4⟩ (fun hHeld => ?_)
              clear hK K
              try simp only [List.getElem_toArray, List.getElem_cons_succ, List.getElem_cons_zero, Act.put, List.setIfInBounds_toArray, List.set_cons_zero, List.set_cons_succ]
              refine wpAnyH_take (i := 2) (v := ?_) rfl (by kernel_rfl) (by kernel_rfl) (by kernel_rfl) (fun _ _ _ h => h) (Or.inl ⟨by rfl, ?_⟩) (by assumption) ?_; rotate_left; focus (intro w hSw; (try dsimp only at hSw); simp only [List.getElem_toArray, List.getElem_cons_succ, List.getElem_cons_zero]; go_simp; (try (with_reducible rfl)))
              simp only [List.getElem_toArray, List.getElem_cons_succ, List.getElem_cons_zero, Act.put, List.setIfInBounds_toArray, List.set_cons_zero, List.set_cons_succ]
              refine wpAnyH_take (i := 7) (v := ?_) rfl (by kernel_rfl) (by kernel_rfl) (by kernel_rfl) (fun _ _ _ h => h) (Or.inl ⟨by rfl, ?_⟩) (by assumption) ?_; rotate_left; focus (intro w hSw; (try dsimp only at hSw); simp only [List.getElem_toArray, List.getElem_cons_succ, List.getElem_cons_zero]; go_simp; (try (with_reducible rfl)))
              simp only [List.getElem_toArray, List.getElem_cons_succ, List.getElem_cons_zero, Act.put, List.setIfInBounds_toArray, List.set_cons_zero, List.set_cons_succ]
              refine wpAnyH_done (by kernel_rfl) ?_ _
              have HB6 := Aside0.mk hHeld.1.out
              clear hHeld hb6
              have HOf := Aside0.mk (own_weaken (own_stays HO.out (fun q hq => HB6.out.block q (own_lt HO.out q hq))) HB.out.size)
              have HBg := Aside0.mk (HBf.out.trans (HB6.out.mono HBf.out.size))
              by_cases hcs : ((crcSum out : Nat) : Int) = al
              · have hcn : (((crcSum out : Nat) : Int) != al) = false := by simp [hcs]
                have HCS := Aside0.mk hcs
                clear hcs
                go_wp2_with fail
                go_ret3
                exact ⟨out, 0, 0, _, .inr ⟨HS.out, rfl, .inr ⟨by rw [← HN.out]; omega, HAll.out, .inr (.inr ⟨by rw [HMT.out, ← HOut.out, HWH.out]; exact HLE.out, by rw [HMT.out, ← HOut.out, HAL.out]; exact HCS.out, by rw [HMT.out]; exact HOut.out, rfl⟩)⟩⟩, rfl, HOf.out, HBg.out⟩
              · have hcn : (((crcSum out : Nat) : Int) != al) = true := by simpa using hcs
                have HCS := Aside0.mk hcs
                clear hcs
                go_wp2_with fail
                go_ret3
                exact ⟨[], 0, 4, _, .inr ⟨HS.out, rfl, .inr ⟨by rw [← HN.out]; omega, HAll.out, .inr (.inl ⟨by rw [HMT.out, ← HOut.out, HWH.out]; exact HLE.out, by rw [HMT.out, ← HOut.out, HAL.out]; exact HCS.out, rfl, rfl⟩)⟩⟩, rfl, World.ownsRow_nil _ _ _ _, HBg.out⟩
            · have hleb : ((out.length : Int) != wh) = true := by simpa using hle
              have HLE := Aside0.mk hle
              clear hle
              go_wp2_with fail
              go_ret3
              exact ⟨[], 0, 11, _, .inr ⟨HS.out, rfl, .inr ⟨by rw [← HN.out]; omega, HAll.out, .inl ⟨by rw [HMT.out, ← HOut.out, HWH.out]; exact HLE.out, rfl, rfl⟩⟩⟩, rfl, World.ownsRow_nil _ _ _ _, HBf.out⟩
end Go.Proofs.YtkcgioggnbnfkaaDoor.RJ
