/- The law VolumeBack: its walk. -/
import Derived.Test.YtkcgioggnbnfkaaDoorZBackR
import Derived.Deep.CutRange
set_option linter.unusedVariables false
set_option linter.unusedSimpArgs false
namespace Go.Proofs.YtkcgioggnbnfkaaDoor.BackW
open Go Go.RowKit Go.Proofs.YtkcgioggnbnfkaaDoorW.PrintWords Go.Proofs.YtkcgioggnbnfkaaDoorW.PrintLast Go.Proofs.YtkcgioggnbnfkaaDoorW.PrintMore Go.Proofs.YtkcgioggnbnfkaaDoorW.Mv Go.Proofs.YtkcgioggnbnfkaaDoorW.HKit Go.Proofs.YtkcgioggnbnfkaaDoorW.But Go.Proofs.YtkcgioggnbnfkaaDoorW.App Go.Proofs.YtkcgioggnbnfkaaDoorW.Rwb Go.Proofs.YtkcgioggnbnfkaaDoorW.Mps Go.Proofs.YtkcgioggnbnfkaaDoor.PVolumeJoins Go.Proofs.YtkcgioggnbnfkaaDoor.CrcA Go.Proofs.YtkcgioggnbnfkaaDoor.Crc Go.Proofs.YtkcgioggnbnfkaaDoor.NumP Go.Proofs.YtkcgioggnbnfkaaDoor.NumG Go.Proofs.YtkcgioggnbnfkaaDoor.Num Go.Proofs.YtkcgioggnbnfkaaDoor.Lab Go.Proofs.YtkcgioggnbnfkaaDoor.Read Go.Proofs.YtkcgioggnbnfkaaDoor.Open Go.Proofs.YtkcgioggnbnfkaaDoor.Vol Go.Proofs.YtkcgioggnbnfkaaDoor.Spl Go.Proofs.YtkcgioggnbnfkaaDoor.SetW Go.Proofs.YtkcgioggnbnfkaaDoor.WS Go.Proofs.YtkcgioggnbnfkaaDoor.JoinW Go.Proofs.YtkcgioggnbnfkaaDoor.BackP Go.Proofs.YtkcgioggnbnfkaaDoor.BackR
theorem heap_alloc_lt' (W : World) (q : Nat) (o x : Obj) (h : W.heap[q]? = some x) : (W.alloc o).heap[q]? = some x := by
  rw [Below.heap_alloc W o q (by have := (Array.getElem?_eq_some_iff.1 h).1; exact this)]
  exact h
theorem cell_of_block {W : World} {q : Nat} {u : Value} {t : TypeId} (h : W.heap[q]? = some (.cells #[u] t (0, 0))) : ∀ j v, [u][j]? = some v → W.cell? ((⟨q, 0, none⟩ : Addr).add j) = some v := by
  intro j v hj
  match j, hj with
  | 0, hj =>
    simp at hj
    subst hj
    rw [show (⟨q, 0, none⟩ : Addr).add 0 = ⟨q, 0, none⟩ by simp [Addr.add], cell_of_row W q 0 _ t (0, 0) h]
    rfl
/-- append to a row of the call's own, at the operation alone. -/
theorem oper_append_own {P : Program} {o : Oper} {a : Act} {K : Act → World → Prop} {Q : Exit → Act → World → Prop} {w : World} (s x : Operand) (t : TypeId)
    (ho : o.op = .call { callee := .builtin .append, args := #[s, x], argTypes := #[t, t] })
    (base : Nat) (e : TypeId) (i : TypeInfo) (z : Value) (size bytes : Nat) (ht : P.underlying t = some (.slice e)) (hi : P.info? e = some i) (hz : i.zero = some z)
    (hsize : i.size = size) (hby : i.bytes = bytes) (hzs : z.cells.size = size) (hsz : 0 < size)
    (v : Value) (n : Nat) (xs : List Value) (hs : a.eval s = v) (hown : w.ownsRow base e size v n xs)
    (ad : Addr) (m c : Nat) (news : List Value) (hx : a.eval x = .slice (some ad) m c) (hl : news.length = m * size) (hnews : ∀ j u, news[j]? = some u → w.cell? (ad.add j) = some u) (h1 : ∀ u ∈ news, u.oneCell' = true)
    (h63 : n + m ≤ maxLen) (hbytes : (n + m) * bytes ≤ 140737488355328) (hbase : base ≤ w.heap.size)
    (h : ∀ v' w', w'.ownsRow base e size v' (n + m) (xs ++ news) → w.grownBy w' v.ownBlock → K (a.put o.dst v') w') : Oper.wp P o a w K Q := by
  obtain ⟨v', w', hr, h2, h3, h4, h5⟩ := run_append_own_at (P := P) w base t o.type e i z size bytes ht hi hz hsize hby hzs hsz v n xs hown ad m c news hl hnews h1 h63 hbytes hbase
  unfold Oper.wp execOp
  simp only [ho, resolve, invoke, builtin, Sem.run_bind, Sem.run_pure, Result.andThen_ok, List.map_toArray, List.map_cons, List.map_nil, hs, hx, hr]
  simp only [Oper.upon]
  exact h v' w' h2 h3
/-- Join, of all volumes of one whole, in any order. -/
theorem join_vols {l : List Int} {S m : Nat} (hb : ∀ x ∈ l, 0 ≤ x ∧ x ≤ 255) (hn : l.length ≤ 8000) (hS : 512 ≤ S) (hm : cntOf l.length S = m) (A : Option Addr) (c : Nat) (P : List (List Int)) (W : World) (hR : RowsB W A c P) (hlen : P.length ≤ 100)
    (hsub : ∀ x ∈ P, x ∈ volsOf l S) (hsup : ∀ x ∈ volsOf l S, x ∈ P) : Calls Tryd.prog 13 #[.slice A P.length c] W (JPost W l 0) := by
  have hfit := fit_vols hb hn hS hsub hlen
  have hall := all_there hb hn hS hsup
  have hdd := dd_all hb hn hS hsup
  have hout := out_all hb hn hS hsub hsup
  have htake := out_take hb hn hS hsub hsup
  have hm16 := cnt_le l.length S hn hS
  have hm1 := cnt_pos l.length S
  rw [hm] at hfit hall hdd hout htake hm16 hm1
  have h0 : 0 < P.length := by
    obtain ⟨x, hx, _⟩ := hall 0 (by omega)
    exact List.length_pos_of_mem hx
  have := join_fine A c m P _ _ W hR hfit (by omega) h0 hall hdd (by rw [hout]) (by rw [hout]) (fun k hk => by rw [htake k hk, List.length_take]; omega)
  rwa [hout] at this
/-- Join and Missing, of all volumes but one. -/
theorem join_rest {l : List Int} {S m : Nat} (hb : ∀ x ∈ l, 0 ≤ x ∧ x ≤ 255) (hn : l.length ≤ 8000) (hS : 512 ≤ S) (hm : cntOf l.length S = m) (A : Option Addr) (c : Nat) (x : List Int) (T : List (List Int)) (W : World) (hR : RowsB W A c T) (hp : (x :: T).Perm (volsOf l S)) :
    Calls Tryd.prog 13 #[.slice A T.length c] W (JPost W [] 16) := by
  have hl : (x :: T).length = m := by rw [hp.length_eq]; unfold volsOf; rw [List.length_map, List.length_range, hm]
  have hm16 := cnt_le l.length S hn hS
  rw [List.length_cons] at hl
  have hfit := fit_vols hb hn hS (P := T) (fun y hy => hp.mem_iff.1 (List.mem_cons_of_mem _ hy)) (by omega)
  exact join_none A c T _ _ _ W hR hfit (.inr (dd_tail hb hn hS hp))
theorem miss_rest {l : List Int} {S m : Nat} (hb : ∀ x ∈ l, 0 ≤ x ∧ x ≤ 255) (hn : l.length ≤ 8000) (hS : 512 ≤ S) (hm : cntOf l.length S = m) (A : Option Addr) (c : Nat) (x : List Int) (T : List (List Int)) (W : World) (hR : RowsB W A c T) (hp : (x :: T).Perm (volsOf l S)) :
    ∃ i, i < m ∧ x = volAt l S m i ∧ Calls Tryd.prog 16 #[.slice A T.length c] W (MPost W (if T.length = 0 then [] else [(i : Int)])) := by
  have hl : (x :: T).length = m := by rw [hp.length_eq]; unfold volsOf; rw [List.length_map, List.length_range, hm]
  have hm16 := cnt_le l.length S hn hS
  rw [List.length_cons] at hl
  obtain ⟨i, hi, hx, hmiss⟩ := BackP.miss_tail hb hn hS hp
  rw [hm] at hi hx hmiss
  refine ⟨i, hi, hx, ?_⟩
  by_cases h0 : T.length = 0
  · obtain rfl : T = [] := List.eq_nil_of_length_eq_zero h0
    rw [if_pos h0]
    exact missing_ok A c 0 [] 0 0 W hR ⟨by simp, by simp, by simp, by simp, by simp, by simp, by simp, by simp, by simp⟩ (by omega) (fun _ => rfl)
  · rw [if_neg h0, ← hmiss]
    have hfit := fit_vols hb hn hS (P := T) (fun y hy => hp.mem_iff.1 (List.mem_cons_of_mem _ hy)) (by omega)
    rw [hm] at hfit
    exact missing_ok A c m T _ _ W hR hfit (by omega) (fun e => absurd e h0)
/-- What the second Join leaves. -/
def Cut16 (w4 : World) (l : List Int) (s15 s16 s17 : Value) (wx : World) : Prop := s16 = .int .i64 0 ∧ s17 = .int .u8 0 ∧ (∃ B6, Own B6 wx s15 l) ∧ Below w4.heap.size w4 wx
/-- What the loop that changes the order knows. -/
def BRel (w w2 : World) (m n3 : Nat) (L : List (List Int)) (g cap : Nat) (n' : Nat) (v10 : Value) (wr : World) : Prop := ∃ (i : Nat) (cs : List Value) (P : List (List Int)), v10 = .int .i64 i ∧ n' + i = n3 ∧ wr.ownsRow w2.heap.size 22 1 (.slice (some ⟨g, 0, none⟩) m cap) m cs ∧ PR w2 cs P ∧ P.Perm L ∧ Below w2.heap.size w2 wr
set_option maxHeartbeats 16000000 in
set_option maxRecDepth 100000 in
theorem volumeBack_calls (w : World) (A : Option Addr) (c : Nat) (l : List Int) (hr : Kd.C (Kd.int .u8) w A l.length l) (hno : A = none → l.length = 0 ∧ c = 0) (hc : l.length ≤ c) (y : l.length * 1 ≤ 140737488351232) (hw : ∀ x ∈ l, (Lit.int .u8 x).wf = true) (k : Int) (wk : (Lit.int .i64 k).wf = true)
    (A3 : Option Addr) (c3 : Nat) (os : List Int) (hr3 : Kd.C (Kd.int .i64) w A3 os.length os) (hno3 : A3 = none → os.length = 0 ∧ c3 = 0) (hc3 : os.length ≤ c3) (y3 : os.length * 8 ≤ 140737488351232) (hw3 : ∀ x ∈ os, (Lit.int .i64 x).wf = true) :
    Calls Tryd.prog 5 #[.slice A l.length c, .int .i64 k, .slice A3 os.length c3] w fun e w' => e = .returned (.bool true) ∧ Below w.heap.size w w' := by
  clear hno hno3
  have hb : ∀ x ∈ l, 0 ≤ x ∧ x ≤ 255 := fun x hx => by have h := hw x hx; simp [Lit.wf, IntKind.min, IntKind.max, IntKind.signed, IntKind.bits] at h; omega
  obtain ⟨n, hn⟩ : ∃ n, l.length = n := ⟨_, rfl⟩
  obtain ⟨n3, hn3⟩ : ∃ n3, os.length = n3 := ⟨_, rfl⟩
  have hn9 : n ≤ 9223372036854775807 := by omega
  have hn39 : n3 ≤ 9223372036854775807 := by omega
  rw [hn] at hr hc ⊢
  rw [hn3] at hr3 hc3 ⊢
  have HN := Aside0.mk hn
  have HN3 := Aside0.mk hn3
  have HR := Aside0.mk hr
  have HR3 := Aside0.mk hr3
  have HY := Aside0.mk hb
  have HW3 := Aside0.mk hw3
  clear hw hr hb hn wk hr3 hw3 hn3 y y3
  by_cases hbig : 8000 < n
  · go_enter Tryd.func5, Tryd.ntmps5
    go_wp2_with fail
    refine (alive_calls w).mono ?_
    rintro e w1 ⟨rfl, hb1⟩
    go_wp2_with fail
    go_ret
    exact ⟨rfl, hb1⟩
  by_cases hbig3 : 40 < n3
  · go_enter Tryd.func5, Tryd.ntmps5
    go_wp2_with fail
    refine (alive_calls w).mono ?_
    rintro e w1 ⟨rfl, hb1⟩
    go_wp2_with fail
    go_ret
    exact ⟨rfl, hb1⟩
  by_cases hk : k < 1 ∨ 1048576 < k
  · go_enter Tryd.func5, Tryd.ntmps5
    go_wp2_with fail
    refine (alive_calls w).mono ?_
    rintro e w1 ⟨rfl, hb1⟩
    have HB1 := Aside0.mk hb1
    clear hb1
    go_wp2_with fail
    refine (split_no A n c k w1 hk).mono ?_
    rintro e w2 ⟨A2, c2, rfl, _, hb2⟩
    have HB2 := Aside0.mk (HB1.out.trans (hb2.mono HB1.out.size))
    clear hb2
    rw [show ([] : List (List Int)).length = 0 from rfl]
    by_cases hk1 : k < 1
    · clear hk
      go_wp2_with fail
      go_ret
      exact ⟨rfl, HB2.out⟩
    · have hk2 : 1048576 < k := by omega
      clear hk
      go_wp2_with fail
      go_ret
      exact ⟨rfl, HB2.out⟩
  · obtain ⟨q, rfl⟩ : ∃ q : Nat, k = (q : Int) := Int.eq_ofNat_of_zero_le (by omega)
    obtain ⟨S, hS⟩ : ∃ S, S = q * 512 := ⟨_, rfl⟩
    have hq1 : 1 ≤ q := by omega
    have hq2 : q ≤ 1048576 := by omega
    have hS1 : 512 ≤ S := by omega
    have hn8 : n ≤ 8000 := by omega
    obtain ⟨m, hm⟩ : ∃ m, m = cntOf n S := ⟨_, rfl⟩
    have HM := Aside0.mk hm
    have hm16 : m ≤ 16 := by rw [hm]; exact cnt_le n S hn8 hS1
    have hm1 : 1 ≤ m := by rw [hm]; exact cnt_pos n S
    have HVL := Aside0.mk (show (volsOf l S).length = m by unfold volsOf; rw [List.length_map, List.length_range, HN.out, ← HM.out])
    have HSP := Aside0.mk (fun (W : World) (hW : Below w.heap.size w W) => split_calls A n c l q S W (Kd.C_below HR.out hW) hc HY.out hn8 hq1 hq2 hS)
    obtain ⟨i0, hi0, hz0, hz1, hz2⟩ := info_parts sliceInfo
    have HI0 := Aside0.mk hi0
    have HZ := Aside0.mk (And.intro hz0 (And.intro hz1 hz2))
    clear hS hk hm hi0 hz0 hz1 hz2
    go_enter Tryd.func5, Tryd.ntmps5
    go_wp2_with fail
    refine (alive_calls w).mono ?_
    rintro e w1 ⟨rfl, hb1⟩
    have HB1 := Aside0.mk hb1
    clear hb1
    go_wp2_with fail
    refine (HSP.out w1 HB1.out).mono ?_
    rintro e w2 ⟨A2, c2, rfl, hR2, hb2⟩
    have HB2 := Aside0.mk (HB1.out.trans (hb2.mono HB1.out.size))
    have HR2 := Aside0.mk hR2
    clear hb2 hR2 HSP
    rw [HVL.out]
    obtain ⟨a2, rfl⟩ := HR2.out.2.2.1 (by rw [HVL.out]; omega)
    obtain ⟨cs0, hPR0, hone0, hcell0⟩ := rowsB_PR HR2.out
    have hcl0 : cs0.length = m := by rw [hPR0.1, HVL.out]
    have HPR0 := Aside0.mk hPR0
    have HONE0 := Aside0.mk hone0
    have HCELL0 := Aside0.mk hcell0
    have HCL0 := Aside0.mk hcl0
    have how : (w2.alloc (.cells #[] 22)).ownsRow w2.heap.size 22 1 (.slice (some ⟨w2.heap.size, 0, none⟩) 0 0) 0 ([] : List Value) := ⟨rfl, .inr ⟨w2.heap.size, 0, #[], rfl, Nat.le_refl _, heap_alloc_new w2 _, Nat.le_refl _, Nat.zero_le _, rfl, rfl⟩⟩
    have HOW := Aside0.mk how
    have HBA := Aside0.mk ((Below.refl w2.heap.size w2).alloc (Nat.le_refl _) (.cells #[] 22))
    clear hPR0 hone0 hcell0 hcl0 how
    go_wp2_with (at_builtin; refine wpList_append_own_at (w := w2.alloc (.cells #[] 22)) rfl (.tmp 53) (.tmp 54) 24 rfl w2.heap.size 22 i0 _ 1 24 Tryd.underlying24 HI0.out HZ.out.1 HZ.out.2.1 HZ.out.2.2 rfl (by decide) (.slice (some ⟨w2.heap.size, 0, none⟩) 0 0) 0 [] rfl HOW.out a2 m c2 cs0 rfl (by rw [HCL0.out, Nat.mul_one]) (fun j u hj => pw_cell_below HBA.out (HCELL0.out j u hj)) HONE0.out (by simp only [maxLen]; omega) (by omega) (by simp) ?_; intro v9 w3 hown3 hgrow3 hnil3 _)
    obtain ⟨g, cap, rfl⟩ : ∃ g cap, v9 = .slice (some ⟨g, 0, none⟩) (0 + m) cap := by
      rcases hown3.2 with ⟨_, h0⟩ | ⟨g, cap, _, h0, _⟩
      · omega
      · exact ⟨g, cap, h0⟩
    rw [Nat.zero_add] at hown3
    rw [Nat.zero_add]
    have HO3 := Aside0.mk (show w3.ownsRow w2.heap.size 22 1 (.slice (some ⟨g, 0, none⟩) m cap) m cs0 from hown3)
    have HB3 := Aside0.mk (HBA.out.grown hgrow3 (by simp) (own_base HOW.out))
    have hcapm : m ≤ cap ∧ cap ≤ 9223372036854775807 := by
      rcases hown3.2 with ⟨h0, _⟩ | ⟨g', cap', cur', h0, _, _, h1, h2, _⟩
      · cases h0
      · injection h0 with _ _ h0
        subst h0
        exact ⟨h1, h2⟩
    have hcap1 := hcapm.1
    have hcap2 := hcapm.2
    clear hown3 hgrow3 hnil3 hcapm
    go_loopg [10] n3 (fun n' v10 wr => BRel w w2 m n3 (volsOf l S) g cap n' v10 wr)
    case atStart => exact ⟨0, cs0, volsOf l S, rfl, by omega, HO3.out, HPR0.out, List.Perm.refl _, HB3.out⟩
    case round =>
      obtain ⟨i, cs, P, rfl, hni, hO, hPR, hPm, hB⟩ := hrel
      have HNI := Aside0.mk hni
      have HO := Aside0.mk hO
      have HPR := Aside0.mk hPR
      have HPM := Aside0.mk hPm
      have HB := Aside0.mk hB
      have HBw := Aside0.mk (HB2.out.trans (hB.mono HB2.out.size))
      have HPL := Aside0.mk (show P.length = m by rw [hPm.length_eq, HVL.out])
      have HCL := Aside0.mk (show cs.length = m by rw [hPR.1, HPL.out])
      clear hni hO hPR hPm hB HO3 HOW HBA HB3
      by_cases hlt : i < n3
      · obtain ⟨ad3, hA3, hcell3⟩ := Kd.at_int (Kd.C_below HR3.out HBw.out) (i : Int) (by omega) (by omega)
        subst hA3
        rw [Int.toNat_natCast] at hcell3
        have hmem : rd os (i : Int) ∈ os := by
          unfold rd
          rw [Int.toNat_natCast]
          have : i < os.length := by rw [HN3.out]; exact hlt
          rw [List.getD_eq_getElem?_getD, List.getElem?_eq_getElem this]
          exact List.getElem_mem this
        have hkk := NumP.wf_i64_bd (HW3.out _ hmem)
        clear hmem
        generalize hkd : rd os (i : Int) = kk at hcell3 hkk
        have HKD := Aside0.mk hkd
        clear hkd
        obtain ⟨g1, rfl⟩ : ∃ g1, gk = g1 + 1 := ⟨gk - 1, by have := HNI.out; omega⟩
        by_cases hin : 0 ≤ kk ∧ kk < (m : Int)
        · obtain ⟨kn, rfl⟩ : ∃ kn : Nat, kk = (kn : Int) := Int.eq_ofNat_of_zero_le hin.1
          have hkn : kn < m := by omega
          obtain ⟨c0, hc0⟩ : ∃ u, cs[0]'(by rw [HCL.out]; omega) = u := ⟨_, rfl⟩
          obtain ⟨ck, hck⟩ : ∃ u, cs[kn]'(by rw [HCL.out]; omega) = u := ⟨_, rfl⟩
          obtain ⟨A0, N0, C0, rfl⟩ : ∃ A n c, c0 = .slice A n c := by
            obtain ⟨Ar, Cr, e, _⟩ := HPR.out.2 0 (by rw [HCL.out]; omega) (by rw [HPL.out]; omega)
            exact ⟨Ar, _, Cr, hc0.symm.trans e⟩
          obtain ⟨Ak, Nk, Ck, rfl⟩ : ∃ A n c, ck = .slice A n c := by
            obtain ⟨Ar, Cr, e, _⟩ := HPR.out.2 kn (by rw [HCL.out]; exact hkn) (by rw [HPL.out]; exact hkn)
            exact ⟨Ar, _, Cr, hck.symm.trans e⟩
          have hcell0 : wr.cell? ⟨g, 0, none⟩ = some (.slice A0 N0 C0) := by rw [HO.out.cellAt 0 (by omega), List.getElem?_eq_getElem (by rw [HCL.out]; omega), hc0]
          have hcellk : wr.cell? ⟨g, kn, none⟩ = some (.slice Ak Nk Ck) := by rw [HO.out.cellAt kn (by omega), List.getElem?_eq_getElem (by rw [HCL.out]; omega), hck]
          have hfr0 : wr.frozen? ⟨g, 0, none⟩ = false := HO.out.frozenAt 0
          have hfrk : wr.frozen? ⟨g, kn, none⟩ = false := HO.out.frozenAt kn
          have HC0 := Aside0.mk hc0
          have HCK := Aside0.mk hck
          have HO1 := Aside0.mk (HO.out.stored 0 (.slice Ak Nk Ck)).1
          have hcell2 : ((wr.setCell ⟨g, 0, none⟩ (.slice Ak Nk Ck)).drew).cell? ⟨g, kn, none⟩ = some (.slice Ak Nk Ck) := by
            refine (HO1.out.cellAt kn (by omega)).trans ?_
            by_cases e0 : 0 = kn
            · subst e0
              rw [List.getElem?_set_self (by rw [HCL.out]; omega)]
            · rw [List.getElem?_set_ne e0, List.getElem?_eq_getElem (by rw [HCL.out]; omega), hck]
          have hfr2 : ((wr.setCell ⟨g, 0, none⟩ (.slice Ak Nk Ck)).drew).frozen? ⟨g, kn, none⟩ = false := HO1.out.frozenAt kn
          have hm0 : 0 < m := by omega
          have HSW := Aside0.mk (own_swap (HO.out.drew) kn (.slice Ak Nk Ck) (.slice A0 N0 C0))
          have hps := HPR.out.swap kn (by rw [HCL.out]; exact hkn) (by rw [HPL.out]; exact hkn) (by rw [HCL.out]; omega) (by rw [HPL.out]; omega)
          rw [hc0, hck] at hps
          have HPS := Aside0.mk hps
          clear hps
          have HPP := Aside0.mk ((swap_perm P kn (by rw [HPL.out]; exact hkn) (by rw [HPL.out]; omega)).trans HPM.out)
          have hgb : w2.heap.size ≤ g := (HO.out.lt g rfl).1
          have HBS := Aside0.mk (((HB.out.drew).setCell (p := ⟨g, 0, none⟩) hgb (.slice Ak Nk Ck)).setCell (p := ⟨g, kn, none⟩) hgb (.slice A0 N0 C0))
          clear hc0 hck hgb hin
          go_wp2_with fail
          go_region
          clear hcell0 hcellk hfr0 hfrk hcell2 hfr2
          go_wp2_with fail
          go_roundg g1
          case measure => exact Nat.lt_succ_self _
          case rel => exact ⟨i + 1, _, _, by go_num, by have := HNI.out; omega, HSW.out, HPS.out, HPP.out, HBS.out⟩
        · have hin' : (decide (0 ≤ kk) && decide (kk < (m : Int))) = false := by simp only [Bool.and_eq_false_iff, decide_eq_false_iff_not]; omega
          clear hin
          by_cases h0 : 0 ≤ kk
          · have h1 : ¬ kk < (m : Int) := by simp [h0] at hin'; omega
            go_wp2_with fail
            go_roundg g1
            case measure => exact Nat.lt_succ_self _
            case rel => exact ⟨i + 1, cs, P, by go_num, by have := HNI.out; omega, HO.out, HPR.out, HPM.out, HB.out⟩
          · go_wp2_with fail
            go_roundg g1
            case measure => exact Nat.lt_succ_self _
            case rel => exact ⟨i + 1, cs, P, by go_num, by have := HNI.out; omega, HO.out, HPR.out, HPM.out, HB.out⟩
      · have hin3 : i = n3 := by have := HNI.out; omega
        obtain ⟨Am, cm, e, hRP⟩ := HPR.out.rows (B := 0) (by rw [HPL.out]; exact HO.out) HB.out
        injection e with e1 e2 e3
        subst e1 e3
        clear e2
        have HRP := Aside0.mk hRP
        have hP := HPM.out
        have HSUB := Aside0.mk (fun x hx => hP.mem_iff.1 hx : ∀ x ∈ P, x ∈ volsOf l S)
        have HSUP := Aside0.mk (fun x hx => hP.mem_iff.2 hx : ∀ x ∈ volsOf l S, x ∈ P)
        have hnl : l.length ≤ 8000 := by rw [HN.out]; exact hn8
        have hcnt : cntOf l.length S = m := by rw [HN.out, ← HM.out]
        have HJ := Aside0.mk (fun (A : Option Addr) (c : Nat) (P : List (List Int)) (W : World) (hR : RowsB W A c P) (hlen : P.length ≤ 100) (hsub : ∀ x ∈ P, x ∈ volsOf l S) (hsup : ∀ x ∈ volsOf l S, x ∈ P) => join_vols HY.out hnl hS1 hcnt A c P W hR hlen hsub hsup)
        have HJR := Aside0.mk (fun (A : Option Addr) (c : Nat) (x : List Int) (T : List (List Int)) (W : World) (hR : RowsB W A c T) (hp : (x :: T).Perm (volsOf l S)) => join_rest HY.out hnl hS1 hcnt A c x T W hR hp)
        have HMR := Aside0.mk (fun (A : Option Addr) (c : Nat) (x : List Int) (T : List (List Int)) (W : World) (hR : RowsB W A c T) (hp : (x :: T).Perm (volsOf l S)) => miss_rest HY.out hnl hS1 hcnt A c x T W hR hp)
        have HJ1 := Aside0.mk (HJ.out (some ⟨g, 0, none⟩) cap P wr HRP.out (by rw [HPL.out]; omega) HSUB.out HSUP.out)
        rw [HPL.out] at HJ1
        clear hP hnl hcnt
        go_wp2_with fail
        refine HJ1.out.mono ?_
        rintro e w4 ⟨v12, rfl, hO12, hb4⟩
        have HO12 := Aside0.mk hO12
        have HB4 := Aside0.mk hb4
        have HB4w := Aside0.mk (HBw.out.trans (hb4.mono HBw.out.size))
        have HB42 := Aside0.mk (HB.out.trans (hb4.mono HB.out.size))
        obtain ⟨hh, hhd⟩ : ∃ hh, hh = m / 2 := ⟨_, rfl⟩
        obtain ⟨a2', Ah, Ch, ha2, hch, hlh, hCh⟩ := HR2.out.at_ hh (by rw [HVL.out]; omega)
        injection ha2 with ha2
        subst ha2
        obtain ⟨xh, hxh⟩ : ∃ x, (volsOf l S)[hh]'(by rw [HVL.out]; omega) = x := ⟨_, rfl⟩
        rw [hxh] at hch hlh hCh
        have HXH := Aside0.mk (show xh ∈ volsOf l S by rw [← hxh]; exact List.getElem_mem _)
        have HPS := Aside0.mk (HPR.out.snoc Ah Ch xh hlh hCh)
        have HCS := Aside0.mk (fun (j : Nat) (u : Value) (hj : cs[j]? = some u) => pw_cell_below HB4.out (HO.out.cells (g := g) rfl j u hj))
        have HONE := Aside0.mk (show ∀ u ∈ cs, u.oneCell' = true by
          intro u hu
          obtain ⟨r, hr, rfl⟩ := List.getElem_of_mem hu
          obtain ⟨Ar, Cr, e, _⟩ := HPR.out.2 r hr (by rw [HPL.out, ← HCL.out]; exact hr)
          rw [e]
          rfl)
        have hch4 := pw_cell_below HB42.out hch
        have HHS := Aside0.mk (show (Hid (Below w4.heap.size w4 w4.drew) ∧ w4.drew.cell? (a2.add hh) = some (.slice Ah xh.length Ch)) from ⟨Lib.hid (Below.refl w4.heap.size w4).drew, hch4⟩)
        have HKP := Aside0.mk (fun (W W' : World) (hS : Hid (Below w4.heap.size w4 W) ∧ W.cell? (a2.add hh) = some (.slice Ah xh.length Ch)) (hb : Below w4.heap.size w4 W') => (⟨Lib.hid hb, pw_cell_below hb hch4⟩ : Hid (Below w4.heap.size w4 W') ∧ W'.cell? (a2.add hh) = some (.slice Ah xh.length Ch)))
        have hdiv : (m : Int) / 2 = (hh : Int) := by omega
        have htdiv : (m : Int).tdiv 2 = (hh : Int) := by rw [Int.tdiv_eq_ediv_of_nonneg (by omega)]; omega
        have hm2 : hh < m := by omega
        have hwh : IntKind.i64.wrap (hh : Int) = (hh : Int) := (i64_w _).trans (IntWalk.wrap64_in _ ⟨by omega, by omega⟩)
        clear hhd hO12 hb4 hch hCh hxh HJ1 hin3
        go_upto_region 16 with (fail)
        go_cut [15, 16, 17] from 92 to 107 (fun s15 s16 s17 wx => Cut16 w4 l s15 s16 s17 wx)
        case first =>
          refine wp_region_held_drew (S := (fun W : World => Hid (Below w4.heap.size w4 W) ∧ W.cell? (a2.add hh) = some (.slice Ah xh.length Ch))) (by kernel_rfl) ?_ (fun hHeld => ?_)
          · exact HHS.out
          refine wpAnyH_take (i := 1) (v := ?_) rfl (by kernel_rfl) (by kernel_rfl) (by kernel_rfl) (fun _ _ _ h => h) (Or.inl ⟨by rfl, ?_⟩) (by assumption) ?_; rotate_left; focus (intro w hSw; (try dsimp only at hSw); simp only [List.getElem_toArray, List.getElem_cons_succ, List.getElem_cons_zero]; go_simp; (try (with_reducible rfl)))
          simp only [List.getElem_toArray, List.getElem_cons_succ, List.getElem_cons_zero, Act.put, List.setIfInBounds_toArray, List.set_cons_zero, List.set_cons_succ]
          refine wpAnyH_take (i := 3) (v := ?_) rfl (by kernel_rfl) (by kernel_rfl) (by kernel_rfl) (fun _ _ _ h => h) (Or.inl ⟨by rfl, ?_⟩) (by assumption) ?_; rotate_left; focus (intro w hSw; (try dsimp only at hSw); simp only [List.getElem_toArray, List.getElem_cons_succ, List.getElem_cons_zero]; go_simp; (try (with_reducible rfl)))
          simp only [List.getElem_toArray, List.getElem_cons_succ, List.getElem_cons_zero, Act.put, List.setIfInBounds_toArray, List.set_cons_zero, List.set_cons_succ]
          refine wpAnyH_take (i := 4) (v := ?_) rfl (by kernel_rfl) (by kernel_rfl) (by kernel_rfl) (fun _ _ _ h => h) (Or.inl ⟨by rfl, ?_⟩) (by assumption) ?_; rotate_left; focus (intro w hSw; (try dsimp only at hSw); simp only [List.getElem_toArray, List.getElem_cons_succ, List.getElem_cons_zero]; go_simp; (try (with_reducible rfl)))
          simp only [List.getElem_toArray, List.getElem_cons_succ, List.getElem_cons_zero, Act.put, List.setIfInBounds_toArray, List.set_cons_zero, List.set_cons_succ]
          refine wpAnyH_take (i := 5) (v := ?_) rfl (by kernel_rfl) (by kernel_rfl) (by kernel_rfl) (fun _ _ _ h => h) (Or.inl ⟨by rfl, ?_⟩) (by assumption) ?_; rotate_left; focus (intro w hSw; (try dsimp only at hSw); simp only [List.getElem_toArray, List.getElem_cons_succ, List.getElem_cons_zero]; go_simp; (try (with_reducible rfl)))
          simp only [List.getElem_toArray, List.getElem_cons_succ, List.getElem_cons_zero, Act.put, List.setIfInBounds_toArray, List.set_cons_zero, List.set_cons_succ]
          refine wpAnyH_take (i := 6) (v := ?_) rfl (by kernel_rfl) (by kernel_rfl) (by kernel_rfl) (fun _ _ _ h => h) (Or.inl ⟨by rfl, ?_⟩) (by assumption) ?_; rotate_left; focus (intro w hSw; (try dsimp only at hSw); simp only [List.getElem_toArray, List.getElem_cons_succ, List.getElem_cons_zero]; go_simp; (try (with_reducible rfl)))
          simp only [List.getElem_toArray, List.getElem_cons_succ, List.getElem_cons_zero, Act.put, List.setIfInBounds_toArray, List.set_cons_zero, List.set_cons_succ]
          refine wpAnyH_take (i := 7) (v := ?_) rfl (by kernel_rfl) (by kernel_rfl) (by kernel_rfl) (fun _ _ _ h => h) (Or.inl ⟨by rfl, ?_⟩) (by assumption) ?_; rotate_left; focus (intro w hSw; (try dsimp only at hSw); simp only [List.getElem_toArray, List.getElem_cons_succ, List.getElem_cons_zero]; go_simp; (try (with_reducible rfl)))
          simp only [List.getElem_toArray, List.getElem_cons_succ, List.getElem_cons_zero, Act.put, List.setIfInBounds_toArray, List.set_cons_zero, List.set_cons_succ]
          refine wpAnyH_take (i := 8) (v := ?_) rfl (by kernel_rfl) (by kernel_rfl) (by kernel_rfl) (fun _ _ _ h => h) (Or.inl ⟨by rfl, ?_⟩) (by assumption) ?_; rotate_left; focus (intro w hSw; (try dsimp only at hSw); simp only [List.getElem_toArray, List.getElem_cons_succ, List.getElem_cons_zero]; go_simp; (try (with_reducible rfl)))
          simp only [List.getElem_toArray, List.getElem_cons_succ, List.getElem_cons_zero, Act.put, List.setIfInBounds_toArray, List.set_cons_zero, List.set_cons_succ]
          refine wpAnyH_ready (rs := [0, 9]) (by kernel_rfl) (by simp) ?_
          refine AllReadyH.cons rfl (fun K hK => ?_) (AllReadyH.cons rfl (fun K hK => ?_) (AllReadyH.nil))
          · have hB1 := ((Below.refl w4.heap.size w4).drew).alloc ((Below.refl w4.heap.size w4).drew).size (.cells #[] 22)
            have HB_1 := Aside0.mk hB1
            clear hB1
            have HO_1 := Aside0.mk (show (w4.drew.alloc (.cells #[] 22)).ownsRow w4.heap.size 22 1 (.slice (some ⟨w4.drew.heap.size, 0, none⟩) 0 0) 0 ([] : List Value) from ⟨rfl, .inr ⟨w4.drew.heap.size, 0, #[], rfl, ((Below.refl w4.heap.size w4).drew).size, heap_alloc_new w4.drew _, Nat.le_refl _, Nat.zero_le _, rfl, rfl⟩⟩)
            go_simp
            refine hK.out _ _ (HKP.out _ _ (by assumption) HB_1.out) (fun hHeld => ?_)
            clear hK K
            try simp only [List.getElem_toArray, List.getElem_cons_succ, List.getElem_cons_zero, Act.put, List.setIfInBounds_toArray, List.set_cons_zero, List.set_cons_succ]
            refine wpAnyH_ready (rs := [2, 9]) (by kernel_rfl) (by simp) ?_
            refine AllReadyH.cons rfl (fun K hK => ?_) (AllReadyH.cons rfl (fun K hK => ?_) (AllReadyH.nil))
            · rw [if_pos (by rfl)]
              refine oper_append_own (.tmp 93) (.tmp 94) 24 rfl w4.heap.size 22 i0 _ 1 24 Tryd.underlying24 HI0.out HZ.out.1 HZ.out.2.1 HZ.out.2.2 rfl (by decide) (.slice (some ⟨w4.drew.heap.size, 0, none⟩) 0 0) 0 [] (by go_simp) HO_1.out ⟨g, 0, none⟩ m cap cs rfl (by rw [HCL.out, Nat.mul_one]) (fun j u hj => pw_cell_below HB_1.out (HCS.out j u hj)) HONE.out (by simp only [maxLen]; omega) (by omega) (HB_1.out).size (fun v95 w5 hown5 hgrow5 => ?_)
              rw [Nat.zero_add] at hown5
              have HO_2 := Aside0.mk (show w5.ownsRow w4.heap.size 22 1 v95 m cs from hown5)
              have HB_2 := Aside0.mk ((HB_1.out).grown hgrow5 (HB_1.out).size (own_base HO_1.out))
              clear hown5 hgrow5
              refine hK.out _ _ (HKP.out _ _ (by assumption) HB_2.out) (fun hHeld => ?_)
              clear hK K
              try simp only [List.getElem_toArray, List.getElem_cons_succ, List.getElem_cons_zero, Act.put, List.setIfInBounds_toArray, List.set_cons_zero, List.set_cons_succ]
              refine wpAnyH_ready (rs := [9]) (by kernel_rfl) (by simp) ?_
              refine AllReadyH.cons rfl (fun K hK => ?_) (AllReadyH.nil)
              have hB3 := (HB_2.out).alloc (HB_2.out).size (.cells #[(.slice Ah xh.length Ch)] 22)
              have HB_3 := Aside0.mk hB3
              clear hB3
              have HH_3 := Aside0.mk (heap_alloc_new w5 (.cells #[(.slice Ah xh.length Ch)] 22))
              have HO_3 := Aside0.mk ((HO_2.out).alloc (.cells #[(.slice Ah xh.length Ch)] 22))
              go_simp
              refine hK.out _ _ (HKP.out _ _ (by assumption) HB_3.out) (fun hHeld => ?_)
              clear hK K
              try simp only [List.getElem_toArray, List.getElem_cons_succ, List.getElem_cons_zero, Act.put, List.setIfInBounds_toArray, List.set_cons_zero, List.set_cons_succ]
              refine wpAnyH_ready (rs := [10]) (by kernel_rfl) (by simp) ?_
              refine AllReadyH.cons rfl (fun K hK => ?_) (AllReadyH.nil)
              rw [if_pos (by rfl)]
              refine oper_append_own (.tmp 95) (.tmp 102) 24 rfl w4.heap.size 22 i0 _ 1 24 Tryd.underlying24 HI0.out HZ.out.1 HZ.out.2.1 HZ.out.2.2 rfl (by decide) _ m cs rfl HO_3.out ⟨w5.heap.size, 0, none⟩ 1 1 [(.slice Ah xh.length Ch)] (by go_simp) rfl (cell_of_block HH_3.out) (by intro u hu; rw [List.mem_singleton] at hu; subst hu; rfl) (by simp only [maxLen]; omega) (by omega) (HB_3.out).size (fun v103 w6 hown6 hgrow6 => ?_)
              have HO6 := Aside0.mk (show w6.ownsRow w4.heap.size 22 1 v103 (m + 1) (cs ++ [(.slice Ah xh.length Ch)]) from hown6)
              have HB6 := Aside0.mk ((HB_3.out).grown hgrow6 (HB_3.out).size (own_base HO_3.out))
              clear hown6 hgrow6
              refine hK.out _ _ (HKP.out _ _ (by assumption) HB6.out) (fun hHeld => ?_)
              clear hK K
              try simp only [List.getElem_toArray, List.getElem_cons_succ, List.getElem_cons_zero, Act.put, List.setIfInBounds_toArray, List.set_cons_zero, List.set_cons_succ]
              obtain ⟨A6, c6, e6, hR6⟩ := HPS.out.rows (B := 0) (show w6.ownsRow w4.heap.size 22 1 v103 (P ++ [xh]).length _ by rw [List.length_append, HPL.out]; exact HO6.out) (HB42.out.trans (HB6.out.mono HB42.out.size))
              have hl6 : (P ++ [xh]).length = m + 1 := by rw [List.length_append, HPL.out, List.length_singleton]
              rw [hl6] at e6
              subst e6
              have hJ2 := (HJ.out A6 c6 (P ++ [xh]) w6 hR6 (by rw [List.length_append, HPL.out, List.length_singleton]; omega) (fun x hx => by rcases List.mem_append.1 hx with h | h; exact HSUB.out x h; rw [List.mem_singleton] at h; rw [h]; exact HXH.out) (fun x hx => List.mem_append_left _ (HSUP.out x hx)))
              rw [hl6] at hJ2
              have HJ2 := Aside0.mk hJ2
              clear hR6 hl6 hJ2
              refine wpAnyH_ready (rs := [11]) (by kernel_rfl) (by simp) ?_
              refine AllReadyH.cons rfl (fun K hK => ?_) AllReadyH.nil
              go_simp
              (with_reducible refine HJ2.out.mono ?_)
              rintro e w7 ⟨v15, rfl, hO15, hb7⟩
              have HO15 := Aside0.mk hO15
              have HB7 := Aside0.mk (HB6.out.trans (hb7.mono HB6.out.size))
              clear hO15 hb7
              refine hK.out _ _ (HKP.out _ _ (by assumption) HB7.out) (fun hHeld => ?_)
              clear hK K
              try simp only [List.getElem_toArray, List.getElem_cons_succ, List.getElem_cons_zero, Act.put, List.setIfInBounds_toArray, List.set_cons_zero, List.set_cons_succ]
              refine wpAnyH_take (i := 12) (v := ?_) rfl (by kernel_rfl) (by kernel_rfl) (by kernel_rfl) (fun _ _ _ h => h) (Or.inl ⟨by rfl, ?_⟩) (by assumption) ?_; rotate_left; focus (intro w hSw; (try dsimp only at hSw); simp only [List.getElem_toArray, List.getElem_cons_succ, List.getElem_cons_zero]; go_simp; (try (with_reducible rfl)))
              simp only [List.getElem_toArray, List.getElem_cons_succ, List.getElem_cons_zero, Act.put, List.setIfInBounds_toArray, List.set_cons_zero, List.set_cons_succ]
              refine wpAnyH_take (i := 13) (v := ?_) rfl (by kernel_rfl) (by kernel_rfl) (by kernel_rfl) (fun _ _ _ h => h) (Or.inl ⟨by rfl, ?_⟩) (by assumption) ?_; rotate_left; focus (intro w hSw; (try dsimp only at hSw); simp only [List.getElem_toArray, List.getElem_cons_succ, List.getElem_cons_zero]; go_simp; (try (with_reducible rfl)))
              simp only [List.getElem_toArray, List.getElem_cons_succ, List.getElem_cons_zero, Act.put, List.setIfInBounds_toArray, List.set_cons_zero, List.set_cons_succ]
              refine wpAnyH_take (i := 14) (v := ?_) rfl (by kernel_rfl) (by kernel_rfl) (by kernel_rfl) (fun _ _ _ h => h) (Or.inl ⟨by rfl, ?_⟩) (by assumption) ?_; rotate_left; focus (intro w hSw; (try dsimp only at hSw); simp only [List.getElem_toArray, List.getElem_cons_succ, List.getElem_cons_zero]; go_simp; (try (with_reducible rfl)))
              simp only [List.getElem_toArray, List.getElem_cons_succ, List.getElem_cons_zero, Act.put, List.setIfInBounds_toArray, List.set_cons_zero, List.set_cons_succ]
              refine wpAnyH_take (i := 15) (v := ?_) rfl (by kernel_rfl) (by kernel_rfl) (by kernel_rfl) (fun _ _ _ h => h) (Or.inl ⟨by rfl, ?_⟩) (by assumption) ?_; rotate_left; focus (intro w hSw; (try dsimp only at hSw); simp only [List.getElem_toArray, List.getElem_cons_succ, List.getElem_cons_zero]; go_simp; (try (with_reducible rfl)))
              simp only [List.getElem_toArray, List.getElem_cons_succ, List.getElem_cons_zero, Act.put, List.setIfInBounds_toArray, List.set_cons_zero, List.set_cons_succ]
              refine wpAnyH_take (i := 16) (v := ?_) rfl (by kernel_rfl) (by kernel_rfl) (by kernel_rfl) (fun _ _ _ h => h) (Or.inl ⟨by rfl, ?_⟩) (by assumption) ?_; rotate_left; focus (intro w hSw; (try dsimp only at hSw); simp only [List.getElem_toArray, List.getElem_cons_succ, List.getElem_cons_zero]; go_simp; (try (with_reducible rfl)))
              simp only [List.getElem_toArray, List.getElem_cons_succ, List.getElem_cons_zero, Act.put, List.setIfInBounds_toArray, List.set_cons_zero, List.set_cons_succ]
              refine wpAnyH_take (i := 17) (v := ?_) rfl (by kernel_rfl) (by kernel_rfl) (by kernel_rfl) (fun _ _ _ h => h) (Or.inl ⟨by rfl, ?_⟩) (by assumption) ?_; rotate_left; focus (intro w hSw; (try dsimp only at hSw); simp only [List.getElem_toArray, List.getElem_cons_succ, List.getElem_cons_zero]; go_simp; (try (with_reducible rfl)))
              simp only [List.getElem_toArray, List.getElem_cons_succ, List.getElem_cons_zero, Act.put, List.setIfInBounds_toArray, List.set_cons_zero, List.set_cons_succ]
              refine wpAnyH_take (i := 18) (v := ?_) rfl (by kernel_rfl) (by kernel_rfl) (by kernel_rfl) (fun _ _ _ h => h) (Or.inl ⟨by rfl, ?_⟩) (by assumption) ?_; rotate_left; focus (intro w hSw; (try dsimp only at hSw); simp only [List.getElem_toArray, List.getElem_cons_succ, List.getElem_cons_zero]; go_simp; (try (with_reducible rfl)))
              simp only [List.getElem_toArray, List.getElem_cons_succ, List.getElem_cons_zero, Act.put, List.setIfInBounds_toArray, List.set_cons_zero, List.set_cons_succ]
              refine wpAnyH_done (by kernel_rfl) ?_ _
              go_wp2_with fail
              go_meet
              exact ⟨rfl, rfl, ⟨_, HO15.out⟩, HB7.out⟩
            · have hB4 := (HB_1.out).alloc (HB_1.out).size (.cells #[(.slice Ah xh.length Ch)] 22)
              have HB_4 := Aside0.mk hB4
              clear hB4
              have HH_4 := Aside0.mk (heap_alloc_new (w4.drew.alloc (.cells #[] 22)) (.cells #[(.slice Ah xh.length Ch)] 22))
              have HO_4 := Aside0.mk ((HO_1.out).alloc (.cells #[(.slice Ah xh.length Ch)] 22))
              go_simp
              refine hK.out _ _ (HKP.out _ _ (by assumption) HB_4.out) (fun hHeld => ?_)
              clear hK K
              try simp only [List.getElem_toArray, List.getElem_cons_succ, List.getElem_cons_zero, Act.put, List.setIfInBounds_toArray, List.set_cons_zero, List.set_cons_succ]
              refine wpAnyH_ready (rs := [2]) (by kernel_rfl) (by simp) ?_
              refine AllReadyH.cons rfl (fun K hK => ?_) (AllReadyH.nil)
              rw [if_pos (by rfl)]
              refine oper_append_own (.tmp 93) (.tmp 94) 24 rfl w4.heap.size 22 i0 _ 1 24 Tryd.underlying24 HI0.out HZ.out.1 HZ.out.2.1 HZ.out.2.2 rfl (by decide) (.slice (some ⟨w4.drew.heap.size, 0, none⟩) 0 0) 0 [] (by go_simp) HO_4.out ⟨g, 0, none⟩ m cap cs rfl (by rw [HCL.out, Nat.mul_one]) (fun j u hj => pw_cell_below HB_4.out (HCS.out j u hj)) HONE.out (by simp only [maxLen]; omega) (by omega) (HB_4.out).size (fun v95 w5 hown5 hgrow5 => ?_)
              rw [Nat.zero_add] at hown5
              have HO_5 := Aside0.mk (show w5.ownsRow w4.heap.size 22 1 v95 m cs from hown5)
              have HB_5 := Aside0.mk ((HB_4.out).grown hgrow5 (HB_4.out).size (own_base HO_4.out))
              have HH_5 := Aside0.mk ((hgrow5.block ((w4.drew.alloc (.cells #[] 22)).heap.size) (by first | (simp; done) | (simp; omega)) (by simp [Value.ownBlock])).trans HH_4.out)
              clear hown5 hgrow5
              refine hK.out _ _ (HKP.out _ _ (by assumption) HB_5.out) (fun hHeld => ?_)
              clear hK K
              try simp only [List.getElem_toArray, List.getElem_cons_succ, List.getElem_cons_zero, Act.put, List.setIfInBounds_toArray, List.set_cons_zero, List.set_cons_succ]
              refine wpAnyH_ready (rs := [10]) (by kernel_rfl) (by simp) ?_
              refine AllReadyH.cons rfl (fun K hK => ?_) (AllReadyH.nil)
              rw [if_pos (by rfl)]
              refine oper_append_own (.tmp 95) (.tmp 102) 24 rfl w4.heap.size 22 i0 _ 1 24 Tryd.underlying24 HI0.out HZ.out.1 HZ.out.2.1 HZ.out.2.2 rfl (by decide) _ m cs rfl HO_5.out ⟨(w4.drew.alloc (.cells #[] 22)).heap.size, 0, none⟩ 1 1 [(.slice Ah xh.length Ch)] (by go_simp) rfl (cell_of_block HH_5.out) (by intro u hu; rw [List.mem_singleton] at hu; subst hu; rfl) (by simp only [maxLen]; omega) (by omega) (HB_5.out).size (fun v103 w6 hown6 hgrow6 => ?_)
              have HO6 := Aside0.mk (show w6.ownsRow w4.heap.size 22 1 v103 (m + 1) (cs ++ [(.slice Ah xh.length Ch)]) from hown6)
              have HB6 := Aside0.mk ((HB_5.out).grown hgrow6 (HB_5.out).size (own_base HO_5.out))
              clear hown6 hgrow6
              refine hK.out _ _ (HKP.out _ _ (by assumption) HB6.out) (fun hHeld => ?_)
              clear hK K
              try simp only [List.getElem_toArray, List.getElem_cons_succ, List.getElem_cons_zero, Act.put, List.setIfInBounds_toArray, List.set_cons_zero, List.set_cons_succ]
              obtain ⟨A6, c6, e6, hR6⟩ := HPS.out.rows (B := 0) (show w6.ownsRow w4.heap.size 22 1 v103 (P ++ [xh]).length _ by rw [List.length_append, HPL.out]; exact HO6.out) (HB42.out.trans (HB6.out.mono HB42.out.size))
              have hl6 : (P ++ [xh]).length = m + 1 := by rw [List.length_append, HPL.out, List.length_singleton]
              rw [hl6] at e6
              subst e6
              have hJ2 := (HJ.out A6 c6 (P ++ [xh]) w6 hR6 (by rw [List.length_append, HPL.out, List.length_singleton]; omega) (fun x hx => by rcases List.mem_append.1 hx with h | h; exact HSUB.out x h; rw [List.mem_singleton] at h; rw [h]; exact HXH.out) (fun x hx => List.mem_append_left _ (HSUP.out x hx)))
              rw [hl6] at hJ2
              have HJ2 := Aside0.mk hJ2
              clear hR6 hl6 hJ2
              refine wpAnyH_ready (rs := [11]) (by kernel_rfl) (by simp) ?_
              refine AllReadyH.cons rfl (fun K hK => ?_) AllReadyH.nil
              go_simp
              (with_reducible refine HJ2.out.mono ?_)
              rintro e w7 ⟨v15, rfl, hO15, hb7⟩
              have HO15 := Aside0.mk hO15
              have HB7 := Aside0.mk (HB6.out.trans (hb7.mono HB6.out.size))
              clear hO15 hb7
              refine hK.out _ _ (HKP.out _ _ (by assumption) HB7.out) (fun hHeld => ?_)
              clear hK K
              try simp only [List.getElem_toArray, List.getElem_cons_succ, List.getElem_cons_zero, Act.put, List.setIfInBounds_toArray, List.set_cons_zero, List.set_cons_succ]
              refine wpAnyH_take (i := 12) (v := ?_) rfl (by kernel_rfl) (by kernel_rfl) (by kernel_rfl) (fun _ _ _ h => h) (Or.inl ⟨by rfl, ?_⟩) (by assumption) ?_; rotate_left; focus (intro w hSw; (try dsimp only at hSw); simp only [List.getElem_toArray, List.getElem_cons_succ, List.getElem_cons_zero]; go_simp; (try (with_reducible rfl)))
              simp only [List.getElem_toArray, List.getElem_cons_succ, List.getElem_cons_zero, Act.put, List.setIfInBounds_toArray, List.set_cons_zero, List.set_cons_succ]
              refine wpAnyH_take (i := 13) (v := ?_) rfl (by kernel_rfl) (by kernel_rfl) (by kernel_rfl) (fun _ _ _ h => h) (Or.inl ⟨by rfl, ?_⟩) (by assumption) ?_; rotate_left; focus (intro w hSw; (try dsimp only at hSw); simp only [List.getElem_toArray, List.getElem_cons_succ, List.getElem_cons_zero]; go_simp; (try (with_reducible rfl)))
              simp only [List.getElem_toArray, List.getElem_cons_succ, List.getElem_cons_zero, Act.put, List.setIfInBounds_toArray, List.set_cons_zero, List.set_cons_succ]
              refine wpAnyH_take (i := 14) (v := ?_) rfl (by kernel_rfl) (by kernel_rfl) (by kernel_rfl) (fun _ _ _ h => h) (Or.inl ⟨by rfl, ?_⟩) (by assumption) ?_; rotate_left; focus (intro w hSw; (try dsimp only at hSw); simp only [List.getElem_toArray, List.getElem_cons_succ, List.getElem_cons_zero]; go_simp; (try (with_reducible rfl)))
              simp only [List.getElem_toArray, List.getElem_cons_succ, List.getElem_cons_zero, Act.put, List.setIfInBounds_toArray, List.set_cons_zero, List.set_cons_succ]
              refine wpAnyH_take (i := 15) (v := ?_) rfl (by kernel_rfl) (by kernel_rfl) (by kernel_rfl) (fun _ _ _ h => h) (Or.inl ⟨by rfl, ?_⟩) (by assumption) ?_; rotate_left; focus (intro w hSw; (try dsimp only at hSw); simp only [List.getElem_toArray, List.getElem_cons_succ, List.getElem_cons_zero]; go_simp; (try (with_reducible rfl)))
              simp only [List.getElem_toArray, List.getElem_cons_succ, List.getElem_cons_zero, Act.put, List.setIfInBounds_toArray, List.set_cons_zero, List.set_cons_succ]
              refine wpAnyH_take (i := 16) (v := ?_) rfl (by kernel_rfl) (by kernel_rfl) (by kernel_rfl) (fun _ _ _ h => h) (Or.inl ⟨by rfl, ?_⟩) (by assumption) ?_; rotate_left; focus (intro w hSw; (try dsimp only at hSw); simp only [List.getElem_toArray, List.getElem_cons_succ, List.getElem_cons_zero]; go_simp; (try (with_reducible rfl)))
              simp only [List.getElem_toArray, List.getElem_cons_succ, List.getElem_cons_zero, Act.put, List.setIfInBounds_toArray, List.set_cons_zero, List.set_cons_succ]
              refine wpAnyH_take (i := 17) (v := ?_) rfl (by kernel_rfl) (by kernel_rfl) (by kernel_rfl) (fun _ _ _ h => h) (Or.inl ⟨by rfl, ?_⟩) (by assumption) ?_; rotate_left; focus (intro w hSw; (try dsimp only at hSw); simp only [List.getElem_toArray, List.getElem_cons_succ, List.getElem_cons_zero]; go_simp; (try (with_reducible rfl)))
              simp only [List.getElem_toArray, List.getElem_cons_succ, List.getElem_cons_zero, Act.put, List.setIfInBounds_toArray, List.set_cons_zero, List.set_cons_succ]
              refine wpAnyH_take (i := 18) (v := ?_) rfl (by kernel_rfl) (by kernel_rfl) (by kernel_rfl) (fun _ _ _ h => h) (Or.inl ⟨by rfl, ?_⟩) (by assumption) ?_; rotate_left; focus (intro w hSw; (try dsimp only at hSw); simp only [List.getElem_toArray, List.getElem_cons_succ, List.getElem_cons_zero]; go_simp; (try (with_reducible rfl)))
              simp only [List.getElem_toArray, List.getElem_cons_succ, List.getElem_cons_zero, Act.put, List.setIfInBounds_toArray, List.set_cons_zero, List.set_cons_succ]
              refine wpAnyH_done (by kernel_rfl) ?_ _
              go_wp2_with fail
              go_meet
              exact ⟨rfl, rfl, ⟨_, HO15.out⟩, HB7.out⟩
          · have hB6 := ((Below.refl w4.heap.size w4).drew).alloc ((Below.refl w4.heap.size w4).drew).size (.cells #[(.slice Ah xh.length Ch)] 22)
            have HB_6 := Aside0.mk hB6
            clear hB6
            have HH_6 := Aside0.mk (heap_alloc_new w4.drew (.cells #[(.slice Ah xh.length Ch)] 22))
            go_simp
            refine hK.out _ _ (HKP.out _ _ (by assumption) HB_6.out) (fun hHeld => ?_)
            clear hK K
            try simp only [List.getElem_toArray, List.getElem_cons_succ, List.getElem_cons_zero, Act.put, List.setIfInBounds_toArray, List.set_cons_zero, List.set_cons_succ]
            refine wpAnyH_ready (rs := [0]) (by kernel_rfl) (by simp) ?_
            refine AllReadyH.cons rfl (fun K hK => ?_) (AllReadyH.nil)
            have hB7 := (HB_6.out).alloc (HB_6.out).size (.cells #[] 22)
            have HB_7 := Aside0.mk hB7
            clear hB7
            have HO_7 := Aside0.mk (show ((w4.drew.alloc (.cells #[(.slice Ah xh.length Ch)] 22)).alloc (.cells #[] 22)).ownsRow w4.heap.size 22 1 (.slice (some ⟨(w4.drew.alloc (.cells #[(.slice Ah xh.length Ch)] 22)).heap.size, 0, none⟩) 0 0) 0 ([] : List Value) from ⟨rfl, .inr ⟨(w4.drew.alloc (.cells #[(.slice Ah xh.length Ch)] 22)).heap.size, 0, #[], rfl, (HB_6.out).size, heap_alloc_new (w4.drew.alloc (.cells #[(.slice Ah xh.length Ch)] 22)) _, Nat.le_refl _, Nat.zero_le _, rfl, rfl⟩⟩)
            have HH_7 := Aside0.mk ((heap_alloc_lt' (w4.drew.alloc (.cells #[(.slice Ah xh.length Ch)] 22)) _ (.cells #[] 22) _ HH_6.out))
            go_simp
            refine hK.out _ _ (HKP.out _ _ (by assumption) HB_7.out) (fun hHeld => ?_)
            clear hK K
            try simp only [List.getElem_toArray, List.getElem_cons_succ, List.getElem_cons_zero, Act.put, List.setIfInBounds_toArray, List.set_cons_zero, List.set_cons_succ]
            refine wpAnyH_ready (rs := [2]) (by kernel_rfl) (by simp) ?_
            refine AllReadyH.cons rfl (fun K hK => ?_) (AllReadyH.nil)
            rw [if_pos (by rfl)]
            refine oper_append_own (.tmp 93) (.tmp 94) 24 rfl w4.heap.size 22 i0 _ 1 24 Tryd.underlying24 HI0.out HZ.out.1 HZ.out.2.1 HZ.out.2.2 rfl (by decide) (.slice (some ⟨(w4.drew.alloc (.cells #[(.slice Ah xh.length Ch)] 22)).heap.size, 0, none⟩) 0 0) 0 [] (by go_simp) HO_7.out ⟨g, 0, none⟩ m cap cs rfl (by rw [HCL.out, Nat.mul_one]) (fun j u hj => pw_cell_below HB_7.out (HCS.out j u hj)) HONE.out (by simp only [maxLen]; omega) (by omega) (HB_7.out).size (fun v95 w5 hown5 hgrow5 => ?_)
            rw [Nat.zero_add] at hown5
            have HO_8 := Aside0.mk (show w5.ownsRow w4.heap.size 22 1 v95 m cs from hown5)
            have HB_8 := Aside0.mk ((HB_7.out).grown hgrow5 (HB_7.out).size (own_base HO_7.out))
            have HH_8 := Aside0.mk ((hgrow5.block (w4.drew.heap.size) (by first | (simp; done) | (simp; omega)) (by simp [Value.ownBlock])).trans HH_7.out)
            clear hown5 hgrow5
            refine hK.out _ _ (HKP.out _ _ (by assumption) HB_8.out) (fun hHeld => ?_)
            clear hK K
            try simp only [List.getElem_toArray, List.getElem_cons_succ, List.getElem_cons_zero, Act.put, List.setIfInBounds_toArray, List.set_cons_zero, List.set_cons_succ]
            refine wpAnyH_ready (rs := [10]) (by kernel_rfl) (by simp) ?_
            refine AllReadyH.cons rfl (fun K hK => ?_) (AllReadyH.nil)
            rw [if_pos (by rfl)]
            refine oper_append_own (.tmp 95) (.tmp 102) 24 rfl w4.heap.size 22 i0 _ 1 24 Tryd.underlying24 HI0.out HZ.out.1 HZ.out.2.1 HZ.out.2.2 rfl (by decide) _ m cs rfl HO_8.out ⟨w4.drew.heap.size, 0, none⟩ 1 1 [(.slice Ah xh.length Ch)] (by go_simp) rfl (cell_of_block HH_8.out) (by intro u hu; rw [List.mem_singleton] at hu; subst hu; rfl) (by simp only [maxLen]; omega) (by omega) (HB_8.out).size (fun v103 w6 hown6 hgrow6 => ?_)
            have HO6 := Aside0.mk (show w6.ownsRow w4.heap.size 22 1 v103 (m + 1) (cs ++ [(.slice Ah xh.length Ch)]) from hown6)
            have HB6 := Aside0.mk ((HB_8.out).grown hgrow6 (HB_8.out).size (own_base HO_8.out))
            clear hown6 hgrow6
            refine hK.out _ _ (HKP.out _ _ (by assumption) HB6.out) (fun hHeld => ?_)
            clear hK K
            try simp only [List.getElem_toArray, List.getElem_cons_succ, List.getElem_cons_zero, Act.put, List.setIfInBounds_toArray, List.set_cons_zero, List.set_cons_succ]
            obtain ⟨A6, c6, e6, hR6⟩ := HPS.out.rows (B := 0) (show w6.ownsRow w4.heap.size 22 1 v103 (P ++ [xh]).length _ by rw [List.length_append, HPL.out]; exact HO6.out) (HB42.out.trans (HB6.out.mono HB42.out.size))
            have hl6 : (P ++ [xh]).length = m + 1 := by rw [List.length_append, HPL.out, List.length_singleton]
            rw [hl6] at e6
            subst e6
            have hJ2 := (HJ.out A6 c6 (P ++ [xh]) w6 hR6 (by rw [List.length_append, HPL.out, List.length_singleton]; omega) (fun x hx => by rcases List.mem_append.1 hx with h | h; exact HSUB.out x h; rw [List.mem_singleton] at h; rw [h]; exact HXH.out) (fun x hx => List.mem_append_left _ (HSUP.out x hx)))
            rw [hl6] at hJ2
            have HJ2 := Aside0.mk hJ2
            clear hR6 hl6 hJ2
            refine wpAnyH_ready (rs := [11]) (by kernel_rfl) (by simp) ?_
            refine AllReadyH.cons rfl (fun K hK => ?_) AllReadyH.nil
            go_simp
            (with_reducible refine HJ2.out.mono ?_)
            rintro e w7 ⟨v15, rfl, hO15, hb7⟩
            have HO15 := Aside0.mk hO15
            have HB7 := Aside0.mk (HB6.out.trans (hb7.mono HB6.out.size))
            clear hO15 hb7
            refine hK.out _ _ (HKP.out _ _ (by assumption) HB7.out) (fun hHeld => ?_)
            clear hK K
            try simp only [List.getElem_toArray, List.getElem_cons_succ, List.getElem_cons_zero, Act.put, List.setIfInBounds_toArray, List.set_cons_zero, List.set_cons_succ]
            refine wpAnyH_take (i := 12) (v := ?_) rfl (by kernel_rfl) (by kernel_rfl) (by kernel_rfl) (fun _ _ _ h => h) (Or.inl ⟨by rfl, ?_⟩) (by assumption) ?_; rotate_left; focus (intro w hSw; (try dsimp only at hSw); simp only [List.getElem_toArray, List.getElem_cons_succ, List.getElem_cons_zero]; go_simp; (try (with_reducible rfl)))
            simp only [List.getElem_toArray, List.getElem_cons_succ, List.getElem_cons_zero, Act.put, List.setIfInBounds_toArray, List.set_cons_zero, List.set_cons_succ]
            refine wpAnyH_take (i := 13) (v := ?_) rfl (by kernel_rfl) (by kernel_rfl) (by kernel_rfl) (fun _ _ _ h => h) (Or.inl ⟨by rfl, ?_⟩) (by assumption) ?_; rotate_left; focus (intro w hSw; (try dsimp only at hSw); simp only [List.getElem_toArray, List.getElem_cons_succ, List.getElem_cons_zero]; go_simp; (try (with_reducible rfl)))
            simp only [List.getElem_toArray, List.getElem_cons_succ, List.getElem_cons_zero, Act.put, List.setIfInBounds_toArray, List.set_cons_zero, List.set_cons_succ]
            refine wpAnyH_take (i := 14) (v := ?_) rfl (by kernel_rfl) (by kernel_rfl) (by kernel_rfl) (fun _ _ _ h => h) (Or.inl ⟨by rfl, ?_⟩) (by assumption) ?_; rotate_left; focus (intro w hSw; (try dsimp only at hSw); simp only [List.getElem_toArray, List.getElem_cons_succ, List.getElem_cons_zero]; go_simp; (try (with_reducible rfl)))
            simp only [List.getElem_toArray, List.getElem_cons_succ, List.getElem_cons_zero, Act.put, List.setIfInBounds_toArray, List.set_cons_zero, List.set_cons_succ]
            refine wpAnyH_take (i := 15) (v := ?_) rfl (by kernel_rfl) (by kernel_rfl) (by kernel_rfl) (fun _ _ _ h => h) (Or.inl ⟨by rfl, ?_⟩) (by assumption) ?_; rotate_left; focus (intro w hSw; (try dsimp only at hSw); simp only [List.getElem_toArray, List.getElem_cons_succ, List.getElem_cons_zero]; go_simp; (try (with_reducible rfl)))
            simp only [List.getElem_toArray, List.getElem_cons_succ, List.getElem_cons_zero, Act.put, List.setIfInBounds_toArray, List.set_cons_zero, List.set_cons_succ]
            refine wpAnyH_take (i := 16) (v := ?_) rfl (by kernel_rfl) (by kernel_rfl) (by kernel_rfl) (fun _ _ _ h => h) (Or.inl ⟨by rfl, ?_⟩) (by assumption) ?_; rotate_left; focus (intro w hSw; (try dsimp only at hSw); simp only [List.getElem_toArray, List.getElem_cons_succ, List.getElem_cons_zero]; go_simp; (try (with_reducible rfl)))
            simp only [List.getElem_toArray, List.getElem_cons_succ, List.getElem_cons_zero, Act.put, List.setIfInBounds_toArray, List.set_cons_zero, List.set_cons_succ]
            refine wpAnyH_take (i := 17) (v := ?_) rfl (by kernel_rfl) (by kernel_rfl) (by kernel_rfl) (fun _ _ _ h => h) (Or.inl ⟨by rfl, ?_⟩) (by assumption) ?_; rotate_left; focus (intro w hSw; (try dsimp only at hSw); simp only [List.getElem_toArray, List.getElem_cons_succ, List.getElem_cons_zero]; go_simp; (try (with_reducible rfl)))
            simp only [List.getElem_toArray, List.getElem_cons_succ, List.getElem_cons_zero, Act.put, List.setIfInBounds_toArray, List.set_cons_zero, List.set_cons_succ]
            refine wpAnyH_take (i := 18) (v := ?_) rfl (by kernel_rfl) (by kernel_rfl) (by kernel_rfl) (fun _ _ _ h => h) (Or.inl ⟨by rfl, ?_⟩) (by assumption) ?_; rotate_left; focus (intro w hSw; (try dsimp only at hSw); simp only [List.getElem_toArray, List.getElem_cons_succ, List.getElem_cons_zero]; go_simp; (try (with_reducible rfl)))
            simp only [List.getElem_toArray, List.getElem_cons_succ, List.getElem_cons_zero, Act.put, List.setIfInBounds_toArray, List.set_cons_zero, List.set_cons_succ]
            refine wpAnyH_done (by kernel_rfl) ?_ _
            go_wp2_with fail
            go_meet
            exact ⟨rfl, rfl, ⟨_, HO15.out⟩, HB7.out⟩
        case rest =>
          obtain ⟨rfl, rfl, ⟨B6, hO15⟩, hB7⟩ := hcut
          have HO15 := Aside0.mk hO15
          have HB7 := Aside0.mk hB7
          clear hO15 hB7
          obtain ⟨x0, T, hPT⟩ : ∃ x T, P = x :: T := by
            match P, HPL.out with
            | [], h => simp at h; omega
            | x :: T, _ => exact ⟨x, T, rfl⟩
          have HTL := Aside0.mk (show T.length = m - 1 by have := HPL.out; rw [hPT, List.length_cons] at this; omega)
          have HPT := Aside0.mk hPT
          clear hPT
          obtain ⟨A12, c12, e12, hc12, hC12, _, _, _⟩ := own_C (kd := .u8) HO12.out rfl
          obtain ⟨A15, c15, e15, hc15, hC15, _, _, _⟩ := own_C (kd := .u8) HO15.out rfl
          rw [HN.out] at e12 hc12 hC12 e15 hc15 hC15
          subst e12 e15
          have HB7w := Aside0.mk (HB4w.out.trans (HB7.out.mono HB4w.out.size))
          have HB72 := Aside0.mk (HB42.out.trans (HB7.out.mono HB42.out.size))
          have HB7r := Aside0.mk (HB4.out.trans (HB7.out.mono HB4.out.size))
          have HS12 := Aside0.mk (fun (W : World) (hW : Below wc.heap.size wc W) => (same_calls A12 A n n c12 c l l W (Kd.C_below (Kd.C_below hC12 HB7.out) hW) (Kd.C_below (Kd.C_below HR.out HB7w.out) hW) hc12 hc HY.out HY.out).mono fun e W' h => (⟨by rw [h.1]; simp, hW.trans (h.2.mono hW.size)⟩ : e = .returned (.bool true) ∧ Below wc.heap.size wc W'))
          have HS15 := Aside0.mk (fun (W : World) (hW : Below wc.heap.size wc W) => (same_calls A15 A n n c15 c l l W (Kd.C_below hC15 hW) (Kd.C_below (Kd.C_below HR.out HB7w.out) hW) hc15 hc HY.out HY.out).mono fun e W' h => (⟨by rw [h.1]; simp, hW.trans (h.2.mono hW.size)⟩ : e = .returned (.bool true) ∧ Below wc.heap.size wc W'))
          clear hC12 hC15 HKP HHS HCS HO12 HO15
          go_wp2_with fail
          refine (HS12.out wc (Below.refl _ _)).mono ?_
          rintro e w8 ⟨rfl, hb8⟩
          have HB8 := Aside0.mk hb8
          clear hb8
          go_wp2_with fail
          refine (HS15.out w8 HB8.out).mono ?_
          rintro e w9 ⟨rfl, hb9⟩
          have HB9 := Aside0.mk hb9
          clear hb9
          go_wp2_with fail
          · have hp : (x0 :: T).Perm (volsOf l S) := by rw [← HPT.out]; exact HPM.out
            have hT0 : T = [] := List.eq_nil_of_length_eq_zero (by have := HTL.out; omega)
            have hRT : RowsB w9 (some ⟨g, 0, none⟩) 0 T := by rw [hT0]; exact ⟨Nat.le_refl _, by decide, fun h => absurd h (Nat.lt_irrefl _), fun a ha r hr => absurd hr (Nat.not_lt_zero _)⟩
            have hJ3 := HJR.out (some ⟨g, 0, none⟩) 0 x0 T w9 hRT hp
            rw [HTL.out] at hJ3
            have HJ3 := Aside0.mk hJ3
            have HRT := Aside0.mk hRT
            have HP3 := Aside0.mk hp
            clear hJ3 hRT hp
            (with_reducible refine HJ3.out.mono ?_)
            rintro e w10 ⟨v18, rfl, hO18, hb10⟩
            obtain ⟨A18, c18, e18, _, _, _, _, _⟩ := own_C (kd := .u8) hO18 rfl
            rw [List.length_nil] at e18
            subst e18
            have HB10 := Aside0.mk (HB9.out.trans (hb10.mono HB9.out.size))
            obtain ⟨im, him, hx0, hM3⟩ := HMR.out (some ⟨g, 0, none⟩) 0 x0 T w10 (HRT.out.below hb10) HP3.out
            rw [HTL.out] at hM3
            have HM3 := Aside0.mk hM3
            have HX0 := Aside0.mk hx0
            clear hM3 hx0 hO18 hb10
            go_wp2_with fail
            (with_reducible refine HM3.out.mono ?_)
            rintro e w11 ⟨v21, rfl, hO21, hb11⟩
            have HB11 := Aside0.mk (HB10.out.trans (hb11.mono HB10.out.size))
            have HO21 := Aside0.mk hO21
            clear hO21 hb11
            have hm1e : m = 1 := by omega
            have hmz : m - 1 = 0 := by omega
            have ho21 := HO21.out
            rw [if_pos hmz] at ho21
            obtain ⟨A21, c21, e21, _, _, _, _, _⟩ := own_C (kd := .i64) ho21 rfl
            rw [List.length_nil] at e21
            subst e21
            have hmi : (m : Int) = 1 := by omega
            have HS21 := Aside0.mk (show Hid (Below wc.heap.size wc w11.drew) from Lib.hid HB11.out.drew)
            clear ho21 hmz
            go_upto_region 21 with (fail)
            refine wp_region_held_drew (S := (fun W : World => Hid (Below wc.heap.size wc W))) (by kernel_rfl) ?_ (fun hHeld => ?_)
            · exact HS21.out
            refine wpAnyH_take (i := 0) (v := ?_) rfl (by kernel_rfl) (by kernel_rfl) (by kernel_rfl) (fun _ _ _ h => h) (Or.inl ⟨by rfl, ?_⟩) (by assumption) ?_; rotate_left; focus (intro w hSw; (try dsimp only at hSw); simp only [List.getElem_toArray, List.getElem_cons_succ, List.getElem_cons_zero]; go_simp; (try (with_reducible rfl)))
            simp only [List.getElem_toArray, List.getElem_cons_succ, List.getElem_cons_zero, Act.put, List.setIfInBounds_toArray, List.set_cons_zero, List.set_cons_succ]
            refine wpAnyH_take (i := 1) (v := ?_) rfl (by kernel_rfl) (by kernel_rfl) (by kernel_rfl) (fun _ _ _ h => h) (Or.inl ⟨by rfl, ?_⟩) (by assumption) ?_; rotate_left; focus (intro w hSw; (try dsimp only at hSw); simp only [List.getElem_toArray, List.getElem_cons_succ, List.getElem_cons_zero]; go_simp; (try (with_reducible rfl)))
            simp only [List.getElem_toArray, List.getElem_cons_succ, List.getElem_cons_zero, Act.put, List.setIfInBounds_toArray, List.set_cons_zero, List.set_cons_succ]
            refine wpAnyH_take (i := 2) (v := ?_) rfl (by kernel_rfl) (by kernel_rfl) (by kernel_rfl) (fun _ _ _ h => h) (Or.inl ⟨by rfl, ?_⟩) (by assumption) ?_; rotate_left; focus (intro w hSw; (try dsimp only at hSw); simp only [List.getElem_toArray, List.getElem_cons_succ, List.getElem_cons_zero]; go_simp; (try (with_reducible rfl)))
            simp only [List.getElem_toArray, List.getElem_cons_succ, List.getElem_cons_zero, Act.put, List.setIfInBounds_toArray, List.set_cons_zero, List.set_cons_succ]
            refine wpAnyH_take (i := 3) (v := ?_) rfl (by kernel_rfl) (by kernel_rfl) (by kernel_rfl) (fun _ _ _ h => h) (Or.inl ⟨by rfl, ?_⟩) (by assumption) ?_; rotate_left; focus (intro w hSw; (try dsimp only at hSw); simp only [List.getElem_toArray, List.getElem_cons_succ, List.getElem_cons_zero]; go_simp; (try (with_reducible rfl)))
            simp only [List.getElem_toArray, List.getElem_cons_succ, List.getElem_cons_zero, Act.put, List.setIfInBounds_toArray, List.set_cons_zero, List.set_cons_succ]
            refine wpAnyH_take (i := 4) (v := ?_) rfl (by kernel_rfl) (by kernel_rfl) (by kernel_rfl) (fun _ _ _ h => h) (Or.inl ⟨by rfl, ?_⟩) (by assumption) ?_; rotate_left; focus (intro w hSw; (try dsimp only at hSw); simp only [List.getElem_toArray, List.getElem_cons_succ, List.getElem_cons_zero]; go_simp; (try (with_reducible rfl)))
            simp only [List.getElem_toArray, List.getElem_cons_succ, List.getElem_cons_zero, Act.put, List.setIfInBounds_toArray, List.set_cons_zero, List.set_cons_succ]
            refine wpAnyH_take (i := 5) (v := ?_) rfl (by kernel_rfl) (by kernel_rfl) (by kernel_rfl) (fun _ _ _ h => h) (Or.inl ⟨by rfl, ?_⟩) (by assumption) ?_; rotate_left; focus (intro w hSw; (try dsimp only at hSw); simp only [List.getElem_toArray, List.getElem_cons_succ, List.getElem_cons_zero]; go_simp; (try (with_reducible rfl)))
            simp only [List.getElem_toArray, List.getElem_cons_succ, List.getElem_cons_zero, Act.put, List.setIfInBounds_toArray, List.set_cons_zero, List.set_cons_succ]
            refine wpAnyH_take (i := 6) (v := ?_) rfl (by kernel_rfl) (by kernel_rfl) (by kernel_rfl) (fun _ _ _ h => h) (Or.inl ⟨by rfl, ?_⟩) (by assumption) ?_; rotate_left; focus (intro w hSw; (try dsimp only at hSw); simp only [List.getElem_toArray, List.getElem_cons_succ, List.getElem_cons_zero]; go_simp; (try (with_reducible rfl)))
            simp only [List.getElem_toArray, List.getElem_cons_succ, List.getElem_cons_zero, Act.put, List.setIfInBounds_toArray, List.set_cons_zero, List.set_cons_succ]
            refine wpAnyH_take (i := 7) (v := ?_) rfl (by kernel_rfl) (by kernel_rfl) (by kernel_rfl) (fun _ _ _ h => h) (Or.inl ⟨by rfl, ?_⟩) (by assumption) ?_; rotate_left; focus (intro w hSw; (try dsimp only at hSw); simp only [List.getElem_toArray, List.getElem_cons_succ, List.getElem_cons_zero]; go_simp; (try (with_reducible rfl)))
            simp only [List.getElem_toArray, List.getElem_cons_succ, List.getElem_cons_zero, Act.put, List.setIfInBounds_toArray, List.set_cons_zero, List.set_cons_succ]
            refine wpAnyH_take (i := 8) (v := ?_) rfl (by kernel_rfl) (by kernel_rfl) (by kernel_rfl) (fun _ _ _ h => h) (Or.inl ⟨by rfl, ?_⟩) (by assumption) ?_; rotate_left; focus (intro w hSw; (try dsimp only at hSw); simp only [List.getElem_toArray, List.getElem_cons_succ, List.getElem_cons_zero]; go_simp; (try (with_reducible rfl)))
            simp only [List.getElem_toArray, List.getElem_cons_succ, List.getElem_cons_zero, Act.put, List.setIfInBounds_toArray, List.set_cons_zero, List.set_cons_succ]
            refine wpAnyH_take (i := 9) (v := ?_) rfl (by kernel_rfl) (by kernel_rfl) (by kernel_rfl) (fun _ _ _ h => h) (Or.inl ⟨by rfl, ?_⟩) (by assumption) ?_; rotate_left; focus (intro w hSw; (try dsimp only at hSw); simp only [List.getElem_toArray, List.getElem_cons_succ, List.getElem_cons_zero]; go_simp; (try (with_reducible rfl)))
            simp only [List.getElem_toArray, List.getElem_cons_succ, List.getElem_cons_zero, Act.put, List.setIfInBounds_toArray, List.set_cons_zero, List.set_cons_succ]
            refine wpAnyH_take (i := 10) (v := ?_) rfl (by kernel_rfl) (by kernel_rfl) (by kernel_rfl) (fun _ _ _ h => h) (Or.inl ⟨by rfl, ?_⟩) (by assumption) ?_; rotate_left; focus (intro w hSw; (try dsimp only at hSw); simp only [List.getElem_toArray, List.getElem_cons_succ, List.getElem_cons_zero]; go_simp; (try (with_reducible rfl)))
            simp only [List.getElem_toArray, List.getElem_cons_succ, List.getElem_cons_zero, Act.put, List.setIfInBounds_toArray, List.set_cons_zero, List.set_cons_succ]
            refine wpAnyH_take (i := 11) (v := ?_) rfl (by kernel_rfl) (by kernel_rfl) (by kernel_rfl) (fun _ _ _ h => h) (Or.inl ⟨by rfl, ?_⟩) (by assumption) ?_; rotate_left; focus (intro w hSw; (try dsimp only at hSw); simp only [List.getElem_toArray, List.getElem_cons_succ, List.getElem_cons_zero]; go_simp; (try (with_reducible rfl)))
            simp only [List.getElem_toArray, List.getElem_cons_succ, List.getElem_cons_zero, Act.put, List.setIfInBounds_toArray, List.set_cons_zero, List.set_cons_succ]
            refine wpAnyH_take (i := 12) (v := ?_) rfl (by kernel_rfl) (by kernel_rfl) (by kernel_rfl) (fun _ _ _ h => h) (Or.inl ⟨by rfl, ?_⟩) (by assumption) ?_; rotate_left; focus (intro w hSw; (try dsimp only at hSw); simp only [List.getElem_toArray, List.getElem_cons_succ, List.getElem_cons_zero]; go_simp; (try (with_reducible rfl)))
            simp only [List.getElem_toArray, List.getElem_cons_succ, List.getElem_cons_zero, Act.put, List.setIfInBounds_toArray, List.set_cons_zero, List.set_cons_succ]
            refine wpAnyH_take (i := 13) (v := ?_) rfl (by kernel_rfl) (by kernel_rfl) (by kernel_rfl) (fun _ _ _ h => h) (Or.inl ⟨by rfl, ?_⟩) (by assumption) ?_; rotate_left; focus (intro w hSw; (try dsimp only at hSw); simp only [List.getElem_toArray, List.getElem_cons_succ, List.getElem_cons_zero]; go_simp; (try (with_reducible rfl)))
            simp only [List.getElem_toArray, List.getElem_cons_succ, List.getElem_cons_zero, Act.put, List.setIfInBounds_toArray, List.set_cons_zero, List.set_cons_succ]
            refine wpAnyH_take (i := 14) (v := ?_) rfl (by kernel_rfl) (by kernel_rfl) (by kernel_rfl) (fun _ _ _ h => h) (Or.inl ⟨by rfl, ?_⟩) (by assumption) ?_; rotate_left; focus (intro w hSw; (try dsimp only at hSw); simp only [List.getElem_toArray, List.getElem_cons_succ, List.getElem_cons_zero]; go_simp; (try (with_reducible rfl)))
            simp only [List.getElem_toArray, List.getElem_cons_succ, List.getElem_cons_zero, Act.put, List.setIfInBounds_toArray, List.set_cons_zero, List.set_cons_succ]
            refine wpAnyH_take (i := 15) (v := ?_) rfl (by kernel_rfl) (by kernel_rfl) (by kernel_rfl) (fun _ _ _ h => h) (Or.inl ⟨by rfl, ?_⟩) (by assumption) ?_; rotate_left; focus (intro w hSw; (try dsimp only at hSw); simp only [List.getElem_toArray, List.getElem_cons_succ, List.getElem_cons_zero]; go_simp; (try (with_reducible rfl)))
            simp only [List.getElem_toArray, List.getElem_cons_succ, List.getElem_cons_zero, Act.put, List.setIfInBounds_toArray, List.set_cons_zero, List.set_cons_succ]
            refine wpAnyH_take (i := 16) (v := ?_) rfl (by kernel_rfl) (by kernel_rfl) (by kernel_rfl) (fun _ _ _ h => h) (Or.inl ⟨by rfl, ?_⟩) (by assumption) ?_; rotate_left; focus (intro w hSw; (try dsimp only at hSw); simp only [List.getElem_toArray, List.getElem_cons_succ, List.getElem_cons_zero]; go_simp; (try (with_reducible rfl)))
            simp only [List.getElem_toArray, List.getElem_cons_succ, List.getElem_cons_zero, Act.put, List.setIfInBounds_toArray, List.set_cons_zero, List.set_cons_succ]
            refine wpAnyH_take (i := 17) (v := ?_) rfl (by kernel_rfl) (by kernel_rfl) (by kernel_rfl) (fun _ _ _ h => h) (Or.inl ⟨by rfl, ?_⟩) (by assumption) ?_; rotate_left; focus (intro w hSw; (try dsimp only at hSw); simp only [List.getElem_toArray, List.getElem_cons_succ, List.getElem_cons_zero]; go_simp; (try (with_reducible rfl)))
            simp only [List.getElem_toArray, List.getElem_cons_succ, List.getElem_cons_zero, Act.put, List.setIfInBounds_toArray, List.set_cons_zero, List.set_cons_succ]
            refine wpAnyH_take (i := 18) (v := ?_) rfl (by kernel_rfl) (by kernel_rfl) (by kernel_rfl) (fun _ _ _ h => h) (Or.inl ⟨by rfl, ?_⟩) (by assumption) ?_; rotate_left; focus (intro w hSw; (try dsimp only at hSw); simp only [List.getElem_toArray, List.getElem_cons_succ, List.getElem_cons_zero]; go_simp; (try (with_reducible rfl)))
            simp only [List.getElem_toArray, List.getElem_cons_succ, List.getElem_cons_zero, Act.put, List.setIfInBounds_toArray, List.set_cons_zero, List.set_cons_succ]
            refine wpAnyH_take (i := 19) (v := ?_) rfl (by kernel_rfl) (by kernel_rfl) (by kernel_rfl) (fun _ _ _ h => h) (Or.inl ⟨by rfl, ?_⟩) (by assumption) ?_; rotate_left; focus (intro w hSw; (try dsimp only at hSw); simp only [List.getElem_toArray, List.getElem_cons_succ, List.getElem_cons_zero]; go_simp; (try (with_reducible rfl)))
            simp only [List.getElem_toArray, List.getElem_cons_succ, List.getElem_cons_zero, Act.put, List.setIfInBounds_toArray, List.set_cons_zero, List.set_cons_succ]
            refine wpAnyH_take (i := 20) (v := ?_) rfl (by kernel_rfl) (by kernel_rfl) (by kernel_rfl) (fun _ _ _ h => h) (Or.inl ⟨by rfl, ?_⟩) (by assumption) ?_; rotate_left; focus (intro w hSw; (try dsimp only at hSw); simp only [List.getElem_toArray, List.getElem_cons_succ, List.getElem_cons_zero]; go_simp; (try (with_reducible rfl)))
            simp only [List.getElem_toArray, List.getElem_cons_succ, List.getElem_cons_zero, Act.put, List.setIfInBounds_toArray, List.set_cons_zero, List.set_cons_succ]
            refine wpAnyH_take (i := 21) (v := ?_) rfl (by kernel_rfl) (by kernel_rfl) (by kernel_rfl) (fun _ _ _ h => h) (Or.inl ⟨by rfl, ?_⟩) (by assumption) ?_; rotate_left; focus (intro w hSw; (try dsimp only at hSw); simp only [List.getElem_toArray, List.getElem_cons_succ, List.getElem_cons_zero]; go_simp; (try (with_reducible rfl)))
            simp only [List.getElem_toArray, List.getElem_cons_succ, List.getElem_cons_zero, Act.put, List.setIfInBounds_toArray, List.set_cons_zero, List.set_cons_succ]
            refine wpAnyH_take (i := 22) (v := ?_) rfl (by kernel_rfl) (by kernel_rfl) (by kernel_rfl) (fun _ _ _ h => h) (Or.inl ⟨by rfl, ?_⟩) (by assumption) ?_; rotate_left; focus (intro w hSw; (try dsimp only at hSw); simp only [List.getElem_toArray, List.getElem_cons_succ, List.getElem_cons_zero]; go_simp; (try (with_reducible rfl)))
            simp only [List.getElem_toArray, List.getElem_cons_succ, List.getElem_cons_zero, Act.put, List.setIfInBounds_toArray, List.set_cons_zero, List.set_cons_succ]
            refine wpAnyH_take (i := 23) (v := ?_) rfl (by kernel_rfl) (by kernel_rfl) (by kernel_rfl) (fun _ _ _ h => h) (Or.inl ⟨by rfl, ?_⟩) (by assumption) ?_; rotate_left; focus (intro w hSw; (try dsimp only at hSw); simp only [List.getElem_toArray, List.getElem_cons_succ, List.getElem_cons_zero]; go_simp; (try (with_reducible rfl)))
            simp only [List.getElem_toArray, List.getElem_cons_succ, List.getElem_cons_zero, Act.put, List.setIfInBounds_toArray, List.set_cons_zero, List.set_cons_succ]
            refine wpAnyH_take (i := 24) (v := ?_) rfl (by kernel_rfl) (by kernel_rfl) (by kernel_rfl) (fun _ _ _ h => h) (Or.inl ⟨by rfl, ?_⟩) (by assumption) ?_; rotate_left; focus (intro w hSw; (try dsimp only at hSw); simp only [List.getElem_toArray, List.getElem_cons_succ, List.getElem_cons_zero]; go_simp; (try (with_reducible rfl)))
            simp only [List.getElem_toArray, List.getElem_cons_succ, List.getElem_cons_zero, Act.put, List.setIfInBounds_toArray, List.set_cons_zero, List.set_cons_succ]
            refine wpAnyH_take (i := 25) (v := ?_) rfl (by kernel_rfl) (by kernel_rfl) (by kernel_rfl) (fun _ _ _ h => h) (Or.inl ⟨by rfl, ?_⟩) (by assumption) ?_; rotate_left; focus (intro w hSw; (try dsimp only at hSw); simp only [List.getElem_toArray, List.getElem_cons_succ, List.getElem_cons_zero]; go_simp; (try (with_reducible rfl)))
            simp only [List.getElem_toArray, List.getElem_cons_succ, List.getElem_cons_zero, Act.put, List.setIfInBounds_toArray, List.set_cons_zero, List.set_cons_succ]
            refine wpAnyH_take (i := 26) (v := ?_) rfl (by kernel_rfl) (by kernel_rfl) (by kernel_rfl) (fun _ _ _ h => h) (Or.inl ⟨by rfl, ?_⟩) (by assumption) ?_; rotate_left; focus (intro w hSw; (try dsimp only at hSw); simp only [List.getElem_toArray, List.getElem_cons_succ, List.getElem_cons_zero]; go_simp; (try (with_reducible rfl)))
            simp only [List.getElem_toArray, List.getElem_cons_succ, List.getElem_cons_zero, Act.put, List.setIfInBounds_toArray, List.set_cons_zero, List.set_cons_succ]
            refine wpAnyH_take (i := 27) (v := undef) rfl (by kernel_rfl) (by kernel_rfl) (by kernel_rfl) (fun _ _ _ h => h) (Or.inr ⟨by rfl, rfl⟩) (by assumption) ?_
            simp only [List.getElem_toArray, List.getElem_cons_succ, List.getElem_cons_zero, Act.put, List.setIfInBounds_toArray, List.set_cons_zero, List.set_cons_succ]
            refine wpAnyH_take (i := 28) (v := undef) rfl (by kernel_rfl) (by kernel_rfl) (by kernel_rfl) (fun _ _ _ h => h) (Or.inr ⟨by rfl, rfl⟩) (by assumption) ?_
            simp only [List.getElem_toArray, List.getElem_cons_succ, List.getElem_cons_zero, Act.put, List.setIfInBounds_toArray, List.set_cons_zero, List.set_cons_succ]
            refine wpAnyH_take (i := 29) (v := undef) rfl (by kernel_rfl) (by kernel_rfl) (by kernel_rfl) (fun _ _ _ h => h) (Or.inr ⟨by rfl, rfl⟩) (by assumption) ?_
            simp only [List.getElem_toArray, List.getElem_cons_succ, List.getElem_cons_zero, Act.put, List.setIfInBounds_toArray, List.set_cons_zero, List.set_cons_succ]
            refine wpAnyH_take (i := 30) (v := undef) rfl (by kernel_rfl) (by kernel_rfl) (by kernel_rfl) (fun _ _ _ h => h) (Or.inr ⟨by rfl, rfl⟩) (by assumption) ?_
            simp only [List.getElem_toArray, List.getElem_cons_succ, List.getElem_cons_zero, Act.put, List.setIfInBounds_toArray, List.set_cons_zero, List.set_cons_succ]
            refine wpAnyH_take (i := 31) (v := undef) rfl (by kernel_rfl) (by kernel_rfl) (by kernel_rfl) (fun _ _ _ h => h) (Or.inr ⟨by rfl, rfl⟩) (by assumption) ?_
            simp only [List.getElem_toArray, List.getElem_cons_succ, List.getElem_cons_zero, Act.put, List.setIfInBounds_toArray, List.set_cons_zero, List.set_cons_succ]
            refine wpAnyH_take (i := 32) (v := undef) rfl (by kernel_rfl) (by kernel_rfl) (by kernel_rfl) (fun _ _ _ h => h) (Or.inr ⟨by rfl, rfl⟩) (by assumption) ?_
            simp only [List.getElem_toArray, List.getElem_cons_succ, List.getElem_cons_zero, Act.put, List.setIfInBounds_toArray, List.set_cons_zero, List.set_cons_succ]
            refine wpAnyH_take (i := 33) (v := undef) rfl (by kernel_rfl) (by kernel_rfl) (by kernel_rfl) (fun _ _ _ h => h) (Or.inr ⟨by rfl, rfl⟩) (by assumption) ?_
            simp only [List.getElem_toArray, List.getElem_cons_succ, List.getElem_cons_zero, Act.put, List.setIfInBounds_toArray, List.set_cons_zero, List.set_cons_succ]
            refine wpAnyH_take (i := 34) (v := undef) rfl (by kernel_rfl) (by kernel_rfl) (by kernel_rfl) (fun _ _ _ h => h) (Or.inr ⟨by rfl, rfl⟩) (by assumption) ?_
            simp only [List.getElem_toArray, List.getElem_cons_succ, List.getElem_cons_zero, Act.put, List.setIfInBounds_toArray, List.set_cons_zero, List.set_cons_succ]
            refine wpAnyH_take (i := 35) (v := undef) rfl (by kernel_rfl) (by kernel_rfl) (by kernel_rfl) (fun _ _ _ h => h) (Or.inr ⟨by rfl, rfl⟩) (by assumption) ?_
            simp only [List.getElem_toArray, List.getElem_cons_succ, List.getElem_cons_zero, Act.put, List.setIfInBounds_toArray, List.set_cons_zero, List.set_cons_succ]
            refine wpAnyH_take (i := 36) (v := undef) rfl (by kernel_rfl) (by kernel_rfl) (by kernel_rfl) (fun _ _ _ h => h) (Or.inr ⟨by rfl, rfl⟩) (by assumption) ?_
            simp only [List.getElem_toArray, List.getElem_cons_succ, List.getElem_cons_zero, Act.put, List.setIfInBounds_toArray, List.set_cons_zero, List.set_cons_succ]
            refine wpAnyH_take (i := 37) (v := undef) rfl (by kernel_rfl) (by kernel_rfl) (by kernel_rfl) (fun _ _ _ h => h) (Or.inr ⟨by rfl, rfl⟩) (by assumption) ?_
            simp only [List.getElem_toArray, List.getElem_cons_succ, List.getElem_cons_zero, Act.put, List.setIfInBounds_toArray, List.set_cons_zero, List.set_cons_succ]
            refine wpAnyH_take (i := 38) (v := undef) rfl (by kernel_rfl) (by kernel_rfl) (by kernel_rfl) (fun _ _ _ h => h) (Or.inr ⟨by rfl, rfl⟩) (by assumption) ?_
            simp only [List.getElem_toArray, List.getElem_cons_succ, List.getElem_cons_zero, Act.put, List.setIfInBounds_toArray, List.set_cons_zero, List.set_cons_succ]
            refine wpAnyH_take (i := 39) (v := undef) rfl (by kernel_rfl) (by kernel_rfl) (by kernel_rfl) (fun _ _ _ h => h) (Or.inr ⟨by rfl, rfl⟩) (by assumption) ?_
            simp only [List.getElem_toArray, List.getElem_cons_succ, List.getElem_cons_zero, Act.put, List.setIfInBounds_toArray, List.set_cons_zero, List.set_cons_succ]
            refine wpAnyH_take (i := 40) (v := undef) rfl (by kernel_rfl) (by kernel_rfl) (by kernel_rfl) (fun _ _ _ h => h) (Or.inr ⟨by rfl, rfl⟩) (by assumption) ?_
            simp only [List.getElem_toArray, List.getElem_cons_succ, List.getElem_cons_zero, Act.put, List.setIfInBounds_toArray, List.set_cons_zero, List.set_cons_succ]
            refine wpAnyH_take (i := 41) (v := undef) rfl (by kernel_rfl) (by kernel_rfl) (by kernel_rfl) (fun _ _ _ h => h) (Or.inr ⟨by rfl, rfl⟩) (by assumption) ?_
            simp only [List.getElem_toArray, List.getElem_cons_succ, List.getElem_cons_zero, Act.put, List.setIfInBounds_toArray, List.set_cons_zero, List.set_cons_succ]
            refine wpAnyH_take (i := 42) (v := undef) rfl (by kernel_rfl) (by kernel_rfl) (by kernel_rfl) (fun _ _ _ h => h) (Or.inr ⟨by rfl, rfl⟩) (by assumption) ?_
            simp only [List.getElem_toArray, List.getElem_cons_succ, List.getElem_cons_zero, Act.put, List.setIfInBounds_toArray, List.set_cons_zero, List.set_cons_succ]
            refine wpAnyH_take (i := 43) (v := undef) rfl (by kernel_rfl) (by kernel_rfl) (by kernel_rfl) (fun _ _ _ h => h) (Or.inr ⟨by rfl, rfl⟩) (by assumption) ?_
            simp only [List.getElem_toArray, List.getElem_cons_succ, List.getElem_cons_zero, Act.put, List.setIfInBounds_toArray, List.set_cons_zero, List.set_cons_succ]
            refine wpAnyH_take (i := 44) (v := undef) rfl (by kernel_rfl) (by kernel_rfl) (by kernel_rfl) (fun _ _ _ h => h) (Or.inr ⟨by rfl, rfl⟩) (by assumption) ?_
            simp only [List.getElem_toArray, List.getElem_cons_succ, List.getElem_cons_zero, Act.put, List.setIfInBounds_toArray, List.set_cons_zero, List.set_cons_succ]
            refine wpAnyH_take (i := 45) (v := undef) rfl (by kernel_rfl) (by kernel_rfl) (by kernel_rfl) (fun _ _ _ h => h) (Or.inr ⟨by rfl, rfl⟩) (by assumption) ?_
            simp only [List.getElem_toArray, List.getElem_cons_succ, List.getElem_cons_zero, Act.put, List.setIfInBounds_toArray, List.set_cons_zero, List.set_cons_succ]
            refine wpAnyH_take (i := 46) (v := undef) rfl (by kernel_rfl) (by kernel_rfl) (by kernel_rfl) (fun _ _ _ h => h) (Or.inr ⟨by rfl, rfl⟩) (by assumption) ?_
            simp only [List.getElem_toArray, List.getElem_cons_succ, List.getElem_cons_zero, Act.put, List.setIfInBounds_toArray, List.set_cons_zero, List.set_cons_succ]
            refine wpAnyH_take (i := 47) (v := undef) rfl (by kernel_rfl) (by kernel_rfl) (by kernel_rfl) (fun _ _ _ h => h) (Or.inr ⟨by rfl, rfl⟩) (by assumption) ?_
            simp only [List.getElem_toArray, List.getElem_cons_succ, List.getElem_cons_zero, Act.put, List.setIfInBounds_toArray, List.set_cons_zero, List.set_cons_succ]
            refine wpAnyH_take (i := 48) (v := undef) rfl (by kernel_rfl) (by kernel_rfl) (by kernel_rfl) (fun _ _ _ h => h) (Or.inr ⟨by rfl, rfl⟩) (by assumption) ?_
            simp only [List.getElem_toArray, List.getElem_cons_succ, List.getElem_cons_zero, Act.put, List.setIfInBounds_toArray, List.set_cons_zero, List.set_cons_succ]
            refine wpAnyH_take (i := 49) (v := undef) rfl (by kernel_rfl) (by kernel_rfl) (by kernel_rfl) (fun _ _ _ h => h) (Or.inr ⟨by rfl, rfl⟩) (by assumption) ?_
            simp only [List.getElem_toArray, List.getElem_cons_succ, List.getElem_cons_zero, Act.put, List.setIfInBounds_toArray, List.set_cons_zero, List.set_cons_succ]
            refine wpAnyH_take (i := 50) (v := undef) rfl (by kernel_rfl) (by kernel_rfl) (by kernel_rfl) (fun _ _ _ h => h) (Or.inr ⟨by rfl, rfl⟩) (by assumption) ?_
            simp only [List.getElem_toArray, List.getElem_cons_succ, List.getElem_cons_zero, Act.put, List.setIfInBounds_toArray, List.set_cons_zero, List.set_cons_succ]
            refine wpAnyH_take (i := 51) (v := undef) rfl (by kernel_rfl) (by kernel_rfl) (by kernel_rfl) (fun _ _ _ h => h) (Or.inr ⟨by rfl, rfl⟩) (by assumption) ?_
            simp only [List.getElem_toArray, List.getElem_cons_succ, List.getElem_cons_zero, Act.put, List.setIfInBounds_toArray, List.set_cons_zero, List.set_cons_succ]
            refine wpAnyH_take (i := 52) (v := undef) rfl (by kernel_rfl) (by kernel_rfl) (by kernel_rfl) (fun _ _ _ h => h) (Or.inr ⟨by rfl, rfl⟩) (by assumption) ?_
            simp only [List.getElem_toArray, List.getElem_cons_succ, List.getElem_cons_zero, Act.put, List.setIfInBounds_toArray, List.set_cons_zero, List.set_cons_succ]
            refine wpAnyH_take (i := 53) (v := undef) rfl (by kernel_rfl) (by kernel_rfl) (by kernel_rfl) (fun _ _ _ h => h) (Or.inr ⟨by rfl, rfl⟩) (by assumption) ?_
            simp only [List.getElem_toArray, List.getElem_cons_succ, List.getElem_cons_zero, Act.put, List.setIfInBounds_toArray, List.set_cons_zero, List.set_cons_succ]
            refine wpAnyH_take (i := 54) (v := undef) rfl (by kernel_rfl) (by kernel_rfl) (by kernel_rfl) (fun _ _ _ h => h) (Or.inr ⟨by rfl, rfl⟩) (by assumption) ?_
            simp only [List.getElem_toArray, List.getElem_cons_succ, List.getElem_cons_zero, Act.put, List.setIfInBounds_toArray, List.set_cons_zero, List.set_cons_succ]
            refine wpAnyH_take (i := 55) (v := undef) rfl (by kernel_rfl) (by kernel_rfl) (by kernel_rfl) (fun _ _ _ h => h) (Or.inr ⟨by rfl, rfl⟩) (by assumption) ?_
            simp only [List.getElem_toArray, List.getElem_cons_succ, List.getElem_cons_zero, Act.put, List.setIfInBounds_toArray, List.set_cons_zero, List.set_cons_succ]
            refine wpAnyH_take (i := 56) (v := undef) rfl (by kernel_rfl) (by kernel_rfl) (by kernel_rfl) (fun _ _ _ h => h) (Or.inr ⟨by rfl, rfl⟩) (by assumption) ?_
            simp only [List.getElem_toArray, List.getElem_cons_succ, List.getElem_cons_zero, Act.put, List.setIfInBounds_toArray, List.set_cons_zero, List.set_cons_succ]
            refine wpAnyH_take (i := 57) (v := undef) rfl (by kernel_rfl) (by kernel_rfl) (by kernel_rfl) (fun _ _ _ h => h) (Or.inr ⟨by rfl, rfl⟩) (by assumption) ?_
            simp only [List.getElem_toArray, List.getElem_cons_succ, List.getElem_cons_zero, Act.put, List.setIfInBounds_toArray, List.set_cons_zero, List.set_cons_succ]
            refine wpAnyH_take (i := 58) (v := undef) rfl (by kernel_rfl) (by kernel_rfl) (by kernel_rfl) (fun _ _ _ h => h) (Or.inr ⟨by rfl, rfl⟩) (by assumption) ?_
            simp only [List.getElem_toArray, List.getElem_cons_succ, List.getElem_cons_zero, Act.put, List.setIfInBounds_toArray, List.set_cons_zero, List.set_cons_succ]
            refine wpAnyH_take (i := 59) (v := undef) rfl (by kernel_rfl) (by kernel_rfl) (by kernel_rfl) (fun _ _ _ h => h) (Or.inr ⟨by rfl, rfl⟩) (by assumption) ?_
            simp only [List.getElem_toArray, List.getElem_cons_succ, List.getElem_cons_zero, Act.put, List.setIfInBounds_toArray, List.set_cons_zero, List.set_cons_succ]
            refine wpAnyH_take (i := 60) (v := undef) rfl (by kernel_rfl) (by kernel_rfl) (by kernel_rfl) (fun _ _ _ h => h) (Or.inr ⟨by rfl, rfl⟩) (by assumption) ?_
            simp only [List.getElem_toArray, List.getElem_cons_succ, List.getElem_cons_zero, Act.put, List.setIfInBounds_toArray, List.set_cons_zero, List.set_cons_succ]
            refine wpAnyH_take (i := 61) (v := ?_) rfl (by kernel_rfl) (by kernel_rfl) (by kernel_rfl) (fun _ _ _ h => h) (Or.inl ⟨by rfl, ?_⟩) (by assumption) ?_; rotate_left; focus (intro w hSw; (try dsimp only at hSw); simp only [List.getElem_toArray, List.getElem_cons_succ, List.getElem_cons_zero]; go_simp; (try (with_reducible rfl)))
            simp only [List.getElem_toArray, List.getElem_cons_succ, List.getElem_cons_zero, Act.put, List.setIfInBounds_toArray, List.set_cons_zero, List.set_cons_succ]
            refine wpAnyH_take (i := 62) (v := ?_) rfl (by kernel_rfl) (by kernel_rfl) (by kernel_rfl) (fun _ _ _ h => h) (Or.inl ⟨by rfl, ?_⟩) (by assumption) ?_; rotate_left; focus (intro w hSw; (try dsimp only at hSw); simp only [List.getElem_toArray, List.getElem_cons_succ, List.getElem_cons_zero]; go_simp; (try (with_reducible rfl)))
            simp only [List.getElem_toArray, List.getElem_cons_succ, List.getElem_cons_zero, Act.put, List.setIfInBounds_toArray, List.set_cons_zero, List.set_cons_succ]
            refine wpAnyH_take (i := 63) (v := ?_) rfl (by kernel_rfl) (by kernel_rfl) (by kernel_rfl) (fun _ _ _ h => h) (Or.inl ⟨by rfl, ?_⟩) (by assumption) ?_; rotate_left; focus (intro w hSw; (try dsimp only at hSw); simp only [List.getElem_toArray, List.getElem_cons_succ, List.getElem_cons_zero]; go_simp; (try (with_reducible rfl)))
            simp only [List.getElem_toArray, List.getElem_cons_succ, List.getElem_cons_zero, Act.put, List.setIfInBounds_toArray, List.set_cons_zero, List.set_cons_succ]
            refine wpAnyH_done (by kernel_rfl) ?_ _
            clear hHeld
            go_wp2_with fail
            go_ret
            exact ⟨by first | rfl | decide | (simp; done), HB7w.out.trans (HB11.out.drew.mono HB7w.out.size)⟩
          · have hp : (x0 :: T).Perm (volsOf l S) := by rw [← HPT.out]; exact HPM.out
            have hRT : RowsB w9 (some ⟨g, 1, none⟩) (cap - 1) T := rowsB_tail (a := ⟨g, 0, none⟩) (x := x0) (by rw [← HPT.out]; exact (HRP.out.below HB7r.out).below HB9.out)
            have hJ3 := HJR.out (some ⟨g, 1, none⟩) (cap - 1) x0 T w9 hRT hp
            rw [HTL.out] at hJ3
            have HJ3 := Aside0.mk hJ3
            have HRT := Aside0.mk hRT
            have HP3 := Aside0.mk hp
            clear hJ3 hRT hp
            (with_reducible refine HJ3.out.mono ?_)
            rintro e w10 ⟨v18, rfl, hO18, hb10⟩
            obtain ⟨A18, c18, e18, _, _, _, _, _⟩ := own_C (kd := .u8) hO18 rfl
            rw [List.length_nil] at e18
            subst e18
            have HB10 := Aside0.mk (HB9.out.trans (hb10.mono HB9.out.size))
            obtain ⟨im, him, hx0, hM3⟩ := HMR.out (some ⟨g, 1, none⟩) (cap - 1) x0 T w10 (HRT.out.below hb10) HP3.out
            rw [HTL.out] at hM3
            have HM3 := Aside0.mk hM3
            have HX0 := Aside0.mk hx0
            clear hM3 hx0 hO18 hb10
            go_wp2_with fail
            (with_reducible refine HM3.out.mono ?_)
            rintro e w11 ⟨v21, rfl, hO21, hb11⟩
            have HB11 := Aside0.mk (HB10.out.trans (hb11.mono HB10.out.size))
            have HO21 := Aside0.mk hO21
            clear hO21 hb11
            by_cases hm1e : m = 1
            · have hmz : m - 1 = 0 := by omega
              have ho21 := HO21.out
              rw [if_pos hmz] at ho21
              obtain ⟨A21, c21, e21, _, _, _, _, _⟩ := own_C (kd := .i64) ho21 rfl
              rw [List.length_nil] at e21
              subst e21
              have hmi : (m : Int) = 1 := by omega
              have HS21 := Aside0.mk (show Hid (Below wc.heap.size wc w11.drew) from Lib.hid HB11.out.drew)
              clear ho21 hmz
              go_upto_region 21 with (fail)
              refine wp_region_held_drew (S := (fun W : World => Hid (Below wc.heap.size wc W))) (by kernel_rfl) ?_ (fun hHeld => ?_)
              · exact HS21.out
              refine wpAnyH_take (i := 0) (v := ?_) rfl (by kernel_rfl) (by kernel_rfl) (by kernel_rfl) (fun _ _ _ h => h) (Or.inl ⟨by rfl, ?_⟩) (by assumption) ?_; rotate_left; focus (intro w hSw; (try dsimp only at hSw); simp only [List.getElem_toArray, List.getElem_cons_succ, List.getElem_cons_zero]; go_simp; (try (with_reducible rfl)))
              simp only [List.getElem_toArray, List.getElem_cons_succ, List.getElem_cons_zero, Act.put, List.setIfInBounds_toArray, List.set_cons_zero, List.set_cons_succ]
              refine wpAnyH_take (i := 1) (v := ?_) rfl (by kernel_rfl) (by kernel_rfl) (by kernel_rfl) (fun _ _ _ h => h) (Or.inl ⟨by rfl, ?_⟩) (by assumption) ?_; rotate_left; focus (intro w hSw; (try dsimp only at hSw); simp only [List.getElem_toArray, List.getElem_cons_succ, List.getElem_cons_zero]; go_simp; (try (with_reducible rfl)))
              simp only [List.getElem_toArray, List.getElem_cons_succ, List.getElem_cons_zero, Act.put, List.setIfInBounds_toArray, List.set_cons_zero, List.set_cons_succ]
              refine wpAnyH_take (i := 2) (v := ?_) rfl (by kernel_rfl) (by kernel_rfl) (by kernel_rfl) (fun _ _ _ h => h) (Or.inl ⟨by rfl, ?_⟩) (by assumption) ?_; rotate_left; focus (intro w hSw; (try dsimp only at hSw); simp only [List.getElem_toArray, List.getElem_cons_succ, List.getElem_cons_zero]; go_simp; (try (with_reducible rfl)))
              simp only [List.getElem_toArray, List.getElem_cons_succ, List.getElem_cons_zero, Act.put, List.setIfInBounds_toArray, List.set_cons_zero, List.set_cons_succ]
              refine wpAnyH_take (i := 3) (v := ?_) rfl (by kernel_rfl) (by kernel_rfl) (by kernel_rfl) (fun _ _ _ h => h) (Or.inl ⟨by rfl, ?_⟩) (by assumption) ?_; rotate_left; focus (intro w hSw; (try dsimp only at hSw); simp only [List.getElem_toArray, List.getElem_cons_succ, List.getElem_cons_zero]; go_simp; (try (with_reducible rfl)))
              simp only [List.getElem_toArray, List.getElem_cons_succ, List.getElem_cons_zero, Act.put, List.setIfInBounds_toArray, List.set_cons_zero, List.set_cons_succ]
              refine wpAnyH_take (i := 4) (v := ?_) rfl (by kernel_rfl) (by kernel_rfl) (by kernel_rfl) (fun _ _ _ h => h) (Or.inl ⟨by rfl, ?_⟩) (by assumption) ?_; rotate_left; focus (intro w hSw; (try dsimp only at hSw); simp only [List.getElem_toArray, List.getElem_cons_succ, List.getElem_cons_zero]; go_simp; (try (with_reducible rfl)))
              simp only [List.getElem_toArray, List.getElem_cons_succ, List.getElem_cons_zero, Act.put, List.setIfInBounds_toArray, List.set_cons_zero, List.set_cons_succ]
              refine wpAnyH_take (i := 5) (v := ?_) rfl (by kernel_rfl) (by kernel_rfl) (by kernel_rfl) (fun _ _ _ h => h) (Or.inl ⟨by rfl, ?_⟩) (by assumption) ?_; rotate_left; focus (intro w hSw; (try dsimp only at hSw); simp only [List.getElem_toArray, List.getElem_cons_succ, List.getElem_cons_zero]; go_simp; (try (with_reducible rfl)))
              simp only [List.getElem_toArray, List.getElem_cons_succ, List.getElem_cons_zero, Act.put, List.setIfInBounds_toArray, List.set_cons_zero, List.set_cons_succ]
              refine wpAnyH_take (i := 6) (v := ?_) rfl (by kernel_rfl) (by kernel_rfl) (by kernel_rfl) (fun _ _ _ h => h) (Or.inl ⟨by rfl, ?_⟩) (by assumption) ?_; rotate_left; focus (intro w hSw; (try dsimp only at hSw); simp only [List.getElem_toArray, List.getElem_cons_succ, List.getElem_cons_zero]; go_simp; (try (with_reducible rfl)))
              simp only [List.getElem_toArray, List.getElem_cons_succ, List.getElem_cons_zero, Act.put, List.setIfInBounds_toArray, List.set_cons_zero, List.set_cons_succ]
              refine wpAnyH_take (i := 7) (v := ?_) rfl (by kernel_rfl) (by kernel_rfl) (by kernel_rfl) (fun _ _ _ h => h) (Or.inl ⟨by rfl, ?_⟩) (by assumption) ?_; rotate_left; focus (intro w hSw; (try dsimp only at hSw); simp only [List.getElem_toArray, List.getElem_cons_succ, List.getElem_cons_zero]; go_simp; (try (with_reducible rfl)))
              simp only [List.getElem_toArray, List.getElem_cons_succ, List.getElem_cons_zero, Act.put, List.setIfInBounds_toArray, List.set_cons_zero, List.set_cons_succ]
              refine wpAnyH_take (i := 8) (v := ?_) rfl (by kernel_rfl) (by kernel_rfl) (by kernel_rfl) (fun _ _ _ h => h) (Or.inl ⟨by rfl, ?_⟩) (by assumption) ?_; rotate_left; focus (intro w hSw; (try dsimp only at hSw); simp only [List.getElem_toArray, List.getElem_cons_succ, List.getElem_cons_zero]; go_simp; (try (with_reducible rfl)))
              simp only [List.getElem_toArray, List.getElem_cons_succ, List.getElem_cons_zero, Act.put, List.setIfInBounds_toArray, List.set_cons_zero, List.set_cons_succ]
              refine wpAnyH_take (i := 9) (v := ?_) rfl (by kernel_rfl) (by kernel_rfl) (by kernel_rfl) (fun _ _ _ h => h) (Or.inl ⟨by rfl, ?_⟩) (by assumption) ?_; rotate_left; focus (intro w hSw; (try dsimp only at hSw); simp only [List.getElem_toArray, List.getElem_cons_succ, List.getElem_cons_zero]; go_simp; (try (with_reducible rfl)))
              simp only [List.getElem_toArray, List.getElem_cons_succ, List.getElem_cons_zero, Act.put, List.setIfInBounds_toArray, List.set_cons_zero, List.set_cons_succ]
              refine wpAnyH_take (i := 10) (v := ?_) rfl (by kernel_rfl) (by kernel_rfl) (by kernel_rfl) (fun _ _ _ h => h) (Or.inl ⟨by rfl, ?_⟩) (by assumption) ?_; rotate_left; focus (intro w hSw; (try dsimp only at hSw); simp only [List.getElem_toArray, List.getElem_cons_succ, List.getElem_cons_zero]; go_simp; (try (with_reducible rfl)))
              simp only [List.getElem_toArray, List.getElem_cons_succ, List.getElem_cons_zero, Act.put, List.setIfInBounds_toArray, List.set_cons_zero, List.set_cons_succ]
              refine wpAnyH_take (i := 11) (v := ?_) rfl (by kernel_rfl) (by kernel_rfl) (by kernel_rfl) (fun _ _ _ h => h) (Or.inl ⟨by rfl, ?_⟩) (by assumption) ?_; rotate_left; focus (intro w hSw; (try dsimp only at hSw); simp only [List.getElem_toArray, List.getElem_cons_succ, List.getElem_cons_zero]; go_simp; (try (with_reducible rfl)))
              simp only [List.getElem_toArray, List.getElem_cons_succ, List.getElem_cons_zero, Act.put, List.setIfInBounds_toArray, List.set_cons_zero, List.set_cons_succ]
              refine wpAnyH_take (i := 12) (v := ?_) rfl (by kernel_rfl) (by kernel_rfl) (by kernel_rfl) (fun _ _ _ h => h) (Or.inl ⟨by rfl, ?_⟩) (by assumption) ?_; rotate_left; focus (intro w hSw; (try dsimp only at hSw); simp only [List.getElem_toArray, List.getElem_cons_succ, List.getElem_cons_zero]; go_simp; (try (with_reducible rfl)))
              simp only [List.getElem_toArray, List.getElem_cons_succ, List.getElem_cons_zero, Act.put, List.setIfInBounds_toArray, List.set_cons_zero, List.set_cons_succ]
              refine wpAnyH_take (i := 13) (v := ?_) rfl (by kernel_rfl) (by kernel_rfl) (by kernel_rfl) (fun _ _ _ h => h) (Or.inl ⟨by rfl, ?_⟩) (by assumption) ?_; rotate_left; focus (intro w hSw; (try dsimp only at hSw); simp only [List.getElem_toArray, List.getElem_cons_succ, List.getElem_cons_zero]; go_simp; (try (with_reducible rfl)))
              simp only [List.getElem_toArray, List.getElem_cons_succ, List.getElem_cons_zero, Act.put, List.setIfInBounds_toArray, List.set_cons_zero, List.set_cons_succ]
              refine wpAnyH_take (i := 14) (v := ?_) rfl (by kernel_rfl) (by kernel_rfl) (by kernel_rfl) (fun _ _ _ h => h) (Or.inl ⟨by rfl, ?_⟩) (by assumption) ?_; rotate_left; focus (intro w hSw; (try dsimp only at hSw); simp only [List.getElem_toArray, List.getElem_cons_succ, List.getElem_cons_zero]; go_simp; (try (with_reducible rfl)))
              simp only [List.getElem_toArray, List.getElem_cons_succ, List.getElem_cons_zero, Act.put, List.setIfInBounds_toArray, List.set_cons_zero, List.set_cons_succ]
              refine wpAnyH_take (i := 15) (v := ?_) rfl (by kernel_rfl) (by kernel_rfl) (by kernel_rfl) (fun _ _ _ h => h) (Or.inl ⟨by rfl, ?_⟩) (by assumption) ?_; rotate_left; focus (intro w hSw; (try dsimp only at hSw); simp only [List.getElem_toArray, List.getElem_cons_succ, List.getElem_cons_zero]; go_simp; (try (with_reducible rfl)))
              simp only [List.getElem_toArray, List.getElem_cons_succ, List.getElem_cons_zero, Act.put, List.setIfInBounds_toArray, List.set_cons_zero, List.set_cons_succ]
              refine wpAnyH_take (i := 16) (v := ?_) rfl (by kernel_rfl) (by kernel_rfl) (by kernel_rfl) (fun _ _ _ h => h) (Or.inl ⟨by rfl, ?_⟩) (by assumption) ?_; rotate_left; focus (intro w hSw; (try dsimp only at hSw); simp only [List.getElem_toArray, List.getElem_cons_succ, List.getElem_cons_zero]; go_simp; (try (with_reducible rfl)))
              simp only [List.getElem_toArray, List.getElem_cons_succ, List.getElem_cons_zero, Act.put, List.setIfInBounds_toArray, List.set_cons_zero, List.set_cons_succ]
              refine wpAnyH_take (i := 17) (v := ?_) rfl (by kernel_rfl) (by kernel_rfl) (by kernel_rfl) (fun _ _ _ h => h) (Or.inl ⟨by rfl, ?_⟩) (by assumption) ?_; rotate_left; focus (intro w hSw; (try dsimp only at hSw); simp only [List.getElem_toArray, List.getElem_cons_succ, List.getElem_cons_zero]; go_simp; (try (with_reducible rfl)))
              simp only [List.getElem_toArray, List.getElem_cons_succ, List.getElem_cons_zero, Act.put, List.setIfInBounds_toArray, List.set_cons_zero, List.set_cons_succ]
              refine wpAnyH_take (i := 18) (v := ?_) rfl (by kernel_rfl) (by kernel_rfl) (by kernel_rfl) (fun _ _ _ h => h) (Or.inl ⟨by rfl, ?_⟩) (by assumption) ?_; rotate_left; focus (intro w hSw; (try dsimp only at hSw); simp only [List.getElem_toArray, List.getElem_cons_succ, List.getElem_cons_zero]; go_simp; (try (with_reducible rfl)))
              simp only [List.getElem_toArray, List.getElem_cons_succ, List.getElem_cons_zero, Act.put, List.setIfInBounds_toArray, List.set_cons_zero, List.set_cons_succ]
              refine wpAnyH_take (i := 19) (v := ?_) rfl (by kernel_rfl) (by kernel_rfl) (by kernel_rfl) (fun _ _ _ h => h) (Or.inl ⟨by rfl, ?_⟩) (by assumption) ?_; rotate_left; focus (intro w hSw; (try dsimp only at hSw); simp only [List.getElem_toArray, List.getElem_cons_succ, List.getElem_cons_zero]; go_simp; (try (with_reducible rfl)))
              simp only [List.getElem_toArray, List.getElem_cons_succ, List.getElem_cons_zero, Act.put, List.setIfInBounds_toArray, List.set_cons_zero, List.set_cons_succ]
              refine wpAnyH_take (i := 20) (v := ?_) rfl (by kernel_rfl) (by kernel_rfl) (by kernel_rfl) (fun _ _ _ h => h) (Or.inl ⟨by rfl, ?_⟩) (by assumption) ?_; rotate_left; focus (intro w hSw; (try dsimp only at hSw); simp only [List.getElem_toArray, List.getElem_cons_succ, List.getElem_cons_zero]; go_simp; (try (with_reducible rfl)))
              simp only [List.getElem_toArray, List.getElem_cons_succ, List.getElem_cons_zero, Act.put, List.setIfInBounds_toArray, List.set_cons_zero, List.set_cons_succ]
              refine wpAnyH_take (i := 21) (v := ?_) rfl (by kernel_rfl) (by kernel_rfl) (by kernel_rfl) (fun _ _ _ h => h) (Or.inl ⟨by rfl, ?_⟩) (by assumption) ?_; rotate_left; focus (intro w hSw; (try dsimp only at hSw); simp only [List.getElem_toArray, List.getElem_cons_succ, List.getElem_cons_zero]; go_simp; (try (with_reducible rfl)))
              simp only [List.getElem_toArray, List.getElem_cons_succ, List.getElem_cons_zero, Act.put, List.setIfInBounds_toArray, List.set_cons_zero, List.set_cons_succ]
              refine wpAnyH_take (i := 22) (v := ?_) rfl (by kernel_rfl) (by kernel_rfl) (by kernel_rfl) (fun _ _ _ h => h) (Or.inl ⟨by rfl, ?_⟩) (by assumption) ?_; rotate_left; focus (intro w hSw; (try dsimp only at hSw); simp only [List.getElem_toArray, List.getElem_cons_succ, List.getElem_cons_zero]; go_simp; (try (with_reducible rfl)))
              simp only [List.getElem_toArray, List.getElem_cons_succ, List.getElem_cons_zero, Act.put, List.setIfInBounds_toArray, List.set_cons_zero, List.set_cons_succ]
              refine wpAnyH_take (i := 23) (v := ?_) rfl (by kernel_rfl) (by kernel_rfl) (by kernel_rfl) (fun _ _ _ h => h) (Or.inl ⟨by rfl, ?_⟩) (by assumption) ?_; rotate_left; focus (intro w hSw; (try dsimp only at hSw); simp only [List.getElem_toArray, List.getElem_cons_succ, List.getElem_cons_zero]; go_simp; (try (with_reducible rfl)))
              simp only [List.getElem_toArray, List.getElem_cons_succ, List.getElem_cons_zero, Act.put, List.setIfInBounds_toArray, List.set_cons_zero, List.set_cons_succ]
              refine wpAnyH_take (i := 24) (v := ?_) rfl (by kernel_rfl) (by kernel_rfl) (by kernel_rfl) (fun _ _ _ h => h) (Or.inl ⟨by rfl, ?_⟩) (by assumption) ?_; rotate_left; focus (intro w hSw; (try dsimp only at hSw); simp only [List.getElem_toArray, List.getElem_cons_succ, List.getElem_cons_zero]; go_simp; (try (with_reducible rfl)))
              simp only [List.getElem_toArray, List.getElem_cons_succ, List.getElem_cons_zero, Act.put, List.setIfInBounds_toArray, List.set_cons_zero, List.set_cons_succ]
              refine wpAnyH_take (i := 25) (v := ?_) rfl (by kernel_rfl) (by kernel_rfl) (by kernel_rfl) (fun _ _ _ h => h) (Or.inl ⟨by rfl, ?_⟩) (by assumption) ?_; rotate_left; focus (intro w hSw; (try dsimp only at hSw); simp only [List.getElem_toArray, List.getElem_cons_succ, List.getElem_cons_zero]; go_simp; (try (with_reducible rfl)))
              simp only [List.getElem_toArray, List.getElem_cons_succ, List.getElem_cons_zero, Act.put, List.setIfInBounds_toArray, List.set_cons_zero, List.set_cons_succ]
              refine wpAnyH_take (i := 26) (v := ?_) rfl (by kernel_rfl) (by kernel_rfl) (by kernel_rfl) (fun _ _ _ h => h) (Or.inl ⟨by rfl, ?_⟩) (by assumption) ?_; rotate_left; focus (intro w hSw; (try dsimp only at hSw); simp only [List.getElem_toArray, List.getElem_cons_succ, List.getElem_cons_zero]; go_simp; (try (with_reducible rfl)))
              simp only [List.getElem_toArray, List.getElem_cons_succ, List.getElem_cons_zero, Act.put, List.setIfInBounds_toArray, List.set_cons_zero, List.set_cons_succ]
              refine wpAnyH_take (i := 27) (v := undef) rfl (by kernel_rfl) (by kernel_rfl) (by kernel_rfl) (fun _ _ _ h => h) (Or.inr ⟨by rfl, rfl⟩) (by assumption) ?_
              simp only [List.getElem_toArray, List.getElem_cons_succ, List.getElem_cons_zero, Act.put, List.setIfInBounds_toArray, List.set_cons_zero, List.set_cons_succ]
              refine wpAnyH_take (i := 28) (v := undef) rfl (by kernel_rfl) (by kernel_rfl) (by kernel_rfl) (fun _ _ _ h => h) (Or.inr ⟨by rfl, rfl⟩) (by assumption) ?_
              simp only [List.getElem_toArray, List.getElem_cons_succ, List.getElem_cons_zero, Act.put, List.setIfInBounds_toArray, List.set_cons_zero, List.set_cons_succ]
              refine wpAnyH_take (i := 29) (v := undef) rfl (by kernel_rfl) (by kernel_rfl) (by kernel_rfl) (fun _ _ _ h => h) (Or.inr ⟨by rfl, rfl⟩) (by assumption) ?_
              simp only [List.getElem_toArray, List.getElem_cons_succ, List.getElem_cons_zero, Act.put, List.setIfInBounds_toArray, List.set_cons_zero, List.set_cons_succ]
              refine wpAnyH_take (i := 30) (v := undef) rfl (by kernel_rfl) (by kernel_rfl) (by kernel_rfl) (fun _ _ _ h => h) (Or.inr ⟨by rfl, rfl⟩) (by assumption) ?_
              simp only [List.getElem_toArray, List.getElem_cons_succ, List.getElem_cons_zero, Act.put, List.setIfInBounds_toArray, List.set_cons_zero, List.set_cons_succ]
              refine wpAnyH_take (i := 31) (v := undef) rfl (by kernel_rfl) (by kernel_rfl) (by kernel_rfl) (fun _ _ _ h => h) (Or.inr ⟨by rfl, rfl⟩) (by assumption) ?_
              simp only [List.getElem_toArray, List.getElem_cons_succ, List.getElem_cons_zero, Act.put, List.setIfInBounds_toArray, List.set_cons_zero, List.set_cons_succ]
              refine wpAnyH_take (i := 32) (v := undef) rfl (by kernel_rfl) (by kernel_rfl) (by kernel_rfl) (fun _ _ _ h => h) (Or.inr ⟨by rfl, rfl⟩) (by assumption) ?_
              simp only [List.getElem_toArray, List.getElem_cons_succ, List.getElem_cons_zero, Act.put, List.setIfInBounds_toArray, List.set_cons_zero, List.set_cons_succ]
              refine wpAnyH_take (i := 33) (v := undef) rfl (by kernel_rfl) (by kernel_rfl) (by kernel_rfl) (fun _ _ _ h => h) (Or.inr ⟨by rfl, rfl⟩) (by assumption) ?_
              simp only [List.getElem_toArray, List.getElem_cons_succ, List.getElem_cons_zero, Act.put, List.setIfInBounds_toArray, List.set_cons_zero, List.set_cons_succ]
              refine wpAnyH_take (i := 34) (v := undef) rfl (by kernel_rfl) (by kernel_rfl) (by kernel_rfl) (fun _ _ _ h => h) (Or.inr ⟨by rfl, rfl⟩) (by assumption) ?_
              simp only [List.getElem_toArray, List.getElem_cons_succ, List.getElem_cons_zero, Act.put, List.setIfInBounds_toArray, List.set_cons_zero, List.set_cons_succ]
              refine wpAnyH_take (i := 35) (v := undef) rfl (by kernel_rfl) (by kernel_rfl) (by kernel_rfl) (fun _ _ _ h => h) (Or.inr ⟨by rfl, rfl⟩) (by assumption) ?_
              simp only [List.getElem_toArray, List.getElem_cons_succ, List.getElem_cons_zero, Act.put, List.setIfInBounds_toArray, List.set_cons_zero, List.set_cons_succ]
              refine wpAnyH_take (i := 36) (v := undef) rfl (by kernel_rfl) (by kernel_rfl) (by kernel_rfl) (fun _ _ _ h => h) (Or.inr ⟨by rfl, rfl⟩) (by assumption) ?_
              simp only [List.getElem_toArray, List.getElem_cons_succ, List.getElem_cons_zero, Act.put, List.setIfInBounds_toArray, List.set_cons_zero, List.set_cons_succ]
              refine wpAnyH_take (i := 37) (v := undef) rfl (by kernel_rfl) (by kernel_rfl) (by kernel_rfl) (fun _ _ _ h => h) (Or.inr ⟨by rfl, rfl⟩) (by assumption) ?_
              simp only [List.getElem_toArray, List.getElem_cons_succ, List.getElem_cons_zero, Act.put, List.setIfInBounds_toArray, List.set_cons_zero, List.set_cons_succ]
              refine wpAnyH_take (i := 38) (v := undef) rfl (by kernel_rfl) (by kernel_rfl) (by kernel_rfl) (fun _ _ _ h => h) (Or.inr ⟨by rfl, rfl⟩) (by assumption) ?_
              simp only [List.getElem_toArray, List.getElem_cons_succ, List.getElem_cons_zero, Act.put, List.setIfInBounds_toArray, List.set_cons_zero, List.set_cons_succ]
              refine wpAnyH_take (i := 39) (v := undef) rfl (by kernel_rfl) (by kernel_rfl) (by kernel_rfl) (fun _ _ _ h => h) (Or.inr ⟨by rfl, rfl⟩) (by assumption) ?_
              simp only [List.getElem_toArray, List.getElem_cons_succ, List.getElem_cons_zero, Act.put, List.setIfInBounds_toArray, List.set_cons_zero, List.set_cons_succ]
              refine wpAnyH_take (i := 40) (v := undef) rfl (by kernel_rfl) (by kernel_rfl) (by kernel_rfl) (fun _ _ _ h => h) (Or.inr ⟨by rfl, rfl⟩) (by assumption) ?_
              simp only [List.getElem_toArray, List.getElem_cons_succ, List.getElem_cons_zero, Act.put, List.setIfInBounds_toArray, List.set_cons_zero, List.set_cons_succ]
              refine wpAnyH_take (i := 41) (v := undef) rfl (by kernel_rfl) (by kernel_rfl) (by kernel_rfl) (fun _ _ _ h => h) (Or.inr ⟨by rfl, rfl⟩) (by assumption) ?_
              simp only [List.getElem_toArray, List.getElem_cons_succ, List.getElem_cons_zero, Act.put, List.setIfInBounds_toArray, List.set_cons_zero, List.set_cons_succ]
              refine wpAnyH_take (i := 42) (v := undef) rfl (by kernel_rfl) (by kernel_rfl) (by kernel_rfl) (fun _ _ _ h => h) (Or.inr ⟨by rfl, rfl⟩) (by assumption) ?_
              simp only [List.getElem_toArray, List.getElem_cons_succ, List.getElem_cons_zero, Act.put, List.setIfInBounds_toArray, List.set_cons_zero, List.set_cons_succ]
              refine wpAnyH_take (i := 43) (v := undef) rfl (by kernel_rfl) (by kernel_rfl) (by kernel_rfl) (fun _ _ _ h => h) (Or.inr ⟨by rfl, rfl⟩) (by assumption) ?_
              simp only [List.getElem_toArray, List.getElem_cons_succ, List.getElem_cons_zero, Act.put, List.setIfInBounds_toArray, List.set_cons_zero, List.set_cons_succ]
              refine wpAnyH_take (i := 44) (v := undef) rfl (by kernel_rfl) (by kernel_rfl) (by kernel_rfl) (fun _ _ _ h => h) (Or.inr ⟨by rfl, rfl⟩) (by assumption) ?_
              simp only [List.getElem_toArray, List.getElem_cons_succ, List.getElem_cons_zero, Act.put, List.setIfInBounds_toArray, List.set_cons_zero, List.set_cons_succ]
              refine wpAnyH_take (i := 45) (v := undef) rfl (by kernel_rfl) (by kernel_rfl) (by kernel_rfl) (fun _ _ _ h => h) (Or.inr ⟨by rfl, rfl⟩) (by assumption) ?_
              simp only [List.getElem_toArray, List.getElem_cons_succ, List.getElem_cons_zero, Act.put, List.setIfInBounds_toArray, List.set_cons_zero, List.set_cons_succ]
              refine wpAnyH_take (i := 46) (v := undef) rfl (by kernel_rfl) (by kernel_rfl) (by kernel_rfl) (fun _ _ _ h => h) (Or.inr ⟨by rfl, rfl⟩) (by assumption) ?_
              simp only [List.getElem_toArray, List.getElem_cons_succ, List.getElem_cons_zero, Act.put, List.setIfInBounds_toArray, List.set_cons_zero, List.set_cons_succ]
              refine wpAnyH_take (i := 47) (v := undef) rfl (by kernel_rfl) (by kernel_rfl) (by kernel_rfl) (fun _ _ _ h => h) (Or.inr ⟨by rfl, rfl⟩) (by assumption) ?_
              simp only [List.getElem_toArray, List.getElem_cons_succ, List.getElem_cons_zero, Act.put, List.setIfInBounds_toArray, List.set_cons_zero, List.set_cons_succ]
              refine wpAnyH_take (i := 48) (v := undef) rfl (by kernel_rfl) (by kernel_rfl) (by kernel_rfl) (fun _ _ _ h => h) (Or.inr ⟨by rfl, rfl⟩) (by assumption) ?_
              simp only [List.getElem_toArray, List.getElem_cons_succ, List.getElem_cons_zero, Act.put, List.setIfInBounds_toArray, List.set_cons_zero, List.set_cons_succ]
              refine wpAnyH_take (i := 49) (v := undef) rfl (by kernel_rfl) (by kernel_rfl) (by kernel_rfl) (fun _ _ _ h => h) (Or.inr ⟨by rfl, rfl⟩) (by assumption) ?_
              simp only [List.getElem_toArray, List.getElem_cons_succ, List.getElem_cons_zero, Act.put, List.setIfInBounds_toArray, List.set_cons_zero, List.set_cons_succ]
              refine wpAnyH_take (i := 50) (v := undef) rfl (by kernel_rfl) (by kernel_rfl) (by kernel_rfl) (fun _ _ _ h => h) (Or.inr ⟨by rfl, rfl⟩) (by assumption) ?_
              simp only [List.getElem_toArray, List.getElem_cons_succ, List.getElem_cons_zero, Act.put, List.setIfInBounds_toArray, List.set_cons_zero, List.set_cons_succ]
              refine wpAnyH_take (i := 51) (v := undef) rfl (by kernel_rfl) (by kernel_rfl) (by kernel_rfl) (fun _ _ _ h => h) (Or.inr ⟨by rfl, rfl⟩) (by assumption) ?_
              simp only [List.getElem_toArray, List.getElem_cons_succ, List.getElem_cons_zero, Act.put, List.setIfInBounds_toArray, List.set_cons_zero, List.set_cons_succ]
              refine wpAnyH_take (i := 52) (v := undef) rfl (by kernel_rfl) (by kernel_rfl) (by kernel_rfl) (fun _ _ _ h => h) (Or.inr ⟨by rfl, rfl⟩) (by assumption) ?_
              simp only [List.getElem_toArray, List.getElem_cons_succ, List.getElem_cons_zero, Act.put, List.setIfInBounds_toArray, List.set_cons_zero, List.set_cons_succ]
              refine wpAnyH_take (i := 53) (v := undef) rfl (by kernel_rfl) (by kernel_rfl) (by kernel_rfl) (fun _ _ _ h => h) (Or.inr ⟨by rfl, rfl⟩) (by assumption) ?_
              simp only [List.getElem_toArray, List.getElem_cons_succ, List.getElem_cons_zero, Act.put, List.setIfInBounds_toArray, List.set_cons_zero, List.set_cons_succ]
              refine wpAnyH_take (i := 54) (v := undef) rfl (by kernel_rfl) (by kernel_rfl) (by kernel_rfl) (fun _ _ _ h => h) (Or.inr ⟨by rfl, rfl⟩) (by assumption) ?_
              simp only [List.getElem_toArray, List.getElem_cons_succ, List.getElem_cons_zero, Act.put, List.setIfInBounds_toArray, List.set_cons_zero, List.set_cons_succ]
              refine wpAnyH_take (i := 55) (v := undef) rfl (by kernel_rfl) (by kernel_rfl) (by kernel_rfl) (fun _ _ _ h => h) (Or.inr ⟨by rfl, rfl⟩) (by assumption) ?_
              simp only [List.getElem_toArray, List.getElem_cons_succ, List.getElem_cons_zero, Act.put, List.setIfInBounds_toArray, List.set_cons_zero, List.set_cons_succ]
              refine wpAnyH_take (i := 56) (v := undef) rfl (by kernel_rfl) (by kernel_rfl) (by kernel_rfl) (fun _ _ _ h => h) (Or.inr ⟨by rfl, rfl⟩) (by assumption) ?_
              simp only [List.getElem_toArray, List.getElem_cons_succ, List.getElem_cons_zero, Act.put, List.setIfInBounds_toArray, List.set_cons_zero, List.set_cons_succ]
              refine wpAnyH_take (i := 57) (v := undef) rfl (by kernel_rfl) (by kernel_rfl) (by kernel_rfl) (fun _ _ _ h => h) (Or.inr ⟨by rfl, rfl⟩) (by assumption) ?_
              simp only [List.getElem_toArray, List.getElem_cons_succ, List.getElem_cons_zero, Act.put, List.setIfInBounds_toArray, List.set_cons_zero, List.set_cons_succ]
              refine wpAnyH_take (i := 58) (v := undef) rfl (by kernel_rfl) (by kernel_rfl) (by kernel_rfl) (fun _ _ _ h => h) (Or.inr ⟨by rfl, rfl⟩) (by assumption) ?_
              simp only [List.getElem_toArray, List.getElem_cons_succ, List.getElem_cons_zero, Act.put, List.setIfInBounds_toArray, List.set_cons_zero, List.set_cons_succ]
              refine wpAnyH_take (i := 59) (v := undef) rfl (by kernel_rfl) (by kernel_rfl) (by kernel_rfl) (fun _ _ _ h => h) (Or.inr ⟨by rfl, rfl⟩) (by assumption) ?_
              simp only [List.getElem_toArray, List.getElem_cons_succ, List.getElem_cons_zero, Act.put, List.setIfInBounds_toArray, List.set_cons_zero, List.set_cons_succ]
              refine wpAnyH_take (i := 60) (v := undef) rfl (by kernel_rfl) (by kernel_rfl) (by kernel_rfl) (fun _ _ _ h => h) (Or.inr ⟨by rfl, rfl⟩) (by assumption) ?_
              simp only [List.getElem_toArray, List.getElem_cons_succ, List.getElem_cons_zero, Act.put, List.setIfInBounds_toArray, List.set_cons_zero, List.set_cons_succ]
              refine wpAnyH_take (i := 61) (v := ?_) rfl (by kernel_rfl) (by kernel_rfl) (by kernel_rfl) (fun _ _ _ h => h) (Or.inl ⟨by rfl, ?_⟩) (by assumption) ?_; rotate_left; focus (intro w hSw; (try dsimp only at hSw); simp only [List.getElem_toArray, List.getElem_cons_succ, List.getElem_cons_zero]; go_simp; (try (with_reducible rfl)))
              simp only [List.getElem_toArray, List.getElem_cons_succ, List.getElem_cons_zero, Act.put, List.setIfInBounds_toArray, List.set_cons_zero, List.set_cons_succ]
              refine wpAnyH_take (i := 62) (v := ?_) rfl (by kernel_rfl) (by kernel_rfl) (by kernel_rfl) (fun _ _ _ h => h) (Or.inl ⟨by rfl, ?_⟩) (by assumption) ?_; rotate_left; focus (intro w hSw; (try dsimp only at hSw); simp only [List.getElem_toArray, List.getElem_cons_succ, List.getElem_cons_zero]; go_simp; (try (with_reducible rfl)))
              simp only [List.getElem_toArray, List.getElem_cons_succ, List.getElem_cons_zero, Act.put, List.setIfInBounds_toArray, List.set_cons_zero, List.set_cons_succ]
              refine wpAnyH_take (i := 63) (v := ?_) rfl (by kernel_rfl) (by kernel_rfl) (by kernel_rfl) (fun _ _ _ h => h) (Or.inl ⟨by rfl, ?_⟩) (by assumption) ?_; rotate_left; focus (intro w hSw; (try dsimp only at hSw); simp only [List.getElem_toArray, List.getElem_cons_succ, List.getElem_cons_zero]; go_simp; (try (with_reducible rfl)))
              simp only [List.getElem_toArray, List.getElem_cons_succ, List.getElem_cons_zero, Act.put, List.setIfInBounds_toArray, List.set_cons_zero, List.set_cons_succ]
              refine wpAnyH_done (by kernel_rfl) ?_ _
              clear hHeld
              go_wp2_with fail
              go_ret
              exact ⟨by first | rfl | decide | (simp; done), HB7w.out.trans (HB11.out.drew.mono HB7w.out.size)⟩
            · have hmz : ¬ (m - 1 = 0) := by omega
              have ho21 := HO21.out
              rw [if_neg hmz] at ho21
              obtain ⟨gm, cm2, e21⟩ : ∃ g cap, v21 = .slice (some ⟨g, 0, none⟩) 1 cap := by
                rcases ho21.2 with ⟨_, h0⟩ | ⟨g, cap, _, h0, _⟩
                · simp at h0
                · exact ⟨g, cap, h0⟩
              subst e21
              have hcm0 : w11.cell? ⟨gm, 0, none⟩ = some (.int .i64 (im : Int)) := by rw [ho21.cellAt 0 (by simp)]; rfl
              have HBr11 := Aside0.mk (HB7r.out.trans (HB11.out.mono HB7r.out.size))
              have HB211 := Aside0.mk (HB72.out.trans (HB11.out.mono HB72.out.size))
              obtain ⟨a2', Ai, Ci, ha2', hci, hli, hCi⟩ := HR2.out.at_ im (by rw [HVL.out]; exact him)
              injection ha2' with ha2'
              subst ha2'
              have hvi : (volsOf l S)[im]'(by rw [HVL.out]; exact him) = x0 := by
                unfold volsOf
                rw [List.getElem_map, List.getElem_range, HX0.out, HN.out, ← HM.out]
              rw [hvi] at hci hli hCi
              obtain ⟨A0, C0, hc0, hl0, hC0⟩ : ∃ Ar Cr, cs[0]'(by rw [HCL.out]; omega) = .slice Ar x0.length Cr ∧ x0.length ≤ Cr ∧ Kd.C (Kd.int .u8) w2 Ar x0.length x0 := by
                have h := HPR.out.2 0 (by rw [HCL.out]; omega) (by rw [HPL.out]; omega)
                have hp0 : P[0]'(by rw [HPL.out]; omega) = x0 := by simp only [HPT.out, List.getElem_cons_zero]
                rw [hp0] at h
                exact h
              have hcg : wr.cell? ⟨g, 0, none⟩ = some (.slice A0 x0.length C0) := by rw [HO.out.cellAt 0 (by omega), List.getElem?_eq_getElem (by rw [HCL.out]; omega), hc0]
              have hbx0 : ∀ x ∈ x0, 0 ≤ x ∧ x ≤ 255 := by rw [HX0.out]; exact vol_bd _ _ (part_at_bd HY.out S im)
              have hcg11 := pw_cell_below HBr11.out hcg
              have hci11 := pw_cell_below HB211.out hci
              have HS21 := Aside0.mk (show Hid (Below wc.heap.size wc w11.drew) ∧ w11.drew.cell? ⟨gm, 0, none⟩ = some (.int .i64 (im : Int)) ∧ w11.drew.cell? (a2.add im) = some (.slice Ai x0.length Ci) ∧ w11.drew.cell? ⟨g, 0, none⟩ = some (.slice A0 x0.length C0) from ⟨Lib.hid HB11.out.drew, hcm0, hci11, hcg11⟩)
              have HSame := Aside0.mk (fun (W : World) (hS : Hid (Below wc.heap.size wc W) ∧ W.cell? ⟨gm, 0, none⟩ = some (.int .i64 (im : Int)) ∧ W.cell? (a2.add im) = some (.slice Ai x0.length Ci) ∧ W.cell? ⟨g, 0, none⟩ = some (.slice A0 x0.length C0)) =>
                have hB7W : Below wc.heap.size wc W := hS.1
                have hB2W : Below w2.heap.size w2 W := HB72.out.trans (hB7W.mono HB72.out.size)
                (same_calls Ai A0 x0.length x0.length Ci C0 x0 x0 W (Kd.C_below hCi hB2W) (Kd.C_below hC0 hB2W) hli hl0 hbx0 hbx0).mono fun e W' h => (⟨by rw [h.1]; simp, Lib.hid (hB7W.trans (h.2.mono hB7W.size)), pw_cell_below h.2 hS.2.1, pw_cell_below h.2 hS.2.2.1, pw_cell_below h.2 hS.2.2.2⟩ : e = .returned (.bool true) ∧ (Hid (Below wc.heap.size wc W') ∧ W'.cell? ⟨gm, 0, none⟩ = some (.int .i64 (im : Int)) ∧ W'.cell? (a2.add im) = some (.slice Ai x0.length Ci) ∧ W'.cell? ⟨g, 0, none⟩ = some (.slice A0 x0.length C0))))
              have hm2i : ((m : Int) == 1) = false := by rw [beq_eq_false_iff_ne]; omega
              have hwi : IntKind.i64.wrap (im : Int) = (im : Int) := (i64_w _).trans (IntWalk.wrap64_in _ ⟨by omega, by omega⟩)
              have hmgt : (1 : Int) < (m : Int) := by omega
              have him' : (im : Int) < (m : Int) := by omega
              have hm0 : 0 < m := by omega
              clear ho21 hmz hvi hc0 hcg hci hcg11 hci11 hcm0 hCi hC0 hbx0 hm1e
              go_upto_region 21 with (fail)
              refine wp_region_held_drew (S := (fun W : World => Hid (Below wc.heap.size wc W) ∧ W.cell? ⟨gm, 0, none⟩ = some (.int .i64 (im : Int)) ∧ W.cell? (a2.add im) = some (.slice Ai x0.length Ci) ∧ W.cell? ⟨g, 0, none⟩ = some (.slice A0 x0.length C0))) (by kernel_rfl) ?_ (fun hHeld => ?_)
              · exact HS21.out
              refine wpAnyH_take (i := 0) (v := ?_) rfl (by kernel_rfl) (by kernel_rfl) (by kernel_rfl) (fun _ _ _ h => h) (Or.inl ⟨by rfl, ?_⟩) (by assumption) ?_; rotate_left; focus (intro w hSw; (try dsimp only at hSw); simp only [List.getElem_toArray, List.getElem_cons_succ, List.getElem_cons_zero]; go_simp; (try (with_reducible rfl)))
              simp only [List.getElem_toArray, List.getElem_cons_succ, List.getElem_cons_zero, Act.put, List.setIfInBounds_toArray, List.set_cons_zero, List.set_cons_succ]
              refine wpAnyH_take (i := 1) (v := ?_) rfl (by kernel_rfl) (by kernel_rfl) (by kernel_rfl) (fun _ _ _ h => h) (Or.inl ⟨by rfl, ?_⟩) (by assumption) ?_; rotate_left; focus (intro w hSw; (try dsimp only at hSw); simp only [List.getElem_toArray, List.getElem_cons_succ, List.getElem_cons_zero]; go_simp; (try (with_reducible rfl)))
              simp only [List.getElem_toArray, List.getElem_cons_succ, List.getElem_cons_zero, Act.put, List.setIfInBounds_toArray, List.set_cons_zero, List.set_cons_succ]
              refine wpAnyH_take (i := 2) (v := ?_) rfl (by kernel_rfl) (by kernel_rfl) (by kernel_rfl) (fun _ _ _ h => h) (Or.inl ⟨by rfl, ?_⟩) (by assumption) ?_; rotate_left; focus (intro w hSw; (try dsimp only at hSw); simp only [List.getElem_toArray, List.getElem_cons_succ, List.getElem_cons_zero]; go_simp; (try (with_reducible rfl)))
              simp only [List.getElem_toArray, List.getElem_cons_succ, List.getElem_cons_zero, Act.put, List.setIfInBounds_toArray, List.set_cons_zero, List.set_cons_succ]
              refine wpAnyH_take (i := 3) (v := ?_) rfl (by kernel_rfl) (by kernel_rfl) (by kernel_rfl) (fun _ _ _ h => h) (Or.inl ⟨by rfl, ?_⟩) (by assumption) ?_; rotate_left; focus (intro w hSw; (try dsimp only at hSw); simp only [List.getElem_toArray, List.getElem_cons_succ, List.getElem_cons_zero]; go_simp; (try (with_reducible rfl)))
              simp only [List.getElem_toArray, List.getElem_cons_succ, List.getElem_cons_zero, Act.put, List.setIfInBounds_toArray, List.set_cons_zero, List.set_cons_succ]
              refine wpAnyH_take (i := 4) (v := ?_) rfl (by kernel_rfl) (by kernel_rfl) (by kernel_rfl) (fun _ _ _ h => h) (Or.inl ⟨by rfl, ?_⟩) (by assumption) ?_; rotate_left; focus (intro w hSw; (try dsimp only at hSw); simp only [List.getElem_toArray, List.getElem_cons_succ, List.getElem_cons_zero]; go_simp; (try (with_reducible rfl)))
              simp only [List.getElem_toArray, List.getElem_cons_succ, List.getElem_cons_zero, Act.put, List.setIfInBounds_toArray, List.set_cons_zero, List.set_cons_succ]
              refine wpAnyH_take (i := 5) (v := ?_) rfl (by kernel_rfl) (by kernel_rfl) (by kernel_rfl) (fun _ _ _ h => h) (Or.inl ⟨by rfl, ?_⟩) (by assumption) ?_; rotate_left; focus (intro w hSw; (try dsimp only at hSw); simp only [List.getElem_toArray, List.getElem_cons_succ, List.getElem_cons_zero]; go_simp; (try (with_reducible rfl)))
              simp only [List.getElem_toArray, List.getElem_cons_succ, List.getElem_cons_zero, Act.put, List.setIfInBounds_toArray, List.set_cons_zero, List.set_cons_succ]
              refine wpAnyH_take (i := 6) (v := ?_) rfl (by kernel_rfl) (by kernel_rfl) (by kernel_rfl) (fun _ _ _ h => h) (Or.inl ⟨by rfl, ?_⟩) (by assumption) ?_; rotate_left; focus (intro w hSw; (try dsimp only at hSw); simp only [List.getElem_toArray, List.getElem_cons_succ, List.getElem_cons_zero]; go_simp; (try (with_reducible rfl)))
              simp only [List.getElem_toArray, List.getElem_cons_succ, List.getElem_cons_zero, Act.put, List.setIfInBounds_toArray, List.set_cons_zero, List.set_cons_succ]
              refine wpAnyH_take (i := 7) (v := ?_) rfl (by kernel_rfl) (by kernel_rfl) (by kernel_rfl) (fun _ _ _ h => h) (Or.inl ⟨by rfl, ?_⟩) (by assumption) ?_; rotate_left; focus (intro w hSw; (try dsimp only at hSw); simp only [List.getElem_toArray, List.getElem_cons_succ, List.getElem_cons_zero]; go_simp; (try (with_reducible rfl)))
              simp only [List.getElem_toArray, List.getElem_cons_succ, List.getElem_cons_zero, Act.put, List.setIfInBounds_toArray, List.set_cons_zero, List.set_cons_succ]
              refine wpAnyH_take (i := 8) (v := ?_) rfl (by kernel_rfl) (by kernel_rfl) (by kernel_rfl) (fun _ _ _ h => h) (Or.inl ⟨by rfl, ?_⟩) (by assumption) ?_; rotate_left; focus (intro w hSw; (try dsimp only at hSw); simp only [List.getElem_toArray, List.getElem_cons_succ, List.getElem_cons_zero]; go_simp; (try (with_reducible rfl)))
              simp only [List.getElem_toArray, List.getElem_cons_succ, List.getElem_cons_zero, Act.put, List.setIfInBounds_toArray, List.set_cons_zero, List.set_cons_succ]
              refine wpAnyH_take (i := 9) (v := ?_) rfl (by kernel_rfl) (by kernel_rfl) (by kernel_rfl) (fun _ _ _ h => h) (Or.inl ⟨by rfl, ?_⟩) (by assumption) ?_; rotate_left; focus (intro w hSw; (try dsimp only at hSw); simp only [List.getElem_toArray, List.getElem_cons_succ, List.getElem_cons_zero]; go_simp; (try (with_reducible rfl)))
              simp only [List.getElem_toArray, List.getElem_cons_succ, List.getElem_cons_zero, Act.put, List.setIfInBounds_toArray, List.set_cons_zero, List.set_cons_succ]
              refine wpAnyH_take (i := 10) (v := ?_) rfl (by kernel_rfl) (by kernel_rfl) (by kernel_rfl) (fun _ _ _ h => h) (Or.inl ⟨by rfl, ?_⟩) (by assumption) ?_; rotate_left; focus (intro w hSw; (try dsimp only at hSw); simp only [List.getElem_toArray, List.getElem_cons_succ, List.getElem_cons_zero]; go_simp; (try (with_reducible rfl)))
              simp only [List.getElem_toArray, List.getElem_cons_succ, List.getElem_cons_zero, Act.put, List.setIfInBounds_toArray, List.set_cons_zero, List.set_cons_succ]
              refine wpAnyH_take (i := 11) (v := ?_) rfl (by kernel_rfl) (by kernel_rfl) (by kernel_rfl) (fun _ _ _ h => h) (Or.inl ⟨by rfl, ?_⟩) (by assumption) ?_; rotate_left; focus (intro w hSw; (try dsimp only at hSw); simp only [List.getElem_toArray, List.getElem_cons_succ, List.getElem_cons_zero]; go_simp; (try (with_reducible rfl)))
              simp only [List.getElem_toArray, List.getElem_cons_succ, List.getElem_cons_zero, Act.put, List.setIfInBounds_toArray, List.set_cons_zero, List.set_cons_succ]
              refine wpAnyH_take (i := 12) (v := ?_) rfl (by kernel_rfl) (by kernel_rfl) (by kernel_rfl) (fun _ _ _ h => h) (Or.inl ⟨by rfl, ?_⟩) (by assumption) ?_; rotate_left; focus (intro w hSw; (try dsimp only at hSw); simp only [List.getElem_toArray, List.getElem_cons_succ, List.getElem_cons_zero]; go_simp; (try (with_reducible rfl)))
              simp only [List.getElem_toArray, List.getElem_cons_succ, List.getElem_cons_zero, Act.put, List.setIfInBounds_toArray, List.set_cons_zero, List.set_cons_succ]
              refine wpAnyH_take (i := 13) (v := ?_) rfl (by kernel_rfl) (by kernel_rfl) (by kernel_rfl) (fun _ _ _ h => h) (Or.inl ⟨by rfl, ?_⟩) (by assumption) ?_; rotate_left; focus (intro w hSw; (try dsimp only at hSw); simp only [List.getElem_toArray, List.getElem_cons_succ, List.getElem_cons_zero]; go_simp; (try (with_reducible rfl)))
              simp only [List.getElem_toArray, List.getElem_cons_succ, List.getElem_cons_zero, Act.put, List.setIfInBounds_toArray, List.set_cons_zero, List.set_cons_succ]
              refine wpAnyH_take (i := 14) (v := ?_) rfl (by kernel_rfl) (by kernel_rfl) (by kernel_rfl) (fun _ _ _ h => h) (Or.inl ⟨by rfl, ?_⟩) (by assumption) ?_; rotate_left; focus (intro w hSw; (try dsimp only at hSw); simp only [List.getElem_toArray, List.getElem_cons_succ, List.getElem_cons_zero]; go_simp; (try (with_reducible rfl)))
              simp only [List.getElem_toArray, List.getElem_cons_succ, List.getElem_cons_zero, Act.put, List.setIfInBounds_toArray, List.set_cons_zero, List.set_cons_succ]
              refine wpAnyH_take (i := 15) (v := ?_) rfl (by kernel_rfl) (by kernel_rfl) (by kernel_rfl) (fun _ _ _ h => h) (Or.inl ⟨by rfl, ?_⟩) (by assumption) ?_; rotate_left; focus (intro w hSw; (try dsimp only at hSw); simp only [List.getElem_toArray, List.getElem_cons_succ, List.getElem_cons_zero]; go_simp; (try (with_reducible rfl)))
              simp only [List.getElem_toArray, List.getElem_cons_succ, List.getElem_cons_zero, Act.put, List.setIfInBounds_toArray, List.set_cons_zero, List.set_cons_succ]
              refine wpAnyH_take (i := 16) (v := ?_) rfl (by kernel_rfl) (by kernel_rfl) (by kernel_rfl) (fun _ _ _ h => h) (Or.inl ⟨by rfl, ?_⟩) (by assumption) ?_; rotate_left; focus (intro w hSw; (try dsimp only at hSw); simp only [List.getElem_toArray, List.getElem_cons_succ, List.getElem_cons_zero]; go_simp; (try (with_reducible rfl)))
              simp only [List.getElem_toArray, List.getElem_cons_succ, List.getElem_cons_zero, Act.put, List.setIfInBounds_toArray, List.set_cons_zero, List.set_cons_succ]
              refine wpAnyH_take (i := 17) (v := ?_) rfl (by kernel_rfl) (by kernel_rfl) (by kernel_rfl) (fun _ _ _ h => h) (Or.inl ⟨by rfl, ?_⟩) (by assumption) ?_; rotate_left; focus (intro w hSw; (try dsimp only at hSw); simp only [List.getElem_toArray, List.getElem_cons_succ, List.getElem_cons_zero]; go_simp; (try (with_reducible rfl)))
              simp only [List.getElem_toArray, List.getElem_cons_succ, List.getElem_cons_zero, Act.put, List.setIfInBounds_toArray, List.set_cons_zero, List.set_cons_succ]
              refine wpAnyH_take (i := 18) (v := ?_) rfl (by kernel_rfl) (by kernel_rfl) (by kernel_rfl) (fun _ _ _ h => h) (Or.inl ⟨by rfl, ?_⟩) (by assumption) ?_; rotate_left; focus (intro w hSw; (try dsimp only at hSw); simp only [List.getElem_toArray, List.getElem_cons_succ, List.getElem_cons_zero]; go_simp; (try (with_reducible rfl)))
              simp only [List.getElem_toArray, List.getElem_cons_succ, List.getElem_cons_zero, Act.put, List.setIfInBounds_toArray, List.set_cons_zero, List.set_cons_succ]
              refine wpAnyH_take (i := 19) (v := ?_) rfl (by kernel_rfl) (by kernel_rfl) (by kernel_rfl) (fun _ _ _ h => h) (Or.inl ⟨by rfl, ?_⟩) (by assumption) ?_; rotate_left; focus (intro w hSw; (try dsimp only at hSw); simp only [List.getElem_toArray, List.getElem_cons_succ, List.getElem_cons_zero]; go_simp; (try (with_reducible rfl)))
              simp only [List.getElem_toArray, List.getElem_cons_succ, List.getElem_cons_zero, Act.put, List.setIfInBounds_toArray, List.set_cons_zero, List.set_cons_succ]
              refine wpAnyH_take (i := 20) (v := ?_) rfl (by kernel_rfl) (by kernel_rfl) (by kernel_rfl) (fun _ _ _ h => h) (Or.inl ⟨by rfl, ?_⟩) (by assumption) ?_; rotate_left; focus (intro w hSw; (try dsimp only at hSw); simp only [List.getElem_toArray, List.getElem_cons_succ, List.getElem_cons_zero]; go_simp; (try (with_reducible rfl)))
              simp only [List.getElem_toArray, List.getElem_cons_succ, List.getElem_cons_zero, Act.put, List.setIfInBounds_toArray, List.set_cons_zero, List.set_cons_succ]
              refine wpAnyH_take (i := 21) (v := ?_) rfl (by kernel_rfl) (by kernel_rfl) (by kernel_rfl) (fun _ _ _ h => h) (Or.inl ⟨by rfl, ?_⟩) (by assumption) ?_; rotate_left; focus (intro w hSw; (try dsimp only at hSw); simp only [List.getElem_toArray, List.getElem_cons_succ, List.getElem_cons_zero]; go_simp; (try (with_reducible rfl)))
              simp only [List.getElem_toArray, List.getElem_cons_succ, List.getElem_cons_zero, Act.put, List.setIfInBounds_toArray, List.set_cons_zero, List.set_cons_succ]
              refine wpAnyH_take (i := 22) (v := undef) rfl (by kernel_rfl) (by kernel_rfl) (by kernel_rfl) (fun _ _ _ h => h) (Or.inr ⟨by rfl, rfl⟩) (by assumption) ?_
              simp only [List.getElem_toArray, List.getElem_cons_succ, List.getElem_cons_zero, Act.put, List.setIfInBounds_toArray, List.set_cons_zero, List.set_cons_succ]
              refine wpAnyH_take (i := 23) (v := undef) rfl (by kernel_rfl) (by kernel_rfl) (by kernel_rfl) (fun _ _ _ h => h) (Or.inr ⟨by rfl, rfl⟩) (by assumption) ?_
              simp only [List.getElem_toArray, List.getElem_cons_succ, List.getElem_cons_zero, Act.put, List.setIfInBounds_toArray, List.set_cons_zero, List.set_cons_succ]
              refine wpAnyH_take (i := 24) (v := undef) rfl (by kernel_rfl) (by kernel_rfl) (by kernel_rfl) (fun _ _ _ h => h) (Or.inr ⟨by rfl, rfl⟩) (by assumption) ?_
              simp only [List.getElem_toArray, List.getElem_cons_succ, List.getElem_cons_zero, Act.put, List.setIfInBounds_toArray, List.set_cons_zero, List.set_cons_succ]
              refine wpAnyH_take (i := 25) (v := ?_) rfl (by kernel_rfl) (by kernel_rfl) (by kernel_rfl) (fun _ _ _ h => h) (Or.inl ⟨by rfl, ?_⟩) (by assumption) ?_; rotate_left; focus (intro w hSw; (try dsimp only at hSw); simp only [List.getElem_toArray, List.getElem_cons_succ, List.getElem_cons_zero]; go_simp; (try (with_reducible rfl)))
              simp only [List.getElem_toArray, List.getElem_cons_succ, List.getElem_cons_zero, Act.put, List.setIfInBounds_toArray, List.set_cons_zero, List.set_cons_succ]
              refine wpAnyH_take (i := 26) (v := ?_) rfl (by kernel_rfl) (by kernel_rfl) (by kernel_rfl) (fun _ _ _ h => h) (Or.inl ⟨by rfl, ?_⟩) (by assumption) ?_; rotate_left; focus (intro w hSw; (try dsimp only at hSw); simp only [List.getElem_toArray, List.getElem_cons_succ, List.getElem_cons_zero]; go_simp; (try (with_reducible rfl)))
              simp only [List.getElem_toArray, List.getElem_cons_succ, List.getElem_cons_zero, Act.put, List.setIfInBounds_toArray, List.set_cons_zero, List.set_cons_succ]
              refine wpAnyH_take (i := 27) (v := ?_) rfl (by kernel_rfl) (by kernel_rfl) (by kernel_rfl) (fun _ _ _ h => h) (Or.inl ⟨by rfl, ?_⟩) (by assumption) ?_; rotate_left; focus (intro w hSw; (try dsimp only at hSw); simp only [List.getElem_toArray, List.getElem_cons_succ, List.getElem_cons_zero]; go_simp; (try (with_reducible rfl)))
              simp only [List.getElem_toArray, List.getElem_cons_succ, List.getElem_cons_zero, Act.put, List.setIfInBounds_toArray, List.set_cons_zero, List.set_cons_succ]
              refine wpAnyH_take (i := 28) (v := ?_) rfl (by kernel_rfl) (by kernel_rfl) (by kernel_rfl) (fun _ _ _ h => h) (Or.inl ⟨by rfl, ?_⟩) (by assumption) ?_; rotate_left; focus (intro w hSw; (try dsimp only at hSw); simp only [List.getElem_toArray, List.getElem_cons_succ, List.getElem_cons_zero]; go_simp; (try (with_reducible rfl)))
              simp only [List.getElem_toArray, List.getElem_cons_succ, List.getElem_cons_zero, Act.put, List.setIfInBounds_toArray, List.set_cons_zero, List.set_cons_succ]
              refine wpAnyH_take (i := 29) (v := ?_) rfl (by kernel_rfl) (by kernel_rfl) (by kernel_rfl) (fun _ _ _ h => h) (Or.inl ⟨by rfl, ?_⟩) (by assumption) ?_; rotate_left; focus (intro w hSw; (try dsimp only at hSw); simp only [List.getElem_toArray, List.getElem_cons_succ, List.getElem_cons_zero]; go_simp; (try (with_reducible rfl)))
              simp only [List.getElem_toArray, List.getElem_cons_succ, List.getElem_cons_zero, Act.put, List.setIfInBounds_toArray, List.set_cons_zero, List.set_cons_succ]
              refine wpAnyH_take (i := 30) (v := ?_) rfl (by kernel_rfl) (by kernel_rfl) (by kernel_rfl) (fun _ _ _ h => h) (Or.inl ⟨by rfl, ?_⟩) (by assumption) ?_; rotate_left; focus (intro w hSw; (try dsimp only at hSw); simp only [List.getElem_toArray, List.getElem_cons_succ, List.getElem_cons_zero]; go_simp; (try (with_reducible rfl)))
              simp only [List.getElem_toArray, List.getElem_cons_succ, List.getElem_cons_zero, Act.put, List.setIfInBounds_toArray, List.set_cons_zero, List.set_cons_succ]
              refine wpAnyH_take (i := 31) (v := ?_) rfl (by kernel_rfl) (by kernel_rfl) (by kernel_rfl) (fun _ _ _ h => h) (Or.inl ⟨by rfl, ?_⟩) (by assumption) ?_; rotate_left; focus (intro w hSw; (try dsimp only at hSw); simp only [List.getElem_toArray, List.getElem_cons_succ, List.getElem_cons_zero]; go_simp; (try (with_reducible rfl)))
              simp only [List.getElem_toArray, List.getElem_cons_succ, List.getElem_cons_zero, Act.put, List.setIfInBounds_toArray, List.set_cons_zero, List.set_cons_succ]
              refine wpAnyH_take (i := 32) (v := ?_) rfl (by kernel_rfl) (by kernel_rfl) (by kernel_rfl) (fun _ _ _ h => h) (Or.inl ⟨by rfl, ?_⟩) (by assumption) ?_; rotate_left; focus (intro w hSw; (try dsimp only at hSw); simp only [List.getElem_toArray, List.getElem_cons_succ, List.getElem_cons_zero]; go_simp; (try (with_reducible rfl)))
              simp only [List.getElem_toArray, List.getElem_cons_succ, List.getElem_cons_zero, Act.put, List.setIfInBounds_toArray, List.set_cons_zero, List.set_cons_succ]
              refine wpAnyH_take (i := 33) (v := ?_) rfl (by kernel_rfl) (by kernel_rfl) (by kernel_rfl) (fun _ _ _ h => h) (Or.inl ⟨by rfl, ?_⟩) (by assumption) ?_; rotate_left; focus (intro w hSw; (try dsimp only at hSw); simp only [List.getElem_toArray, List.getElem_cons_succ, List.getElem_cons_zero]; go_simp; (try (with_reducible rfl)))
              simp only [List.getElem_toArray, List.getElem_cons_succ, List.getElem_cons_zero, Act.put, List.setIfInBounds_toArray, List.set_cons_zero, List.set_cons_succ]
              refine wpAnyH_take (i := 34) (v := ?_) rfl (by kernel_rfl) (by kernel_rfl) (by kernel_rfl) (fun _ _ _ h => h) (Or.inl ⟨by rfl, ?_⟩) (by assumption) ?_; rotate_left; focus (intro w hSw; (try dsimp only at hSw); simp only [List.getElem_toArray, List.getElem_cons_succ, List.getElem_cons_zero]; go_simp; (try (with_reducible rfl)))
              simp only [List.getElem_toArray, List.getElem_cons_succ, List.getElem_cons_zero, Act.put, List.setIfInBounds_toArray, List.set_cons_zero, List.set_cons_succ]
              refine wpAnyH_take (i := 35) (v := ?_) rfl (by kernel_rfl) (by kernel_rfl) (by kernel_rfl) (fun _ _ _ h => h) (Or.inl ⟨by rfl, ?_⟩) (by assumption) ?_; rotate_left; focus (intro w hSw; (try dsimp only at hSw); simp only [List.getElem_toArray, List.getElem_cons_succ, List.getElem_cons_zero]; go_simp; (try (with_reducible rfl)))
              simp only [List.getElem_toArray, List.getElem_cons_succ, List.getElem_cons_zero, Act.put, List.setIfInBounds_toArray, List.set_cons_zero, List.set_cons_succ]
              refine wpAnyH_take (i := 36) (v := ?_) rfl (by kernel_rfl) (by kernel_rfl) (by kernel_rfl) (fun _ _ _ h => h) (Or.inl ⟨by rfl, ?_⟩) (by assumption) ?_; rotate_left; focus (intro w hSw; (try dsimp only at hSw); simp only [List.getElem_toArray, List.getElem_cons_succ, List.getElem_cons_zero]; go_simp; (try (with_reducible rfl)))
              simp only [List.getElem_toArray, List.getElem_cons_succ, List.getElem_cons_zero, Act.put, List.setIfInBounds_toArray, List.set_cons_zero, List.set_cons_succ]
              refine wpAnyH_take (i := 37) (v := ?_) rfl (by kernel_rfl) (by kernel_rfl) (by kernel_rfl) (fun _ _ _ h => h) (Or.inl ⟨by rfl, ?_⟩) (by assumption) ?_; rotate_left; focus (intro w hSw; (try dsimp only at hSw); simp only [List.getElem_toArray, List.getElem_cons_succ, List.getElem_cons_zero]; go_simp; (try (with_reducible rfl)))
              simp only [List.getElem_toArray, List.getElem_cons_succ, List.getElem_cons_zero, Act.put, List.setIfInBounds_toArray, List.set_cons_zero, List.set_cons_succ]
              refine wpAnyH_take (i := 38) (v := ?_) rfl (by kernel_rfl) (by kernel_rfl) (by kernel_rfl) (fun _ _ _ h => h) (Or.inl ⟨by rfl, ?_⟩) (by assumption) ?_; rotate_left; focus (intro w hSw; (try dsimp only at hSw); simp only [List.getElem_toArray, List.getElem_cons_succ, List.getElem_cons_zero]; go_simp; (try (with_reducible rfl)))
              simp only [List.getElem_toArray, List.getElem_cons_succ, List.getElem_cons_zero, Act.put, List.setIfInBounds_toArray, List.set_cons_zero, List.set_cons_succ]
              refine wpAnyH_take (i := 39) (v := ?_) rfl (by kernel_rfl) (by kernel_rfl) (by kernel_rfl) (fun _ _ _ h => h) (Or.inl ⟨by rfl, ?_⟩) (by assumption) ?_; rotate_left; focus (intro w hSw; (try dsimp only at hSw); simp only [List.getElem_toArray, List.getElem_cons_succ, List.getElem_cons_zero]; go_simp; (try (with_reducible rfl)))
              simp only [List.getElem_toArray, List.getElem_cons_succ, List.getElem_cons_zero, Act.put, List.setIfInBounds_toArray, List.set_cons_zero, List.set_cons_succ]
              refine wpAnyH_take (i := 40) (v := ?_) rfl (by kernel_rfl) (by kernel_rfl) (by kernel_rfl) (fun _ _ _ h => h) (Or.inl ⟨by rfl, ?_⟩) (by assumption) ?_; rotate_left; focus (intro w hSw; (try dsimp only at hSw); simp only [List.getElem_toArray, List.getElem_cons_succ, List.getElem_cons_zero]; go_simp; (try (with_reducible rfl)))
              simp only [List.getElem_toArray, List.getElem_cons_succ, List.getElem_cons_zero, Act.put, List.setIfInBounds_toArray, List.set_cons_zero, List.set_cons_succ]
              refine wpAnyH_take (i := 41) (v := ?_) rfl (by kernel_rfl) (by kernel_rfl) (by kernel_rfl) (fun _ _ _ h => h) (Or.inl ⟨by rfl, ?_⟩) (by assumption) ?_; rotate_left; focus (intro w hSw; (try dsimp only at hSw); simp only [List.getElem_toArray, List.getElem_cons_succ, List.getElem_cons_zero]; go_simp; (try (with_reducible rfl)))
              simp only [List.getElem_toArray, List.getElem_cons_succ, List.getElem_cons_zero, Act.put, List.setIfInBounds_toArray, List.set_cons_zero, List.set_cons_succ]
              refine wpAnyH_take (i := 42) (v := ?_) rfl (by kernel_rfl) (by kernel_rfl) (by kernel_rfl) (fun _ _ _ h => h) (Or.inl ⟨by rfl, ?_⟩) (by assumption) ?_; rotate_left; focus (intro w hSw; (try dsimp only at hSw); simp only [List.getElem_toArray, List.getElem_cons_succ, List.getElem_cons_zero]; go_simp; (try (with_reducible rfl)))
              simp only [List.getElem_toArray, List.getElem_cons_succ, List.getElem_cons_zero, Act.put, List.setIfInBounds_toArray, List.set_cons_zero, List.set_cons_succ]
              refine wpAnyH_take (i := 43) (v := ?_) rfl (by kernel_rfl) (by kernel_rfl) (by kernel_rfl) (fun _ _ _ h => h) (Or.inl ⟨by rfl, ?_⟩) (by assumption) ?_; rotate_left; focus (intro w hSw; (try dsimp only at hSw); simp only [List.getElem_toArray, List.getElem_cons_succ, List.getElem_cons_zero]; go_simp; (try (with_reducible rfl)))
              simp only [List.getElem_toArray, List.getElem_cons_succ, List.getElem_cons_zero, Act.put, List.setIfInBounds_toArray, List.set_cons_zero, List.set_cons_succ]
              refine wpAnyH_take (i := 44) (v := ?_) rfl (by kernel_rfl) (by kernel_rfl) (by kernel_rfl) (fun _ _ _ h => h) (Or.inl ⟨by rfl, ?_⟩) (by assumption) ?_; rotate_left; focus (intro w hSw; (try dsimp only at hSw); simp only [List.getElem_toArray, List.getElem_cons_succ, List.getElem_cons_zero]; go_simp; (try (with_reducible rfl)))
              simp only [List.getElem_toArray, List.getElem_cons_succ, List.getElem_cons_zero, Act.put, List.setIfInBounds_toArray, List.set_cons_zero, List.set_cons_succ]
              refine wpAnyH_take (i := 45) (v := ?_) rfl (by kernel_rfl) (by kernel_rfl) (by kernel_rfl) (fun _ _ _ h => h) (Or.inl ⟨by rfl, ?_⟩) (by assumption) ?_; rotate_left; focus (intro w hSw; (try dsimp only at hSw); simp only [List.getElem_toArray, List.getElem_cons_succ, List.getElem_cons_zero]; go_simp; (try (with_reducible rfl)))
              simp only [List.getElem_toArray, List.getElem_cons_succ, List.getElem_cons_zero, Act.put, List.setIfInBounds_toArray, List.set_cons_zero, List.set_cons_succ]
              refine wpAnyH_take (i := 46) (v := ?_) rfl (by kernel_rfl) (by kernel_rfl) (by kernel_rfl) (fun _ _ _ h => h) (Or.inl ⟨by rfl, ?_⟩) (by assumption) ?_; rotate_left; focus (intro w hSw; (try dsimp only at hSw); simp only [List.getElem_toArray, List.getElem_cons_succ, List.getElem_cons_zero]; go_simp; (try (with_reducible rfl)))
              simp only [List.getElem_toArray, List.getElem_cons_succ, List.getElem_cons_zero, Act.put, List.setIfInBounds_toArray, List.set_cons_zero, List.set_cons_succ]
              refine wpAnyH_take (i := 47) (v := ?_) rfl (by kernel_rfl) (by kernel_rfl) (by kernel_rfl) (fun _ _ _ h => h) (Or.inl ⟨by rfl, ?_⟩) (by assumption) ?_; rotate_left; focus (intro w hSw; (try dsimp only at hSw); simp only [List.getElem_toArray, List.getElem_cons_succ, List.getElem_cons_zero]; go_simp; (try (with_reducible rfl)))
              simp only [List.getElem_toArray, List.getElem_cons_succ, List.getElem_cons_zero, Act.put, List.setIfInBounds_toArray, List.set_cons_zero, List.set_cons_succ]
              refine wpAnyH_take (i := 48) (v := ?_) rfl (by kernel_rfl) (by kernel_rfl) (by kernel_rfl) (fun _ _ _ h => h) (Or.inl ⟨by rfl, ?_⟩) (by assumption) ?_; rotate_left; focus (intro w hSw; (try dsimp only at hSw); simp only [List.getElem_toArray, List.getElem_cons_succ, List.getElem_cons_zero]; go_simp; (try (with_reducible rfl)))
              simp only [List.getElem_toArray, List.getElem_cons_succ, List.getElem_cons_zero, Act.put, List.setIfInBounds_toArray, List.set_cons_zero, List.set_cons_succ]
              refine wpAnyH_take (i := 49) (v := ?_) rfl (by kernel_rfl) (by kernel_rfl) (by kernel_rfl) (fun _ _ _ h => h) (Or.inl ⟨by rfl, ?_⟩) (by assumption) ?_; rotate_left; focus (intro w hSw; (try dsimp only at hSw); simp only [List.getElem_toArray, List.getElem_cons_succ, List.getElem_cons_zero]; go_simp; (try (with_reducible rfl)))
              simp only [List.getElem_toArray, List.getElem_cons_succ, List.getElem_cons_zero, Act.put, List.setIfInBounds_toArray, List.set_cons_zero, List.set_cons_succ]
              refine wpAnyH_take (i := 50) (v := ?_) rfl (by kernel_rfl) (by kernel_rfl) (by kernel_rfl) (fun _ _ _ h => h) (Or.inl ⟨by rfl, ?_⟩) (by assumption) ?_; rotate_left; focus (intro w hSw; (try dsimp only at hSw); simp only [List.getElem_toArray, List.getElem_cons_succ, List.getElem_cons_zero]; go_simp; (try (with_reducible rfl)))
              simp only [List.getElem_toArray, List.getElem_cons_succ, List.getElem_cons_zero, Act.put, List.setIfInBounds_toArray, List.set_cons_zero, List.set_cons_succ]
              refine wpAnyH_take (i := 51) (v := ?_) rfl (by kernel_rfl) (by kernel_rfl) (by kernel_rfl) (fun _ _ _ h => h) (Or.inl ⟨by rfl, ?_⟩) (by assumption) ?_; rotate_left; focus (intro w hSw; (try dsimp only at hSw); simp only [List.getElem_toArray, List.getElem_cons_succ, List.getElem_cons_zero]; go_simp; (try (with_reducible rfl)))
              simp only [List.getElem_toArray, List.getElem_cons_succ, List.getElem_cons_zero, Act.put, List.setIfInBounds_toArray, List.set_cons_zero, List.set_cons_succ]
              refine wpAnyH_take (i := 52) (v := ?_) rfl (by kernel_rfl) (by kernel_rfl) (by kernel_rfl) (fun _ _ _ h => h) (Or.inl ⟨by rfl, ?_⟩) (by assumption) ?_; rotate_left; focus (intro w hSw; (try dsimp only at hSw); simp only [List.getElem_toArray, List.getElem_cons_succ, List.getElem_cons_zero]; go_simp; (try (with_reducible rfl)))
              simp only [List.getElem_toArray, List.getElem_cons_succ, List.getElem_cons_zero, Act.put, List.setIfInBounds_toArray, List.set_cons_zero, List.set_cons_succ]
              refine wpAnyH_take (i := 53) (v := ?_) rfl (by kernel_rfl) (by kernel_rfl) (by kernel_rfl) (fun _ _ _ h => h) (Or.inl ⟨by rfl, ?_⟩) (by assumption) ?_; rotate_left; focus (intro w hSw; (try dsimp only at hSw); simp only [List.getElem_toArray, List.getElem_cons_succ, List.getElem_cons_zero]; go_simp; (try (with_reducible rfl)))
              simp only [List.getElem_toArray, List.getElem_cons_succ, List.getElem_cons_zero, Act.put, List.setIfInBounds_toArray, List.set_cons_zero, List.set_cons_succ]
              refine wpAnyH_take (i := 54) (v := ?_) rfl (by kernel_rfl) (by kernel_rfl) (by kernel_rfl) (fun _ _ _ h => h) (Or.inl ⟨by rfl, ?_⟩) (by assumption) ?_; rotate_left; focus (intro w hSw; (try dsimp only at hSw); simp only [List.getElem_toArray, List.getElem_cons_succ, List.getElem_cons_zero]; go_simp; (try (with_reducible rfl)))
              simp only [List.getElem_toArray, List.getElem_cons_succ, List.getElem_cons_zero, Act.put, List.setIfInBounds_toArray, List.set_cons_zero, List.set_cons_succ]
              refine wpAnyH_take (i := 55) (v := ?_) rfl (by kernel_rfl) (by kernel_rfl) (by kernel_rfl) (fun _ _ _ h => h) (Or.inl ⟨by rfl, ?_⟩) (by assumption) ?_; rotate_left; focus (intro w hSw; (try dsimp only at hSw); simp only [List.getElem_toArray, List.getElem_cons_succ, List.getElem_cons_zero]; go_simp; (try (with_reducible rfl)))
              simp only [List.getElem_toArray, List.getElem_cons_succ, List.getElem_cons_zero, Act.put, List.setIfInBounds_toArray, List.set_cons_zero, List.set_cons_succ]
              refine wpAnyH_take (i := 56) (v := ?_) rfl (by kernel_rfl) (by kernel_rfl) (by kernel_rfl) (fun _ _ _ h => h) (Or.inl ⟨by rfl, ?_⟩) (by assumption) ?_; rotate_left; focus (intro w hSw; (try dsimp only at hSw); simp only [List.getElem_toArray, List.getElem_cons_succ, List.getElem_cons_zero]; go_simp; (try (with_reducible rfl)))
              simp only [List.getElem_toArray, List.getElem_cons_succ, List.getElem_cons_zero, Act.put, List.setIfInBounds_toArray, List.set_cons_zero, List.set_cons_succ]
              refine wpAnyH_take (i := 57) (v := ?_) rfl (by kernel_rfl) (by kernel_rfl) (by kernel_rfl) (fun _ _ _ h => h) (Or.inl ⟨by rfl, ?_⟩) (by assumption) ?_; rotate_left; focus (intro w hSw; (try dsimp only at hSw); simp only [List.getElem_toArray, List.getElem_cons_succ, List.getElem_cons_zero]; go_simp; (try (with_reducible rfl)))
              simp only [List.getElem_toArray, List.getElem_cons_succ, List.getElem_cons_zero, Act.put, List.setIfInBounds_toArray, List.set_cons_zero, List.set_cons_succ]
              refine wpAnyH_take (i := 58) (v := ?_) rfl (by kernel_rfl) (by kernel_rfl) (by kernel_rfl) (fun _ _ _ h => h) (Or.inl ⟨by rfl, ?_⟩) (by assumption) ?_; rotate_left; focus (intro w hSw; (try dsimp only at hSw); simp only [List.getElem_toArray, List.getElem_cons_succ, List.getElem_cons_zero]; go_simp; (try (with_reducible rfl)))
              simp only [List.getElem_toArray, List.getElem_cons_succ, List.getElem_cons_zero, Act.put, List.setIfInBounds_toArray, List.set_cons_zero, List.set_cons_succ]
              refine wpAnyH_ready (rs := [59]) (by kernel_rfl) (by simp) ?_
              refine AllReadyH.cons rfl (fun K hK => ?_) AllReadyH.nil
              go_simp
              (with_reducible refine (HSame.out _ (by assumption)).mono ?_)
              rintro e w12 ⟨rfl, hS12⟩
              refine hK.out _ _ hS12 (fun hHeld => ?_)
              clear hK K
              try simp only [List.getElem_toArray, List.getElem_cons_succ, List.getElem_cons_zero, Act.put, List.setIfInBounds_toArray, List.set_cons_zero, List.set_cons_succ]
              refine wpAnyH_take (i := 60) (v := ?_) rfl (by kernel_rfl) (by kernel_rfl) (by kernel_rfl) (fun _ _ _ h => h) (Or.inl ⟨by rfl, ?_⟩) (by assumption) ?_; rotate_left; focus (intro w hSw; (try dsimp only at hSw); simp only [List.getElem_toArray, List.getElem_cons_succ, List.getElem_cons_zero]; go_simp; (try (with_reducible rfl)))
              simp only [List.getElem_toArray, List.getElem_cons_succ, List.getElem_cons_zero, Act.put, List.setIfInBounds_toArray, List.set_cons_zero, List.set_cons_succ]
              refine wpAnyH_take (i := 61) (v := ?_) rfl (by kernel_rfl) (by kernel_rfl) (by kernel_rfl) (fun _ _ _ h => h) (Or.inl ⟨by rfl, ?_⟩) (by assumption) ?_; rotate_left; focus (intro w hSw; (try dsimp only at hSw); simp only [List.getElem_toArray, List.getElem_cons_succ, List.getElem_cons_zero]; go_simp; (try (with_reducible rfl)))
              simp only [List.getElem_toArray, List.getElem_cons_succ, List.getElem_cons_zero, Act.put, List.setIfInBounds_toArray, List.set_cons_zero, List.set_cons_succ]
              refine wpAnyH_take (i := 62) (v := ?_) rfl (by kernel_rfl) (by kernel_rfl) (by kernel_rfl) (fun _ _ _ h => h) (Or.inl ⟨by rfl, ?_⟩) (by assumption) ?_; rotate_left; focus (intro w hSw; (try dsimp only at hSw); simp only [List.getElem_toArray, List.getElem_cons_succ, List.getElem_cons_zero]; go_simp; (try (with_reducible rfl)))
              simp only [List.getElem_toArray, List.getElem_cons_succ, List.getElem_cons_zero, Act.put, List.setIfInBounds_toArray, List.set_cons_zero, List.set_cons_succ]
              refine wpAnyH_take (i := 63) (v := ?_) rfl (by kernel_rfl) (by kernel_rfl) (by kernel_rfl) (fun _ _ _ h => h) (Or.inl ⟨by rfl, ?_⟩) (by assumption) ?_; rotate_left; focus (intro w hSw; (try dsimp only at hSw); simp only [List.getElem_toArray, List.getElem_cons_succ, List.getElem_cons_zero]; go_simp; (try (with_reducible rfl)))
              simp only [List.getElem_toArray, List.getElem_cons_succ, List.getElem_cons_zero, Act.put, List.setIfInBounds_toArray, List.set_cons_zero, List.set_cons_succ]
              refine wpAnyH_done (by kernel_rfl) ?_ _
              have HB12 := Aside0.mk (show Below wc.heap.size wc w12 from hS12.1)
              clear hHeld
              go_wp2_with fail
              go_ret
              exact ⟨by first | rfl | decide | (simp; done), HB7w.out.trans (HB12.out.mono HB7w.out.size)⟩
end Go.Proofs.YtkcgioggnbnfkaaDoor.BackW
