/- volume.set over volumes that fit together: walked once. -/
import Derived.Test.YtkcgioggnbnfkaaDoorZSpl
import Derived.Test.YtkcgioggnbnfkaaDoorZMps
set_option linter.unusedVariables false
set_option linter.unusedSimpArgs false
namespace Go.Proofs.YtkcgioggnbnfkaaDoor.SetW
open Go Go.RowKit Go.Proofs.YtkcgioggnbnfkaaDoorW.PrintWords Go.Proofs.YtkcgioggnbnfkaaDoorW.PrintLast Go.Proofs.YtkcgioggnbnfkaaDoorW.PrintMore Go.Proofs.YtkcgioggnbnfkaaDoorW.Mv Go.Proofs.YtkcgioggnbnfkaaDoorW.HKit Go.Proofs.YtkcgioggnbnfkaaDoorW.But Go.Proofs.YtkcgioggnbnfkaaDoorW.App Go.Proofs.YtkcgioggnbnfkaaDoorW.Rwb Go.Proofs.YtkcgioggnbnfkaaDoorW.Mps Go.Proofs.YtkcgioggnbnfkaaDoor.PVolumeJoins Go.Proofs.YtkcgioggnbnfkaaDoor.CrcA Go.Proofs.YtkcgioggnbnfkaaDoor.Crc Go.Proofs.YtkcgioggnbnfkaaDoor.NumP Go.Proofs.YtkcgioggnbnfkaaDoor.NumG Go.Proofs.YtkcgioggnbnfkaaDoor.Num Go.Proofs.YtkcgioggnbnfkaaDoor.Lab Go.Proofs.YtkcgioggnbnfkaaDoor.Read Go.Proofs.YtkcgioggnbnfkaaDoor.Open Go.Proofs.YtkcgioggnbnfkaaDoor.Vol Go.Proofs.YtkcgioggnbnfkaaDoor.Spl
theorem zeroE (w : World) : (zeroValue 22).run Tryd.prog w = .ok (.slice none 0 0) w := by kernel_rfl
theorem law : Go.Maps.Keyed Tryd.prog 2 := Go.Maps.int_keyed Tryd.underlying2
/-- A volume's number. -/
noncomputable def num (x : List Int) : Int := rd (openOf x).1 0
/-- Volumes that fit together. -/
structure Fit (L : List (List Int)) (cnt whole all : Int) : Prop where
  few : L.length ≤ 100
  bytes : ∀ x ∈ L, ∀ z ∈ x, 0 ≤ z ∧ z ≤ 255
  size : ∀ x ∈ L, x.length ≤ 100000
  fine : ∀ x ∈ L, (openOf x).2.2 = 0
  cnt : ∀ x ∈ L, rd (openOf x).1 1 = cnt
  whole : ∀ x ∈ L, rd (openOf x).1 2 = whole
  all : ∀ x ∈ L, rd (openOf x).1 4 = all
  one : ∀ x ∈ L, ∀ y ∈ L, num x = num y → x = y
  key : ∀ x ∈ L, (Lit.int .i64 (num x)).wf = true
def SetPost (w : World) (L : List (List Int)) (cnt whole all : Int) (e : Ending) (w' : World) : Prop := ∃ (bm : Nat) (D : DataW Value) (f0 f1 f2 f3 f4 f5 : Int), e = .returned (.tuple #[.agg #[.int .i64 f0, .int .i64 f1, .int .i64 f2, .int .i64 f3, .int .i64 f4, .int .i64 f5], .map (some bm), .int .i64 0, .int .u8 0]) ∧
  (0 < L.length → f1 = cnt ∧ f2 = whole ∧ f4 = all) ∧ (L.length = 0 → f1 = 0) ∧ w'.ownsMap Tryd.prog 2 heldR bm L.length D ∧ Got w D num L ∧ Below w.heap.size w w'
def L1 (wa : World) (n n' : Nat) (v21 : Value) (wr : World) : Prop := ∃ i : Nat, v21 = .int .i64 i ∧ n' + i = n ∧ Below wa.heap.size wa wr
def L2 (w : World) (L : List (List Int)) (cnt whole all : Int) (n' : Nat) (v36 : Value) (wr : World) : Prop := ∃ (i : Nat) (D : DataW Value) (f0 f1 f2 f3 f4 f5 : Int), v36 = .int .i64 i ∧ n' + i = L.length ∧ LabAt wr w.heap.size z6 ∧ LabAt wr (w.heap.size + 1) [f0, f1, f2, f3, f4, f5] ∧
  (0 < i → f1 = cnt ∧ f2 = whole ∧ f4 = all) ∧ (i = 0 → f1 = 0) ∧ wr.ownsMap Tryd.prog 2 heldR (w.heap.size + 1 + 1) i D ∧ Got w D num (L.take i) ∧ Below w.heap.size w wr
theorem results_set {P : Program} {fn : Func} {p u v x : Tmp} {ty : TypeId} (h : fn.results = #[.cell p ty, .tmp u, .tmp v, .tmp x]) (tmps : Array Value) (w : World) (g : Nat) (t : TypeId) (cs : Array Value) (fr : Nat × Nat) (d : TypeDesc)
    (hp : tmps.getD p undef = .pointer (some ⟨g, 0, none⟩)) (hg : w.heap[g]? = some (.cells cs t fr))
    (hu : P.underlying ty = some d) (hd : (match d with | .struct _ | .array _ _ => true | _ => false) = true) (hi : (P.info? ty).map (·.size) = some cs.size) :
    (results fn tmps).run P w = .ok (.tuple #[.agg cs, tmps.getD u undef, tmps.getD v undef, tmps.getD x undef]) w := by
  have hp' : tmps[p]?.getD undef = .pointer (some ⟨g, 0, none⟩) := by simpa using hp
  simp [results, h, hp', asAddr, Result.andThen, run_loadVar_row w g t ty cs fr d hg hu hd hi]
set_option maxHeartbeats 8000000 in
set_option maxRecDepth 100000 in
theorem set_ok (A : Option Addr) (c : Nat) (L : List (List Int)) (cnt whole all : Int) (w : World) (hR : RowsB w A c L) (hF : Fit L cnt whole all) : Calls Tryd.prog 27 #[.slice A L.length c] w (SetPost w L cnt whole all) := by
  have hmm := @run_makeMap Tryd.prog
  have hfew := hF.few
  have HR := Aside0.mk hR
  have HF := Aside0.mk hF
  obtain ⟨n, hn⟩ : ∃ n, n = L.length := ⟨_, rfl⟩
  have HN := Aside0.mk hn
  rw [← hn] at hfew ⊢
  clear hR hF hn
  go_enter Tryd.func27, Tryd.ntmps27
  go_wp2_with fail
  have HWA := Aside0.mk (show LabAt (((w.alloc (.cells #[.int .i64 0, .int .i64 0, .int .i64 0, .int .i64 0, .int .i64 0, .int .i64 0] 54)).alloc (.cells #[.int .i64 0, .int .i64 0, .int .i64 0, .int .i64 0, .int .i64 0, .int .i64 0] 54)).alloc (.map #[] 0)) w.heap.size z6 ∧ LabAt (((w.alloc (.cells #[.int .i64 0, .int .i64 0, .int .i64 0, .int .i64 0, .int .i64 0, .int .i64 0] 54)).alloc (.cells #[.int .i64 0, .int .i64 0, .int .i64 0, .int .i64 0, .int .i64 0, .int .i64 0] 54)).alloc (.map #[] 0)) (w.heap.size + 1) z6 ∧ (((w.alloc (.cells #[.int .i64 0, .int .i64 0, .int .i64 0, .int .i64 0, .int .i64 0, .int .i64 0] 54)).alloc (.cells #[.int .i64 0, .int .i64 0, .int .i64 0, .int .i64 0, .int .i64 0, .int .i64 0] 54)).alloc (.map #[] 0)).ownsMap Tryd.prog 2 heldR (w.heap.size + 1 + 1) 0 (.map []) ∧ Below w.heap.size w (((w.alloc (.cells #[.int .i64 0, .int .i64 0, .int .i64 0, .int .i64 0, .int .i64 0, .int .i64 0] 54)).alloc (.cells #[.int .i64 0, .int .i64 0, .int .i64 0, .int .i64 0, .int .i64 0, .int .i64 0] 54)).alloc (.map #[] 0)) from by
    refine ⟨?_, ?_, ?_, (((Below.refl _ w).alloc (Nat.le_refl _) _).alloc (by simp) _).alloc (by simp; omega) _⟩
    · exact (Below.heap_alloc _ _ _ (by simp; omega)).trans ((Below.heap_alloc _ _ _ (by simp)).trans (heap_alloc_new w _))
    · have := heap_alloc_new (w.alloc (.cells #[.int .i64 0, .int .i64 0, .int .i64 0, .int .i64 0, .int .i64 0, .int .i64 0] 54)) (.cells #[.int .i64 0, .int .i64 0, .int .i64 0, .int .i64 0, .int .i64 0, .int .i64 0] 54)
      rw [World.size_alloc] at this
      exact (Below.heap_alloc _ _ _ (by simp)).trans this
    · have := World.ownsMap_made ((w.alloc (.cells #[.int .i64 0, .int .i64 0, .int .i64 0, .int .i64 0, .int .i64 0, .int .i64 0] 54)).alloc (.cells #[.int .i64 0, .int .i64 0, .int .i64 0, .int .i64 0, .int .i64 0, .int .i64 0] 54)) Tryd.prog 2 heldR
      rw [World.size_alloc, World.size_alloc] at this
      exact this)
  generalize ((w.alloc (.cells #[.int .i64 0, .int .i64 0, .int .i64 0, .int .i64 0, .int .i64 0, .int .i64 0] 54)).alloc (.cells #[.int .i64 0, .int .i64 0, .int .i64 0, .int .i64 0, .int .i64 0, .int .i64 0] 54)).alloc (.map #[] 0) = wa at HWA ⊢
  clear hmm
  go_loopg [21] n (fun n' v21 wr => L1 wa n n' v21 wr)
  case atStart => exact ⟨0, rfl, rfl, Below.refl _ _⟩
  case round =>
    obtain ⟨i, rfl, hni, hB⟩ := hrel
    have HNI := Aside0.mk hni
    have HB := Aside0.mk hB
    have HBw := Aside0.mk (HWA.out.2.2.2.trans (hB.mono HWA.out.2.2.2.size))
    clear hni hB
    by_cases hlt : i < n
    · have hiL : i < L.length := by rw [← HN.out]; exact hlt
      obtain ⟨al, Ar, Cr, hA, hcl, hlc, hCr⟩ := (HR.out.below HBw.out).at_ i hiL
      obtain ⟨x, hx⟩ : ∃ x, x = L[i] := ⟨_, rfl⟩
      have hxm : x ∈ L := by rw [hx]; exact List.getElem_mem hiL
      rw [← hx] at hcl hlc hCr
      have HCh := Aside0.mk (check_calls Ar x.length Cr x wr hCr hlc (HF.out.bytes x hxm) (HF.out.size x hxm))
      have HFI := Aside0.mk (HF.out.fine x hxm)
      subst hA
      clear hx hxm hCr
      go_wp2_with fail
      refine HCh.out.mono ?_
      clear HCh
      rintro e w2 ⟨rfl, hb2⟩
      rw [HFI.out]
      have HB2 := Aside0.mk (HB.out.trans (hb2.mono HB.out.size))
      clear hb2
      go_wp2_with fail
      obtain ⟨g1, rfl⟩ : ∃ g1, gk = g1 + 1 := ⟨gk - 1, by have := HNI.out; omega⟩
      go_roundg g1
      case measure => exact Nat.lt_succ_self _
      case rel => exact ⟨i + 1, by go_num, by have := HNI.out; omega, HB2.out⟩
    · have HS := Aside0.mk (show L2 w L cnt whole all n (.int .i64 0) wr from ⟨0, .map [], 0, 0, 0, 0, 0, 0, rfl, by rw [← HN.out]; rfl, lab_below HWA.out.1 HB.out, lab_below HWA.out.2.1 HB.out, fun h => absurd h (Nat.lt_irrefl _), fun _ => rfl, map_below HWA.out.2.2.1 HB.out, Got.empty _ _, HBw.out⟩)
      clear HB HBw HNI
      obtain ⟨wx, hwx⟩ : ∃ wx, wx = wr := ⟨_, rfl⟩
      subst hwx
      go_wp2_with fail
      go_loopg [36] n (fun n' v36 wr => L2 w L cnt whole all n' v36 wr)
      case atStart => exact HS.out
      case round =>
        clear HS
        obtain ⟨i, D, f0, f1, f2, f3, f4, f5, rfl, hni, hRb, hFb, hfc, hfz, hM, hG, hB⟩ := hrel
        rw [← HN.out] at hni
        have HNI := Aside0.mk hni
        have HRb := Aside0.mk hRb
        have HFb := Aside0.mk hFb
        have HFC := Aside0.mk hfc
        have HFZ := Aside0.mk hfz
        have HM := Aside0.mk hM
        have HG := Aside0.mk hG
        have HB := Aside0.mk hB
        clear hni hRb hFb hfc hfz hM hG hB
        by_cases hlt : i < n
        · have hiL : i < L.length := by rw [← HN.out]; exact hlt
          obtain ⟨al, Ar, Cr, hA, hcl, hlc, hCr0⟩ := HR.out.at_ i hiL
          obtain ⟨x, hx⟩ : ∃ x, x = L[i] := ⟨_, rfl⟩
          have hxm : x ∈ L := by rw [hx]; exact List.getElem_mem hiL
          have HTk := Aside0.mk (show L.take (i + 1) = L.take i ++ [x] by rw [List.take_succ_eq_append_getElem hiL, hx])
          rw [← hx] at hcl hlc hCr0
          have hcl := pw_cell_below HB.out hcl
          have HCr := Aside0.mk hCr0
          have HOp := Aside0.mk (open_calls Ar x.length Cr x wr (Kd.C_below hCr0 HB.out) hlc (HF.out.bytes x hxm) (HF.out.size x hxm))
          have HFI := Aside0.mk (HF.out.fine x hxm)
          have HXB := Aside0.mk (HF.out.bytes x hxm)
          obtain ⟨n0, n1, n2, n3, n4, n5, h6⟩ := openOf_six x
          have H6 := Aside0.mk h6
          have HC1 := Aside0.mk (show n1 = cnt by have := HF.out.cnt x hxm; rw [h6] at this; exact this)
          have HC2 := Aside0.mk (show n2 = whole by have := HF.out.whole x hxm; rw [h6] at this; exact this)
          have HC4 := Aside0.mk (show n4 = all by have := HF.out.all x hxm; rw [h6] at this; exact this)
          have HNum := Aside0.mk (show num x = n0 by unfold num; rw [h6]; rfl)
          have HKey := Aside0.mk (show keyOf Tryd.prog 2 (.int .i64 n0) = some (.int .i64 n0) by have := HF.out.key x hxm; rw [HNum.out] at this; exact Go.Maps.keyOf_int_mk Tryd.underlying2 this)
          have HGotN := Aside0.mk (show Got w (D.put (.int .i64 n0) (.held (.slice Ar x.length Cr))) num (L.take (i + 1)) by rw [HTk.out, ← HNum.out]; exact HG.out.put x Ar Cr hlc HCr.out)
          subst hA
          by_cases hin : n0 ∈ (L.take i).map num
          · have hi0 : ((i : Int) == 0) = false := by
              rcases Nat.eq_zero_or_pos i with h | h
              · subst h; simp at hin
              · simp; omega
            have hipos : 0 < i := by
              rcases Nat.eq_zero_or_pos i with h | h
              · subst h; simp at hin
              · exact h
            have HHas := Aside0.mk (show Go.Maps.has D (.int .i64 n0) = true by rw [HG.out.has, decide_eq_true hin])
            obtain ⟨y0, hy0, hyn⟩ := List.mem_map.1 hin
            obtain ⟨y, hy, hyn2, Ay, cy, hyc, hCy, hat⟩ := HG.out.some y0 hy0
            have hyx : x = y := (HF.out.one y (List.mem_of_mem_take hy) x hxm (by rw [hyn2, hyn, HNum.out])).symm
            subst hyx
            have HCy := Aside0.mk hCy
            have HAt := Aside0.mk (by have := hat (.held (.slice none 0 0)); rw [hyn] at this; exact this)
            clear hx hxm hCr0 h6 hin hyn hyn2 hat hCy hy hy0 hyc
            go_upto_region 13 with (fail)
            go_wp2_with fail
            refine HOp.out.mono ?_
            clear HOp
            rintro e w2 ⟨A1, c1, rfl, _, _, hb2⟩
            rw [H6.out, HFI.out, show (nums .i64 [n0, n1, n2, n3, n4, n5]).toArray = #[.int .i64 n0, .int .i64 n1, .int .i64 n2, .int .i64 n3, .int .i64 n4, .int .i64 n5] from rfl]
            have hb3 := hb2.trans ((Below.refl w2.heap.size w2).alloc (Nat.le_refl _) (.cells #[.int .i64 n0, .int .i64 n1, .int .i64 n2, .int .i64 n3, .int .i64 n4, .int .i64 n5] 54) |>.mono hb2.size)
            have HX3 := Aside0.mk (show LabAt (w2.alloc (.cells #[.int .i64 n0, .int .i64 n1, .int .i64 n2, .int .i64 n3, .int .i64 n4, .int .i64 n5] 54)) w2.heap.size [n0, n1, n2, n3, n4, n5] from heap_alloc_new w2 _)
            have HRb3 := Aside0.mk (lab_below HRb.out hb3)
            have HF3 := Aside0.mk (lab_below HFb.out hb3)
            have HM3 := Aside0.mk (map_below HM.out hb3)
            have HB3 := Aside0.mk (HB.out.trans (hb3.mono HB.out.size))
            have HSZ := Aside0.mk (show w.heap.size + 1 < w2.heap.size from Nat.lt_of_lt_of_le (Array.getElem?_eq_some_iff.1 HFb.out).1 hb2.size)
            clear hb2 hb3
            go_upto_region 16 with (fail)
            generalize w2.alloc (.cells #[.int .i64 n0, .int .i64 n1, .int .i64 n2, .int .i64 n3, .int .i64 n4, .int .i64 n5] 54) = w5 at HX3 HRb3 HF3 HM3 HB3 ⊢
            have HXl := HX3
            have HFl := HF3
            have HRl := HRb3
            have HMl := HM3
            have HBl := HB3
            obtain ⟨g0, g1, g2, g3, g4, g5, hg⟩ : ∃ g0 g1 g2 g3 g4 g5, [f0, f1, f2, f3, f4, f5] = [g0, g1, g2, g3, g4, g5] := ⟨_, _, _, _, _, _, rfl⟩
            have HG1 := Aside0.mk (show g1 = cnt by have := (List.cons.inj (List.cons.inj hg).2).1; rw [← this]; exact (HFC.out (by omega)).1)
            have HG2 := Aside0.mk (show g2 = whole by have := (List.cons.inj (List.cons.inj (List.cons.inj hg).2).2).1; rw [← this]; exact (HFC.out (by omega)).2.1)
            have HG4 := Aside0.mk (show g4 = all by have := (List.cons.inj (List.cons.inj (List.cons.inj (List.cons.inj (List.cons.inj hg).2).2).2).2).1; rw [← this]; exact (HFC.out (by omega)).2.2)
            rw [hg] at HFl
            clear hg HX3 HRb3 HF3 HM3 HB3
            generalize w2.heap.size = X at HXl HSZ ⊢
            have hx0 := lab_cell HXl.out 0 (by simp)
            have hx1 := lab_cell HXl.out 1 (by simp)
            have hx2 := lab_cell HXl.out 2 (by simp)
            have hx4 := lab_cell HXl.out 4 (by simp)
            have hf1 := lab_cell HFl.out 1 (by simp)
            have hf2 := lab_cell HFl.out 2 (by simp)
            have hf4 := lab_cell HFl.out 4 (by simp)
            simp only [List.getElem_cons_succ, List.getElem_cons_zero] at hx0 hx1 hx2 hx4 hf1 hf2 hf4
            rw [HC1.out] at hx1
            rw [HC2.out] at hx2
            rw [HC4.out] at hx4
            rw [HG1.out] at hf1
            rw [HG2.out] at hf2
            rw [HG4.out] at hf4
            have hb1 : (cnt != cnt) = false := by simp
            have hb2 : (whole != whole) = false := by simp
            have hb4 : (all != all) = false := by simp
            have HEq := Aside0.mk (show Calls Tryd.prog 37 #[.slice Ay x.length cy, .slice Ar x.length Cr] w5 fun e w' => e = .returned (.bool true) ∧ w' = w5 from (equal_calls Ay Ar x.length x.length cy Cr x x w5 (Kd.C_below HCy.out HBl.out) (Kd.C_below HCr.out HBl.out) HXB.out HXB.out).mono fun e w' h => ⟨by rw [h.1]; simp, h.2⟩)
            go_wp2_with (first | (at_lookup; refine wpList_look_ok w5 rfl (.tmp 51) (.tmp 53) 65 rfl 2 22 law Tryd.underlying65 (zeroE _) (w.heap.size + 1 + 1) i D rfl HMl.out _ (.int .i64 n0) rfl HKey.out (.slice Ay x.length cy) true HAt.out HHas.out ?_) | (at_mapUpdate; refine wpList_mapUpdate_own w5 rfl (.tmp 87) (.tmp 89) (.tmp 90) 65 rfl 2 22 law Tryd.underlying65 heldR (w.heap.size + 1 + 1) i D rfl HMl.out (by unfold maxLen; omega) _ _ _ rfl rfl HKey.out _ [] rfl ?_; intro w6 hown6 hgrow6))
            refine HEq.out.mono ?_
            clear HEq
            rintro e w6 ⟨rfl, hw⟩
            subst hw
            go_wp2_with (at_mapUpdate; refine wpList_mapUpdate_own w6 rfl (.tmp 87) (.tmp 89) (.tmp 90) 65 rfl 2 22 law Tryd.underlying65 heldR (w.heap.size + 1 + 1) i D rfl HMl.out (by unfold maxLen; omega) _ _ _ rfl rfl HKey.out _ [] rfl ?_; intro w7 hown6 hgrow6)
            have HM7 := Aside0.mk hown6
            have HF7 := Aside0.mk (lab_grown HFl.out hgrow6 (fun e => map_ne HMl.out HFl.out (Option.some.inj e)))
            have HR7 := Aside0.mk (lab_grown HRl.out hgrow6 (fun e => map_ne HMl.out HRl.out (Option.some.inj e)))
            have HB7 := Aside0.mk (HBl.out.grown hgrow6 HBl.out.size (fun k hk => by injection hk with hk; omega))
            clear hown6 hgrow6
            obtain ⟨gg, rfl⟩ : ∃ gg, gk = gg + 1 := ⟨gk - 1, by have := HNI.out; omega⟩
            go_roundg gg
            case measure => exact Nat.lt_succ_self _
            case rel => exact ⟨i + 1, _, g0, g1, g2, g3, g4, g5, by go_num, by rw [← HN.out]; have := HNI.out; omega, HR7.out, HF7.out, fun _ => ⟨HG1.out, HG2.out, HG4.out⟩, fun h => absurd h (Nat.succ_ne_zero _), HM7.out, HGotN.out, HB7.out⟩
          · have HHas := Aside0.mk (show Go.Maps.has D (.int .i64 n0) = false by rw [HG.out.has, decide_eq_false hin])
            have HAt := Aside0.mk (show D.atKey (.int .i64 n0) (.held (.slice none 0 0)) = .held (.slice none 0 0) from HG.out.none n0 (fun z hz e => hin (List.mem_map.2 ⟨z, hz, e⟩)) _)
            clear hx hxm hCr0 h6 hin
            by_cases hi : i = 0
            · have hi0 : ((i : Int) == 0) = true := by subst hi; rfl
              clear hi
              go_upto_region 13 with (fail)
              go_wp2_with fail
              refine HOp.out.mono ?_
              clear HOp
              rintro e w2 ⟨A1, c1, rfl, _, _, hb2⟩
              rw [H6.out, HFI.out, show (nums .i64 [n0, n1, n2, n3, n4, n5]).toArray = #[.int .i64 n0, .int .i64 n1, .int .i64 n2, .int .i64 n3, .int .i64 n4, .int .i64 n5] from rfl]
              have hb3 := hb2.trans ((Below.refl w2.heap.size w2).alloc (Nat.le_refl _) (.cells #[.int .i64 n0, .int .i64 n1, .int .i64 n2, .int .i64 n3, .int .i64 n4, .int .i64 n5] 54) |>.mono hb2.size)
              have HX3 := Aside0.mk (show LabAt (w2.alloc (.cells #[.int .i64 n0, .int .i64 n1, .int .i64 n2, .int .i64 n3, .int .i64 n4, .int .i64 n5] 54)) w2.heap.size [n0, n1, n2, n3, n4, n5] from heap_alloc_new w2 _)
              have HRb3 := Aside0.mk (lab_below HRb.out hb3)
              have HF3 := Aside0.mk (lab_below HFb.out hb3)
              have HM3 := Aside0.mk (map_below HM.out hb3)
              have HB3 := Aside0.mk (HB.out.trans (hb3.mono HB.out.size))
              have HSZ := Aside0.mk (show w.heap.size + 1 < w2.heap.size from Nat.lt_of_lt_of_le (Array.getElem?_eq_some_iff.1 HFb.out).1 hb2.size)
              clear hb2 hb3
              have HXl := Aside0.mk (show LabAt ((w2.alloc (.cells #[.int .i64 n0, .int .i64 n1, .int .i64 n2, .int .i64 n3, .int .i64 n4, .int .i64 n5] 54)).setRow (w.heap.size + 1) #[.int .i64 n0, .int .i64 n1, .int .i64 n2, .int .i64 n3, .int .i64 n4, .int .i64 n5]) w2.heap.size [n0, n1, n2, n3, n4, n5] from (But.setRow (F := fun k => k = w.heap.size + 1) _ _ _ rfl).heap HX3.out (by have := HSZ.out; omega))
              have HFl := Aside0.mk (show LabAt ((w2.alloc (.cells #[.int .i64 n0, .int .i64 n1, .int .i64 n2, .int .i64 n3, .int .i64 n4, .int .i64 n5] 54)).setRow (w.heap.size + 1) #[.int .i64 n0, .int .i64 n1, .int .i64 n2, .int .i64 n3, .int .i64 n4, .int .i64 n5]) (w.heap.size + 1) [n0, n1, n2, n3, n4, n5] from setRow_heap_at _ _ _ _ 54 (0, 0) HF3.out)
              have HRl := Aside0.mk (show LabAt ((w2.alloc (.cells #[.int .i64 n0, .int .i64 n1, .int .i64 n2, .int .i64 n3, .int .i64 n4, .int .i64 n5] 54)).setRow (w.heap.size + 1) #[.int .i64 n0, .int .i64 n1, .int .i64 n2, .int .i64 n3, .int .i64 n4, .int .i64 n5]) w.heap.size z6 from (But.setRow (F := fun k => k = w.heap.size + 1) _ _ _ rfl).heap HRb3.out (by omega))
              have HMl := Aside0.mk (map_other HM3.out (w' := (w2.alloc (.cells #[.int .i64 n0, .int .i64 n1, .int .i64 n2, .int .i64 n3, .int .i64 n4, .int .i64 n5] 54)).setRow (w.heap.size + 1) #[.int .i64 n0, .int .i64 n1, .int .i64 n2, .int .i64 n3, .int .i64 n4, .int .i64 n5]) (setRow_other _ _ _ _ (by omega)))
              have HBl := Aside0.mk (setRow_below HB3.out (Nat.le_succ w.heap.size) #[.int .i64 n0, .int .i64 n1, .int .i64 n2, .int .i64 n3, .int .i64 n4, .int .i64 n5])
              go_upto_region 16 with (first | (refine wpList_load_row rfl 54 (.tmp 13) rfl w2.heap.size rfl 54 #[.int .i64 n0, .int .i64 n1, .int .i64 n2, .int .i64 n3, .int .i64 n4, .int .i64 n5] (0, 0) _ HX3.out Tryd.underlying54 rfl (by kernel_rfl) ?_) | (refine wpList_store_row rfl 54 (.tmp 6) (.tmp 49) rfl (w.heap.size + 1) #[.int .i64 n0, .int .i64 n1, .int .i64 n2, .int .i64 n3, .int .i64 n4, .int .i64 n5] rfl rfl 54 _ HF3.out (by kernel_rfl) rfl (six_one _ _ _ _ _ _) ?_))
              generalize (w2.alloc (.cells #[.int .i64 n0, .int .i64 n1, .int .i64 n2, .int .i64 n3, .int .i64 n4, .int .i64 n5] 54)).setRow (w.heap.size + 1) #[.int .i64 n0, .int .i64 n1, .int .i64 n2, .int .i64 n3, .int .i64 n4, .int .i64 n5] = w5 at HXl HFl HRl HMl HBl ⊢
              clear HX3 HRb3 HF3 HM3 HB3
              obtain ⟨g0, g1, g2, g3, g4, g5, hg⟩ : ∃ g0 g1 g2 g3 g4 g5, [n0, n1, n2, n3, n4, n5] = [g0, g1, g2, g3, g4, g5] := ⟨_, _, _, _, _, _, rfl⟩
              have HG1 := Aside0.mk (show g1 = cnt by have := (List.cons.inj (List.cons.inj hg).2).1; rw [← this]; exact HC1.out)
              have HG2 := Aside0.mk (show g2 = whole by have := (List.cons.inj (List.cons.inj (List.cons.inj hg).2).2).1; rw [← this]; exact HC2.out)
              have HG4 := Aside0.mk (show g4 = all by have := (List.cons.inj (List.cons.inj (List.cons.inj (List.cons.inj (List.cons.inj hg).2).2).2).2).1; rw [← this]; exact HC4.out)
              rw [hg] at HFl
              clear hg
              generalize w2.heap.size = X at HXl HSZ ⊢
              have hx0 := lab_cell HXl.out 0 (by simp)
              have hx1 := lab_cell HXl.out 1 (by simp)
              have hx2 := lab_cell HXl.out 2 (by simp)
              have hx4 := lab_cell HXl.out 4 (by simp)
              have hf1 := lab_cell HFl.out 1 (by simp)
              have hf2 := lab_cell HFl.out 2 (by simp)
              have hf4 := lab_cell HFl.out 4 (by simp)
              simp only [List.getElem_cons_succ, List.getElem_cons_zero] at hx0 hx1 hx2 hx4 hf1 hf2 hf4
              rw [HC1.out] at hx1
              rw [HC2.out] at hx2
              rw [HC4.out] at hx4
              rw [HG1.out] at hf1
              rw [HG2.out] at hf2
              rw [HG4.out] at hf4
              have hb1 : (cnt != cnt) = false := by simp
              have hb2 : (whole != whole) = false := by simp
              have hb4 : (all != all) = false := by simp
              go_wp2_with (first | (at_lookup; refine wpList_look_ok w5 rfl (.tmp 51) (.tmp 53) 65 rfl 2 22 law Tryd.underlying65 (zeroE _) (w.heap.size + 1 + 1) i D rfl HMl.out _ (.int .i64 n0) rfl HKey.out (.slice none 0 0) false HAt.out HHas.out ?_) | (at_mapUpdate; refine wpList_mapUpdate_own w5 rfl (.tmp 87) (.tmp 89) (.tmp 90) 65 rfl 2 22 law Tryd.underlying65 heldR (w.heap.size + 1 + 1) i D rfl HMl.out (by unfold maxLen; omega) _ _ _ rfl rfl HKey.out _ [] rfl ?_; intro w7 hown6 hgrow6))
              have HM7 := Aside0.mk hown6
              have HF7 := Aside0.mk (lab_grown HFl.out hgrow6 (fun e => map_ne HMl.out HFl.out (Option.some.inj e)))
              have HR7 := Aside0.mk (lab_grown HRl.out hgrow6 (fun e => map_ne HMl.out HRl.out (Option.some.inj e)))
              have HB7 := Aside0.mk (HBl.out.grown hgrow6 HBl.out.size (fun k hk => by injection hk with hk; omega))
              clear hown6 hgrow6
              obtain ⟨gg, rfl⟩ : ∃ gg, gk = gg + 1 := ⟨gk - 1, by have := HNI.out; omega⟩
              go_roundg gg
              case measure => exact Nat.lt_succ_self _
              case rel => exact ⟨i + 1, _, g0, g1, g2, g3, g4, g5, by go_num, by rw [← HN.out]; have := HNI.out; omega, HR7.out, HF7.out, fun _ => ⟨HG1.out, HG2.out, HG4.out⟩, fun h => absurd h (Nat.succ_ne_zero _), HM7.out, HGotN.out, HB7.out⟩
            · have hi0 : ((i : Int) == 0) = false := by simp; omega
              have hipos : 0 < i := by omega
              clear hi
              go_upto_region 13 with (fail)
              go_wp2_with fail
              refine HOp.out.mono ?_
              clear HOp
              rintro e w2 ⟨A1, c1, rfl, _, _, hb2⟩
              rw [H6.out, HFI.out, show (nums .i64 [n0, n1, n2, n3, n4, n5]).toArray = #[.int .i64 n0, .int .i64 n1, .int .i64 n2, .int .i64 n3, .int .i64 n4, .int .i64 n5] from rfl]
              have hb3 := hb2.trans ((Below.refl w2.heap.size w2).alloc (Nat.le_refl _) (.cells #[.int .i64 n0, .int .i64 n1, .int .i64 n2, .int .i64 n3, .int .i64 n4, .int .i64 n5] 54) |>.mono hb2.size)
              have HX3 := Aside0.mk (show LabAt (w2.alloc (.cells #[.int .i64 n0, .int .i64 n1, .int .i64 n2, .int .i64 n3, .int .i64 n4, .int .i64 n5] 54)) w2.heap.size [n0, n1, n2, n3, n4, n5] from heap_alloc_new w2 _)
              have HRb3 := Aside0.mk (lab_below HRb.out hb3)
              have HF3 := Aside0.mk (lab_below HFb.out hb3)
              have HM3 := Aside0.mk (map_below HM.out hb3)
              have HB3 := Aside0.mk (HB.out.trans (hb3.mono HB.out.size))
              have HSZ := Aside0.mk (show w.heap.size + 1 < w2.heap.size from Nat.lt_of_lt_of_le (Array.getElem?_eq_some_iff.1 HFb.out).1 hb2.size)
              clear hb2 hb3
              go_upto_region 16 with (fail)
              generalize w2.alloc (.cells #[.int .i64 n0, .int .i64 n1, .int .i64 n2, .int .i64 n3, .int .i64 n4, .int .i64 n5] 54) = w5 at HX3 HRb3 HF3 HM3 HB3 ⊢
              have HXl := HX3
              have HFl := HF3
              have HRl := HRb3
              have HMl := HM3
              have HBl := HB3
              obtain ⟨g0, g1, g2, g3, g4, g5, hg⟩ : ∃ g0 g1 g2 g3 g4 g5, [f0, f1, f2, f3, f4, f5] = [g0, g1, g2, g3, g4, g5] := ⟨_, _, _, _, _, _, rfl⟩
              have HG1 := Aside0.mk (show g1 = cnt by have := (List.cons.inj (List.cons.inj hg).2).1; rw [← this]; exact (HFC.out (by omega)).1)
              have HG2 := Aside0.mk (show g2 = whole by have := (List.cons.inj (List.cons.inj (List.cons.inj hg).2).2).1; rw [← this]; exact (HFC.out (by omega)).2.1)
              have HG4 := Aside0.mk (show g4 = all by have := (List.cons.inj (List.cons.inj (List.cons.inj (List.cons.inj (List.cons.inj hg).2).2).2).2).1; rw [← this]; exact (HFC.out (by omega)).2.2)
              rw [hg] at HFl
              clear hg HX3 HRb3 HF3 HM3 HB3
              generalize w2.heap.size = X at HXl HSZ ⊢
              have hx0 := lab_cell HXl.out 0 (by simp)
              have hx1 := lab_cell HXl.out 1 (by simp)
              have hx2 := lab_cell HXl.out 2 (by simp)
              have hx4 := lab_cell HXl.out 4 (by simp)
              have hf1 := lab_cell HFl.out 1 (by simp)
              have hf2 := lab_cell HFl.out 2 (by simp)
              have hf4 := lab_cell HFl.out 4 (by simp)
              simp only [List.getElem_cons_succ, List.getElem_cons_zero] at hx0 hx1 hx2 hx4 hf1 hf2 hf4
              rw [HC1.out] at hx1
              rw [HC2.out] at hx2
              rw [HC4.out] at hx4
              rw [HG1.out] at hf1
              rw [HG2.out] at hf2
              rw [HG4.out] at hf4
              have hb1 : (cnt != cnt) = false := by simp
              have hb2 : (whole != whole) = false := by simp
              have hb4 : (all != all) = false := by simp
              go_wp2_with (first | (at_lookup; refine wpList_look_ok w5 rfl (.tmp 51) (.tmp 53) 65 rfl 2 22 law Tryd.underlying65 (zeroE _) (w.heap.size + 1 + 1) i D rfl HMl.out _ (.int .i64 n0) rfl HKey.out (.slice none 0 0) false HAt.out HHas.out ?_) | (at_mapUpdate; refine wpList_mapUpdate_own w5 rfl (.tmp 87) (.tmp 89) (.tmp 90) 65 rfl 2 22 law Tryd.underlying65 heldR (w.heap.size + 1 + 1) i D rfl HMl.out (by unfold maxLen; omega) _ _ _ rfl rfl HKey.out _ [] rfl ?_; intro w7 hown6 hgrow6))
              have HM7 := Aside0.mk hown6
              have HF7 := Aside0.mk (lab_grown HFl.out hgrow6 (fun e => map_ne HMl.out HFl.out (Option.some.inj e)))
              have HR7 := Aside0.mk (lab_grown HRl.out hgrow6 (fun e => map_ne HMl.out HRl.out (Option.some.inj e)))
              have HB7 := Aside0.mk (HBl.out.grown hgrow6 HBl.out.size (fun k hk => by injection hk with hk; omega))
              clear hown6 hgrow6
              obtain ⟨gg, rfl⟩ : ∃ gg, gk = gg + 1 := ⟨gk - 1, by have := HNI.out; omega⟩
              go_roundg gg
              case measure => exact Nat.lt_succ_self _
              case rel => exact ⟨i + 1, _, g0, g1, g2, g3, g4, g5, by go_num, by rw [← HN.out]; have := HNI.out; omega, HR7.out, HF7.out, fun _ => ⟨HG1.out, HG2.out, HG4.out⟩, fun h => absurd h (Nat.succ_ne_zero _), HM7.out, HGotN.out, HB7.out⟩
        · obtain ⟨rfl, rfl⟩ : gk = 0 ∧ i = n := by have := HNI.out; omega
          have HRf := Aside0.mk (setRow_heap_at wr w.heap.size #[.int .i64 f0, .int .i64 f1, .int .i64 f2, .int .i64 f3, .int .i64 f4, .int .i64 f5] _ 54 (0, 0) HRb.out)
          have HMf := Aside0.mk (map_other HM.out (w' := wr.setRow w.heap.size #[.int .i64 f0, .int .i64 f1, .int .i64 f2, .int .i64 f3, .int .i64 f4, .int .i64 f5]) (setRow_other _ _ _ _ (by omega)))
          have HBf := Aside0.mk (setRow_below HB.out (Nat.le_refl _) #[.int .i64 f0, .int .i64 f1, .int .i64 f2, .int .i64 f3, .int .i64 f4, .int .i64 f5])
          go_wp2_with (first | (refine wpList_load_row rfl 54 (.tmp 6) rfl (w.heap.size + 1) rfl 54 #[.int .i64 f0, .int .i64 f1, .int .i64 f2, .int .i64 f3, .int .i64 f4, .int .i64 f5] (0, 0) _ HFb.out Tryd.underlying54 rfl (by kernel_rfl) ?_) | (refine wpList_store_row rfl 54 (.tmp 2) (.tmp 92) rfl w.heap.size #[.int .i64 f0, .int .i64 f1, .int .i64 f2, .int .i64 f3, .int .i64 f4, .int .i64 f5] rfl rfl 54 _ HRb.out (by kernel_rfl) rfl (six_one _ _ _ _ _ _) ?_))
          refine bodyPost_ret (results_set rfl _ _ w.heap.size 54 #[.int .i64 f0, .int .i64 f1, .int .i64 f2, .int .i64 f3, .int .i64 f4, .int .i64 f5] (0, 0) _ rfl HRf.out Tryd.underlying54 rfl (by kernel_rfl)) rfl ?_
          have htk : L.take i = L := List.take_of_length_le (by rw [← HN.out]; exact Nat.le_refl _)
          exact ⟨w.heap.size + 1 + 1, D, f0, f1, f2, f3, f4, f5, rfl, fun h => HFC.out (by rw [HN.out]; exact h), fun h => HFZ.out (by rw [HN.out]; exact h), by rw [← HN.out]; exact HMf.out, by have := HG.out; rw [htk] at this; exact this, HBf.out⟩
end Go.Proofs.YtkcgioggnbnfkaaDoor.SetW
