/- volume.Join with all its ways, volume.Missing over any count: walked once. -/
import Derived.Test.YtkcgioggnbnfkaaDoorZSetB
set_option linter.unusedVariables false
set_option linter.unusedSimpArgs false
namespace Go.Proofs.YtkcgioggnbnfkaaDoor.BackP
end Go.Proofs.YtkcgioggnbnfkaaDoor.BackP
namespace Go.Proofs.YtkcgioggnbnfkaaDoor.JoinB
open Go
open Go.RowKit Go.Proofs.YtkcgioggnbnfkaaDoorW.PrintWords Go.Proofs.YtkcgioggnbnfkaaDoorW.PrintLast Go.Proofs.YtkcgioggnbnfkaaDoorW.PrintMore Go.Proofs.YtkcgioggnbnfkaaDoorW.Mv Go.Proofs.YtkcgioggnbnfkaaDoorW.HKit Go.Proofs.YtkcgioggnbnfkaaDoorW.But Go.Proofs.YtkcgioggnbnfkaaDoorW.App Go.Proofs.YtkcgioggnbnfkaaDoorW.Rwb Go.Proofs.YtkcgioggnbnfkaaDoor.PVolumeJoins Go.Proofs.YtkcgioggnbnfkaaDoor.CrcA Go.Proofs.YtkcgioggnbnfkaaDoor.Crc Go.Proofs.YtkcgioggnbnfkaaDoor.NumP Go.Proofs.YtkcgioggnbnfkaaDoor.NumG Go.Proofs.YtkcgioggnbnfkaaDoor.Num Go.Proofs.YtkcgioggnbnfkaaDoor.Lab Go.Proofs.YtkcgioggnbnfkaaDoor.Read Go.Proofs.YtkcgioggnbnfkaaDoor.Open Go.Proofs.YtkcgioggnbnfkaaDoor.Vol Go.Proofs.YtkcgioggnbnfkaaDoor.Spl Go.Proofs.YtkcgioggnbnfkaaDoor.RS Go.Proofs.YtkcgioggnbnfkaaDoorW.Live Go.Proofs.YtkcgioggnbnfkaaDoor.RB Go.Proofs.YtkcgioggnbnfkaaDoor.RS Go.Proofs.YtkcgioggnbnfkaaDoor.WS Go.Proofs.YtkcgioggnbnfkaaDoorW.Mps Go.Proofs.YtkcgioggnbnfkaaDoor.SetW Go.Proofs.YtkcgioggnbnfkaaDoor.JoinW Go.Proofs.YtkcgioggnbnfkaaDoor.BackP Go.Proofs.YtkcgioggnbnfkaaDoor.BackR Go.Proofs.YtkcgioggnbnfkaaDoor.RO Go.Proofs.YtkcgioggnbnfkaaDoor.RSet Go.Proofs.YtkcgioggnbnfkaaDoorW.Rws Go.Proofs.YtkcgioggnbnfkaaDoor.RJ Go.Proofs.YtkcgioggnbnfkaaDoor.SetB
/-- The ways in which joined parts are handed back. -/
def JWays (out : List Int) (whole all : Int) (xs : List Int) (code : Int) : Prop := ((out.length : Int) ≠ whole ∧ xs = [] ∧ code = 11) ∨ ((out.length : Int) = whole ∧ ((crcSum out : Nat) : Int) ≠ all ∧ xs = [] ∧ code = 4) ∨ ((out.length : Int) = whole ∧ ((crcSum out : Nat) : Int) = all ∧ xs = out ∧ code = 0)
def JAPost (w : World) (out : List Int) (whole all : Int) (e : Ending) (w' : World) : Prop := ∃ xs code v, JWays out whole all xs code ∧ e = .returned (.tuple #[v, .int .i64 0, .int .u8 code]) ∧ Own w.heap.size w' v xs ∧ Below w.heap.size w w'
set_option maxHeartbeats 8000000 in
set_option maxRecDepth 100000 in
theorem join_all (A : Option Addr) (c m : Nat) (L : List (List Int)) (whole all : Int) (w : World) (hR : RowsB w A c L) (hF : Fit L (m : Int) whole all) (hm : m ≤ 100) (h0 : 0 < L.length) (hall : ∀ k, k < m → ∃ x ∈ L, num x = (k : Int)) (hbig : m ≤ (dd (L.map num)).length)
    (hsm : ∀ k, k ≤ m → (outOf L k).length ≤ 1000000) : Calls Tryd.prog 13 #[.slice A L.length c] w (JAPost w (outOf L m) whole all) := by
  have HSet := Aside0.mk (set_ok A c L m whole all w hR hF)
  have HAll := Aside0.mk hall
  have HF := Aside0.mk hF
  have HSM := Aside0.mk hsm
  have HBG := Aside0.mk hbig
  have HOB := Aside0.mk (show ∀ k, k ≤ m → ∀ z ∈ outOf L k, 0 ≤ z ∧ z ≤ 255 from fun k hk z hz => by
    unfold outOf at hz
    obtain ⟨j, hj, hz⟩ := List.mem_flatMap.1 hz
    have hjk : j < k := List.mem_range.1 hj
    exact part_bd2 _ (hF.bytes _ (byNum_of (hall j (by omega))).1) z hz)
  obtain ⟨n, hn⟩ : ∃ n, n = L.length := ⟨_, rfl⟩
  have HN := Aside0.mk hn
  rw [← hn] at HSet h0 ⊢
  clear hR hF hall hsm hbig hn
  have hn0 : ((n : Int) == 0) = false := by simp; omega
  go_enter Tryd.func13, Tryd.ntmps13
  go_wp2_with fail
  refine HSet.out.mono ?_
  clear HSet
  rintro e w1 ⟨bm, D, f0, f1, f2, f3, f4, f5, rfl, hf, _, hM, hG, hb1⟩
  obtain ⟨e1, e2, e4⟩ := hf (by rw [← HN.out]; omega)
  subst e1
  have HB := Aside0.mk (hb1.alloc hb1.size (.cells #[.int .i64 f0, .int .i64 (m : Int), .int .i64 f2, .int .i64 f3, .int .i64 f4, .int .i64 f5] 54))
  have HM := Aside0.mk (map_below hM ((Below.refl w1.heap.size w1).alloc (Nat.le_refl _) (.cells #[.int .i64 f0, .int .i64 (m : Int), .int .i64 f2, .int .i64 f3, .int .i64 f4, .int .i64 f5] 54)))
  have HL := Aside0.mk (show LabAt (w1.alloc (.cells #[.int .i64 f0, .int .i64 (m : Int), .int .i64 f2, .int .i64 f3, .int .i64 f4, .int .i64 f5] 54)) w1.heap.size [f0, (m : Int), f2, f3, f4, f5] from heap_alloc_new w1 _)
  have HG := Aside0.mk hG
  have HF2 := Aside0.mk e2
  have HF4 := Aside0.mk e4
  have HFW := Aside0.mk hb1.size
  have hlt : ¬ ((Go.Maps.size D : Nat) : Int) < (m : Int) := by
    rw [hG.size]
    have := HBG.out
    omega
  have hltd : decide (((Go.Maps.size D : Nat) : Int) < (m : Int)) = false := decide_eq_false hlt
  have hltd2 : decide (Go.Maps.size D < m) = false := decide_eq_false (by omega)
  clear hb1 hf hM hG e2 e4
  have hmlen := HM.out.len Tryd.underlying65 3
  go_wp2_with fail
  generalize w1.alloc (.cells #[.int .i64 f0, .int .i64 (m : Int), .int .i64 f2, .int .i64 f3, .int .i64 f4, .int .i64 f5] 54) = wa at HB HM HL hmlen ⊢
  generalize w1.heap.size = F at HL HFW ⊢
  have HS := Aside0.mk (show JRel w w L bm F m D [f0, (m : Int), f2, f3, f4, f5] m (.slice none 0 0) (.int .i64 0) wa from ⟨0, rfl, rfl, World.ownsRow_nil _ _ _ _, HM.out, HL.out, HB.out⟩)
  clear HM HL HB hmlen
  go_loopg [9, 37] m (fun n' v9 v37 wr => JRel w w L bm F m D [f0, (m : Int), f2, f3, f4, f5] n' v9 v37 wr)
  case atStart => exact HS.out
  case round =>
    clear HS
    obtain ⟨k, rfl, hnk, hO, hM, hL, hB⟩ := hrel
    have HNK := Aside0.mk hnk
    have HO := Aside0.mk hO
    have HM := Aside0.mk hM
    have HL := Aside0.mk hL
    have HB := Aside0.mk hB
    clear hnk hO hM hL hB
    by_cases hlt2 : k < m
    · obtain ⟨hxm, hxn⟩ := byNum_of (HAll.out k hlt2)
      obtain ⟨x, hx⟩ : ∃ x, x = byNum L k := ⟨_, rfl⟩
      rw [← hx] at hxm hxn
      obtain ⟨y, hy, hyn, Ax, cx, hxc, hCx, hat⟩ := HG.out.some x hxm
      have hyx : x = y := (HF.out.one y hy x hxm hyn).symm
      subst hyx
      have HKey := Aside0.mk (show keyOf Tryd.prog 2 (.int .i64 (k : Int)) = some (.int .i64 (k : Int)) by have := HF.out.key x hxm; rw [hxn] at this; exact Go.Maps.keyOf_int_mk Tryd.underlying2 this)
      have HAt := Aside0.mk (by have := hat (.held (.slice none 0 0)); rw [hxn] at this; exact this)
      have HOp := Aside0.mk (open_calls Ax x.length cx x wr (Kd.C_below hCx HB.out) hxc (HF.out.bytes x hxm) (HF.out.size x hxm))
      have HPs := Aside0.mk (part_small x (HF.out.size x hxm))
      have HSk := Aside0.mk (HSM.out k (by omega))
      have HX := Aside0.mk (show outOf L (k + 1) = outOf L k ++ partOf x by rw [outOf_succ, hx])
      obtain ⟨n0, n1, n2, n3, n4, n5, h6⟩ := openOf_six x
      have H6 := Aside0.mk h6
      clear hx hxm hxn hy hyn hat hCx h6
      go_wp2_with (at_lookup; refine wpList_look wr rfl (.tmp 41) (.tmp 42) 65 rfl 2 22 law Tryd.underlying65 (zeroE _) bm L.length D rfl HM.out _ (.int .i64 (k : Int)) rfl HKey.out (.slice Ax x.length cx) HAt.out ?_)
      refine HOp.out.mono ?_
      clear HOp
      rintro e w2 ⟨A1, c1, rfl, hlc1, hC1, hb2⟩
      rw [H6.out, show (nums .i64 [n0, n1, n2, n3, n4, n5]).toArray = #[.int .i64 n0, .int .i64 n1, .int .i64 n2, .int .i64 n3, .int .i64 n4, .int .i64 n5] from rfl]
      have hb3 := hb2.trans ((Below.refl w2.heap.size w2).alloc (Nat.le_refl _) (.cells #[.int .i64 n0, .int .i64 n1, .int .i64 n2, .int .i64 n3, .int .i64 n4, .int .i64 n5] 54) |>.mono hb2.size)
      have HO3 := Aside0.mk (own_stays HO.out (fun q hq => hb3.block q (own_lt HO.out q hq)))
      have HM3 := Aside0.mk (map_below HM.out hb3)
      have HL3 := Aside0.mk (lab_below HL.out hb3)
      have HB3 := Aside0.mk (HB.out.trans (hb3.mono HB.out.size))
      have HC3 := Aside0.mk (Kd.C_below hC1 hb3)
      clear hb2 hb3 hC1 HO HM HL
      generalize hpt : (openOf x).2.1 = pt at HC3 hlc1 ⊢
      have HPT := Aside0.mk (show partOf x = pt from hpt)
      have hptl : pt.length ≤ 100000 := by rw [← HPT.out]; exact HPs.out
      have hskl := HSk.out
      clear hpt
      go_wp2_with (at_builtin; refine wpList_app_reads (w2.alloc (.cells #[.int .i64 n0, .int .i64 n1, .int .i64 n2, .int .i64 n3, .int .i64 n4, .int .i64 n5] 54)) rfl (.tmp 48) (.tmp 49) 22 rfl w.heap.size 5 Tryd.underlying22 Lab.byteInfo u9 (outOf L k) pt rfl HO3.out A1 pt.length c1 rfl HC3.out (by omega) HB3.out.size ?_; intro v4 w4 hown4 hgrow4 hloc4)
      have HO4 := Aside0.mk (show Own w.heap.size w4 v4 (outOf L (k + 1)) by rw [HX.out, HPT.out]; exact hown4)
      have HM4 := Aside0.mk (map_other HM3.out (hgrow4.block bm HM3.out.lt (fun e => by obtain ⟨cells, hc⟩ := own_typed HO3.out bm e.symm; exact map_ne HM3.out hc rfl)))
      have HL4 := Aside0.mk (lab_grown HL3.out hgrow4 (fun e => own_ne5 HO3.out HL3.out e))
      have HB4 := Aside0.mk (HB3.out.grown hgrow4 HB3.out.size (own_base HO3.out))
      clear hown4 hgrow4 hloc4
      obtain ⟨gg, rfl⟩ : ∃ gg, gk = gg + 1 := ⟨gk - 1, by have := HNK.out; omega⟩
      go_roundg gg
      case measure => exact Nat.lt_succ_self _
      case rel => exact ⟨k + 1, by go_num, by have := HNK.out; omega, HO4.out, HM4.out, HL4.out, HB4.out⟩
    · obtain ⟨rfl, rfl⟩ : gk = 0 ∧ k = m := by have := HNK.out; omega
      have hc2 := lab_cell HL.out 2 (by simp)
      have hc4 := lab_cell HL.out 4 (by simp)
      simp only [List.getElem_cons_succ, List.getElem_cons_zero] at hc2 hc4
      obtain ⟨A9, c9, hv9, hlc9, hC9, _, hnil9, _⟩ := own_C (kd := .u8) HO.out rfl
      subst hv9
      have hob := HOB.out k (Nat.le_refl _)
      obtain ⟨out, hout⟩ : ∃ out, out = outOf L k := ⟨_, rfl⟩
      have HOut := Aside0.mk hout
      rw [← hout] at hlc9 hC9 hnil9 hob ⊢
      have hsl : out.length ≤ 1000000 := by rw [hout]; exact HSM.out k (Nat.le_refl _)
      have HCl := Aside0.mk hC9
      have HNil := Aside0.mk hnil9
      have HOB2 := Aside0.mk hob
      clear hout hC9 hnil9 hob
      by_cases hle : (out.length : Int) = f2
      · have hwh : ((out.length : Int) != f2) = false := by simp [hle]
        have HLE := Aside0.mk hle
        clear hle
        go_upto_region 15 with (fail)
        have HS5 := Aside0.mk (show Hid (Below wr.heap.size wr wr.drew) ∧ wr.drew.cell? ⟨F, 4, none⟩ = some (.int .i64 f4) from ⟨Lib.hid (Below.refl _ wr).drew, hc4⟩)
        have HSm := Aside0.mk (sum_any A9 out.length c9 out wr.drew (Kd.C_below HCl.out (Below.refl _ wr).drew) hlc9 HOB2.out)
        have hcv : IntKind.i64.wrap ((crcSum out : Nat) : Int) = ((crcSum out : Nat) : Int) := by rw [IntKind.wrap_i64]; have := crcSum_lt out HOB2.out; omega
        by_cases hcs : ((crcSum out : Nat) : Int) = f4
        · have hcn : (((crcSum out : Nat) : Int) != f4) = false := by simp [hcs]
          have HCS := Aside0.mk hcs
          clear hcs
          refine wp_region_held_drew (S := (fun W : World => Hid (Below wr.heap.size wr W) ∧ W.cell? ⟨F, 4, none⟩ = some (.int .i64 f4))) (by kernel_rfl) ?_ (fun hHeld => ?_)
          · exact HS5.out
          refine wpAnyH_take (i := 0) (v := ?_) rfl (by kernel_rfl) (by kernel_rfl) (by kernel_rfl) (fun _ _ _ h => h) (Or.inl ⟨by rfl, ?_⟩) (by assumption) ?_; rotate_left; focus (intro w hSw; (try dsimp only at hSw); simp only [List.getElem_toArray, List.getElem_cons_succ, List.getElem_cons_zero]; go_simp; (try (with_reducible rfl)))
          simp only [List.getElem_toArray, List.getElem_cons_succ, List.getElem_cons_zero, Act.put, List.setIfInBounds_toArray, List.set_cons_zero, List.set_cons_succ]
          refine wpAnyH_take (i := 3) (v := ?_) rfl (by kernel_rfl) (by kernel_rfl) (by kernel_rfl) (fun _ _ _ h => h) (Or.inl ⟨by rfl, ?_⟩) (by assumption) ?_; rotate_left; focus (intro w hSw; (try dsimp only at hSw); simp only [List.getElem_toArray, List.getElem_cons_succ, List.getElem_cons_zero]; go_simp; (try (with_reducible rfl)))
          simp only [List.getElem_toArray, List.getElem_cons_succ, List.getElem_cons_zero, Act.put, List.setIfInBounds_toArray, List.set_cons_zero, List.set_cons_succ]
          refine wpAnyH_take (i := 4) (v := ?_) rfl (by kernel_rfl) (by kernel_rfl) (by kernel_rfl) (fun _ _ _ h => h) (Or.inl ⟨by rfl, ?_⟩) (by assumption) ?_; rotate_left; focus (intro w hSw; (try dsimp only at hSw); simp only [List.getElem_toArray, List.getElem_cons_succ, List.getElem_cons_zero]; go_simp; (try (with_reducible rfl)))
          simp only [List.getElem_toArray, List.getElem_cons_succ, List.getElem_cons_zero, Act.put, List.setIfInBounds_toArray, List.set_cons_zero, List.set_cons_succ]
          refine wpAnyH_ready (rs := [1]) (by kernel_rfl) (by simp) ?_
          refine AllReadyH.cons rfl (fun K hK => ?_) AllReadyH.nil
          go_simp
          (with_reducible refine (HSm.out).mono ?_)
          rintro e w6 ⟨rfl, hb6⟩
          refine hK.out _ _ ⟨Lib.hid ((Below.refl _ wr).drew.trans hb6), pw_cell_below (w := wr.drew) hb6 hc4⟩ (fun hHeld => ?_)
          clear hK K
          try simp only [List.getElem_toArray, List.getElem_cons_succ, List.getElem_cons_zero, Act.put, List.setIfInBounds_toArray, List.set_cons_zero, List.set_cons_succ]
          refine wpAnyH_take (i := 2) (v := ?_) rfl (by kernel_rfl) (by kernel_rfl) (by kernel_rfl) (fun _ _ _ h => h) (Or.inl ⟨by rfl, ?_⟩) (by assumption) ?_; rotate_left; focus (intro w hSw; (try dsimp only at hSw); simp only [List.getElem_toArray, List.getElem_cons_succ, List.getElem_cons_zero]; go_simp; (try (with_reducible rfl)))
          simp only [List.getElem_toArray, List.getElem_cons_succ, List.getElem_cons_zero, Act.put, List.setIfInBounds_toArray, List.set_cons_zero, List.set_cons_succ]
          refine wpAnyH_take (i := 5) (v := ?_) rfl (by kernel_rfl) (by kernel_rfl) (by kernel_rfl) (fun _ _ _ h => h) (Or.inl ⟨by rfl, ?_⟩) (by assumption) ?_; rotate_left; focus (intro w hSw; (try dsimp only at hSw); simp only [List.getElem_toArray, List.getElem_cons_succ, List.getElem_cons_zero]; go_simp; (try (with_reducible rfl)))
          simp only [List.getElem_toArray, List.getElem_cons_succ, List.getElem_cons_zero, Act.put, List.setIfInBounds_toArray, List.set_cons_zero, List.set_cons_succ]
          refine wpAnyH_take (i := 6) (v := ?_) rfl (by kernel_rfl) (by kernel_rfl) (by kernel_rfl) (fun _ _ _ h => h) (Or.inl ⟨by rfl, ?_⟩) (by assumption) ?_; rotate_left; focus (intro w hSw; (try dsimp only at hSw); simp only [List.getElem_toArray, List.getElem_cons_succ, List.getElem_cons_zero]; go_simp; (try (with_reducible rfl)))
          simp only [List.getElem_toArray, List.getElem_cons_succ, List.getElem_cons_zero, Act.put, List.setIfInBounds_toArray, List.set_cons_zero, List.set_cons_succ]
          refine wpAnyH_done (by kernel_rfl) ?_ _
          have HB6 := Aside0.mk hHeld.1.out
          clear hHeld hb6
          go_wp2_with fail
          refine (clone_any A9 out.length c9 out w6 (Kd.C_below HCl.out HB6.out) HNil.out (by omega)).mono ?_
          rintro e w7 ⟨v7, rfl, hO7, hb7⟩
          have HO7 := Aside0.mk (own_weaken hO7 (Nat.le_trans HB.out.size HB6.out.size))
          have HB7 := Aside0.mk (HB.out.trans ((HB6.out.trans (hb7.mono HB6.out.size)).mono HB.out.size))
          clear hO7 hb7
          go_wp2_with fail
          go_ret3
          rw [← HOut.out]
          exact ⟨out, 0, v7, .inr (.inr ⟨HLE.out.trans HF2.out, HCS.out.trans HF4.out, rfl, rfl⟩), rfl, HO7.out, HB7.out⟩
        · have hcn : (((crcSum out : Nat) : Int) != f4) = true := by simpa using hcs
          have HCS := Aside0.mk hcs
          clear hcs
          refine wp_region_held_drew (S := (fun W : World => Hid (Below wr.heap.size wr W) ∧ W.cell? ⟨F, 4, none⟩ = some (.int .i64 f4))) (by kernel_rfl) ?_ (fun hHeld => ?_)
          · exact HS5.out
          refine wpAnyH_take (i := 0) (v := ?_) rfl (by kernel_rfl) (by kernel_rfl) (by kernel_rfl) (fun _ _ _ h => h) (Or.inl ⟨by rfl, ?_⟩) (by assumption) ?_; rotate_left; focus (intro w hSw; (try dsimp only at hSw); simp only [List.getElem_toArray, List.getElem_cons_succ, List.getElem_cons_zero]; go_simp; (try (with_reducible rfl)))
          simp only [List.getElem_toArray, List.getElem_cons_succ, List.getElem_cons_zero, Act.put, List.setIfInBounds_toArray, List.set_cons_zero, List.set_cons_succ]
          refine wpAnyH_take (i := 3) (v := ?_) rfl (by kernel_rfl) (by kernel_rfl) (by kernel_rfl) (fun _ _ _ h => h) (Or.inl ⟨by rfl, ?_⟩) (by assumption) ?_; rotate_left; focus (intro w hSw; (try dsimp only at hSw); simp only [List.getElem_toArray, List.getElem_cons_succ, List.getElem_cons_zero]; go_simp; (try (with_reducible rfl)))
          simp only [List.getElem_toArray, List.getElem_cons_succ, List.getElem_cons_zero, Act.put, List.setIfInBounds_toArray, List.set_cons_zero, List.set_cons_succ]
          refine wpAnyH_take (i := 4) (v := ?_) rfl (by kernel_rfl) (by kernel_rfl) (by kernel_rfl) (fun _ _ _ h => h) (Or.inl ⟨by rfl, ?_⟩) (by assumption) ?_; rotate_left; focus (intro w hSw; (try dsimp only at hSw); simp only [List.getElem_toArray, List.getElem_cons_succ, List.getElem_cons_zero]; go_simp; (try (with_reducible rfl)))
          simp only [List.getElem_toArray, List.getElem_cons_succ, List.getElem_cons_zero, Act.put, List.setIfInBounds_toArray, List.set_cons_zero, List.set_cons_succ]
          refine wpAnyH_ready (rs := [1]) (by kernel_rfl) (by simp) ?_
          refine AllReadyH.cons rfl (fun K hK => ?_) AllReadyH.nil
          go_simp
          (with_reducible refine (HSm.out).mono ?_)
          rintro e w6 ⟨rfl, hb6⟩
          refine hK.out _ _ ⟨Lib.hid ((Below.refl _ wr).drew.trans hb6), pw_cell_below (w := wr.drew) hb6 hc4⟩ (fun hHeld => ?_)
          clear hK K
          try simp only [List.getElem_toArray, List.getElem_cons_succ, List.getElem_cons_zero, Act.put, List.setIfInBounds_toArray, List.set_cons_zero, List.set_cons_succ]
          refine wpAnyH_take (i := 2) (v := ?_) rfl (by kernel_rfl) (by kernel_rfl) (by kernel_rfl) (fun _ _ _ h => h) (Or.inl ⟨by rfl, ?_⟩) (by assumption) ?_; rotate_left; focus (intro w hSw; (try dsimp only at hSw); simp only [List.getElem_toArray, List.getElem_cons_succ, List.getElem_cons_zero]; go_simp; (try (with_reducible rfl)))
          simp only [List.getElem_toArray, List.getElem_cons_succ, List.getElem_cons_zero, Act.put, List.setIfInBounds_toArray, List.set_cons_zero, List.set_cons_succ]
          refine wpAnyH_take (i := 5) (v := ?_) rfl (by kernel_rfl) (by kernel_rfl) (by kernel_rfl) (fun _ _ _ h => h) (Or.inl ⟨by rfl, ?_⟩) (by assumption) ?_; rotate_left; focus (intro w hSw; (try dsimp only at hSw); simp only [List.getElem_toArray, List.getElem_cons_succ, List.getElem_cons_zero]; go_simp; (try (with_reducible rfl)))
          simp only [List.getElem_toArray, List.getElem_cons_succ, List.getElem_cons_zero, Act.put, List.setIfInBounds_toArray, List.set_cons_zero, List.set_cons_succ]
          refine wpAnyH_take (i := 6) (v := ?_) rfl (by kernel_rfl) (by kernel_rfl) (by kernel_rfl) (fun _ _ _ h => h) (Or.inl ⟨by rfl, ?_⟩) (by assumption) ?_; rotate_left; focus (intro w hSw; (try dsimp only at hSw); simp only [List.getElem_toArray, List.getElem_cons_succ, List.getElem_cons_zero]; go_simp; (try (with_reducible rfl)))
          simp only [List.getElem_toArray, List.getElem_cons_succ, List.getElem_cons_zero, Act.put, List.setIfInBounds_toArray, List.set_cons_zero, List.set_cons_succ]
          refine wpAnyH_done (by kernel_rfl) ?_ _
          have HB6 := Aside0.mk hHeld.1.out
          clear hHeld hb6
          have HB7 := Aside0.mk (HB.out.trans (HB6.out.mono HB.out.size))
          go_wp2_with fail
          go_ret3
          rw [← HOut.out]
          exact ⟨[], 4, .slice none 0 0, .inr (.inl ⟨HLE.out.trans HF2.out, fun h => HCS.out (h.trans HF4.out.symm), rfl, rfl⟩), rfl, World.ownsRow_nil _ _ _ _, HB7.out⟩
      · have hwh : ((out.length : Int) != f2) = true := by simpa using hle
        have HLE := Aside0.mk hle
        clear hle
        go_wp2_with fail
        go_ret3
        rw [← HOut.out]
        exact ⟨[], 11, .slice none 0 0, .inl ⟨fun h => HLE.out (h.trans HF2.out.symm), rfl, rfl⟩, rfl, World.ownsRow_nil _ _ _ _, HB.out⟩
/-- What Missing hands back: the first numbers that are missing, 4096 at most. -/
def MGPost (w : World) (L : List (List Int)) (m : Nat) (e : Ending) (w' : World) : Prop := ∃ K v, K ≤ m ∧ (K = m ∨ (missOf L K).length = 4096) ∧ (missOf L K).length ≤ 4096 ∧ e = .returned (.tuple #[v, .int .u8 0]) ∧ w'.ownsRow w.heap.size 2 1 v (missOf L K).length (nums .i64 (missOf L K)) ∧ Below w.heap.size w w'
def MRelG (w : World) (L : List (List Int)) (bm F m : Nat) (D : DataW Value) (fs : List Int) (n' : Nat) (v8 v9 : Value) (wr : World) : Prop := ∃ k : Nat, v9 = .int .i64 k ∧ n' + k = m ∧ (missOf L k).length ≤ 4096 ∧ wr.ownsRow w.heap.size 2 1 v8 (missOf L k).length (nums .i64 (missOf L k)) ∧ wr.ownsMap Tryd.prog 2 heldR bm L.length D ∧ LabAt wr F fs ∧ Below w.heap.size w wr
set_option maxHeartbeats 8000000 in
set_option maxRecDepth 100000 in
theorem missing_any (A : Option Addr) (c m : Nat) (L : List (List Int)) (whole all : Int) (w : World) (hR : RowsB w A c L) (hF : Fit L (m : Int) whole all) (hm : m ≤ 100000000000) (h0 : L.length = 0 → m = 0) : Calls Tryd.prog 16 #[.slice A L.length c] w (MGPost w L m) := by
  have HSet := Aside0.mk (set_ok A c L m whole all w hR hF)
  have HF := Aside0.mk hF
  have H0 := Aside0.mk h0
  obtain ⟨n, hn⟩ : ∃ n, n = L.length := ⟨_, rfl⟩
  have HN := Aside0.mk hn
  rw [← hn] at HSet ⊢
  clear hR hF h0 hn
  go_enter Tryd.func16, Tryd.ntmps16
  go_wp2_with fail
  refine HSet.out.mono ?_
  clear HSet
  rintro e w1 ⟨bm, D, f0, f1, f2, f3, f4, f5, rfl, hf, hz, hM, hG, hb1⟩
  have e1 : f1 = (m : Int) := by
    by_cases hl : L.length = 0
    · rw [hz hl, H0.out hl]; rfl
    · exact (hf (by omega)).1
  subst e1
  have HB := Aside0.mk (hb1.alloc hb1.size (.cells #[.int .i64 f0, .int .i64 (m : Int), .int .i64 f2, .int .i64 f3, .int .i64 f4, .int .i64 f5] 54))
  have HM := Aside0.mk (map_below hM ((Below.refl w1.heap.size w1).alloc (Nat.le_refl _) (.cells #[.int .i64 f0, .int .i64 (m : Int), .int .i64 f2, .int .i64 f3, .int .i64 f4, .int .i64 f5] 54)))
  have HL := Aside0.mk (show LabAt (w1.alloc (.cells #[.int .i64 f0, .int .i64 (m : Int), .int .i64 f2, .int .i64 f3, .int .i64 f4, .int .i64 f5] 54)) w1.heap.size [f0, (m : Int), f2, f3, f4, f5] from heap_alloc_new w1 _)
  have HG := Aside0.mk hG
  have HFW := Aside0.mk hb1.size
  clear hb1 hf hz hM hG
  go_wp2_with fail
  generalize w1.alloc (.cells #[.int .i64 f0, .int .i64 (m : Int), .int .i64 f2, .int .i64 f3, .int .i64 f4, .int .i64 f5] 54) = wa at HB HM HL ⊢
  generalize w1.heap.size = F at HL HFW ⊢
  have HS := Aside0.mk (show MRelG w L bm F m D [f0, (m : Int), f2, f3, f4, f5] m (.slice none 0 0) (.int .i64 0) wa from ⟨0, rfl, rfl, Nat.zero_le _, World.ownsRow_nil _ _ _ _, HM.out, HL.out, HB.out⟩)
  clear HM HL HB
  go_loopg [8, 9] m (fun n' v8 v9 wr => MRelG w L bm F m D [f0, (m : Int), f2, f3, f4, f5] n' v8 v9 wr)
  case atStart => exact HS.out
  case round =>
    clear HS
    obtain ⟨k, rfl, hnk, hm4, hO, hM, hL, hB⟩ := hrel
    have HNK := Aside0.mk hnk
    have HO := Aside0.mk hO
    have HM := Aside0.mk hM
    have HL := Aside0.mk hL
    have HB := Aside0.mk hB
    have hc1 := lab_cell hL 1 (by simp)
    simp only [List.getElem_cons_succ, List.getElem_cons_zero] at hc1
    obtain ⟨A8, c8, hv8, _⟩ := JoinW.own_slice hO
    subst hv8
    clear hnk hO hM hL hB
    by_cases hlt2 : k < m ∧ (missOf L k).length < 4096
    · obtain ⟨hlt2, hml4⟩ := hlt2
      have hd1 : decide ((k : Int) < (m : Int)) = true := decide_eq_true (by omega)
      have hd1' : decide (k < m) = true := decide_eq_true hlt2
      have hd2 : decide (((missOf L k).length : Int) < 4096) = true := decide_eq_true (by omega)
      have hd2' : decide ((missOf L k).length < 4096) = true := decide_eq_true (by omega)
      have HKey := Aside0.mk (show keyOf Tryd.prog 2 (.int .i64 (k : Int)) = some (.int .i64 (k : Int)) from Go.Maps.keyOf_int_mk Tryd.underlying2 (WalkArith.wf_i64 (by omega)))
      have HS1 := Aside0.mk (missOf_succ L k)
      by_cases hin : (k : Int) ∈ L.map num
      · obtain ⟨x, hxm, hxn⟩ := List.mem_map.1 hin
        obtain ⟨y, hy, hyn, Ax, cx, hxc, hCx, hat⟩ := HG.out.some x hxm
        have hyx : x = y := (HF.out.one y hy x hxm hyn).symm
        subst hyx
        have h512 := fine_long x (HF.out.fine x hxm)
        obtain ⟨ad, hA, _⟩ := Kd.at_int hCx 0 (by omega) (by omega)
        subst hA
        have HAt := Aside0.mk (by have := hat (.held (.slice none 0 0)); rw [hxn] at this; exact this)
        have heq : ∀ W : World, (binOp .eql 22 (.slice (some ad) x.length cx) (.slice none 0 0)).run Tryd.prog W = .ok (.bool false) W := fun W => Lib.run_eql_slice_nil W 22 5 (some ad) x.length cx 0 0 Tryd.underlying22
        have HX := Aside0.mk (show missOf L (k + 1) = missOf L k by rw [HS1.out, if_pos hin, List.append_nil])
        clear hin hxm hxn hy hyn hat hCx h512 hxc
        go_wp2_with (at_lookup; refine wpList_look wr rfl (.tmp 31) (.tmp 32) 65 rfl 2 22 law Tryd.underlying65 (zeroE _) bm L.length D rfl HM.out _ (.int .i64 (k : Int)) rfl HKey.out (.slice (some ad) x.length cx) HAt.out ?_)
        have HO4 := Aside0.mk (show wr.ownsRow w.heap.size 2 1 (.slice A8 (missOf L k).length c8) (missOf L (k + 1)).length (nums .i64 (missOf L (k + 1))) by rw [HX.out]; exact HO.out)
        obtain ⟨gg, rfl⟩ : ∃ gg, gk = gg + 1 := ⟨gk - 1, by have := HNK.out; omega⟩
        go_roundg gg
        case measure => exact Nat.lt_succ_self _
        case rel => exact ⟨k + 1, by go_num, by have := HNK.out; omega, by rw [HX.out]; (try rw [List.length_append, List.length_singleton]); omega, HO4.out, HM.out, HL.out, HB.out⟩
      · have HAt := Aside0.mk (show D.atKey (.int .i64 (k : Int)) (.held (.slice none 0 0)) = .held (.slice none 0 0) from HG.out.none (k : Int) (fun z hz e => hin (List.mem_map.2 ⟨z, hz, e⟩)) _)
        have heq : ∀ W : World, (binOp .eql 22 (.slice none 0 0) (.slice none 0 0)).run Tryd.prog W = .ok (.bool true) W := fun W => Lib.run_eql_slice_nil W 22 5 none 0 0 0 0 Tryd.underlying22
        have HX := Aside0.mk (show missOf L (k + 1) = missOf L k ++ [(k : Int)] by rw [HS1.out, if_neg hin])
        clear hin
        go_wp2_with (first | (at_lookup; refine wpList_look wr rfl (.tmp 31) (.tmp 32) 65 rfl 2 22 law Tryd.underlying65 (zeroE _) bm L.length D rfl HM.out _ (.int .i64 (k : Int)) rfl HKey.out (.slice none 0 0) HAt.out ?_) | (at_builtin; refine wpList_app_one wr rfl (.tmp 35) (.tmp 37) 45 rfl w.heap.size 2 (.int .i64 0) 8 Tryd.underlying45 intInfo rfl (.slice A8 (missOf L k).length c8) (missOf L k).length (nums .i64 (missOf L k)) rfl HO.out (.int .i64 (k : Int)) rfl rfl (by omega) (by omega) HB.out.size ?_; intro v4 w4 hown4 hgrow4))
        have HO4 := Aside0.mk (show w4.ownsRow w.heap.size 2 1 v4 (missOf L (k + 1)).length (nums .i64 (missOf L (k + 1))) by rw [HX.out, List.length_append, nums_append]; exact hown4)
        have hba := (Below.refl wr.heap.size wr).alloc (Nat.le_refl _) (.cells #[.int .i64 (k : Int)] 2)
        have HO3 := own_stays HO.out (fun q hq => hba.block q (own_lt HO.out q hq))
        have HM3 := map_below HM.out hba
        have HL3 := lab_below HL.out hba
        have HB3 := HB.out.alloc HB.out.size (.cells #[.int .i64 (k : Int)] 2)
        have HM4 := Aside0.mk (map_other HM3 (hgrow4.block bm HM3.lt (fun e => by obtain ⟨cells, hc⟩ := own_typed HO3 bm e.symm; exact map_ne HM3 hc rfl)))
        have HL4 := Aside0.mk (lab_grown HL3 hgrow4 (fun e => own_ne2 HO3 HL3 e))
        have HB4 := Aside0.mk (HB3.grown hgrow4 (Nat.le_trans HB.out.size (by simp)) (own_base HO.out))
        clear hown4 hgrow4 hba HO3 HM3 HL3 HB3
        obtain ⟨gg, rfl⟩ : ∃ gg, gk = gg + 1 := ⟨gk - 1, by have := HNK.out; omega⟩
        go_roundg gg
        case measure => exact Nat.lt_succ_self _
        case rel => exact ⟨k + 1, by go_num, by have := HNK.out; omega, by rw [HX.out]; (try rw [List.length_append, List.length_singleton]); omega, HO4.out, HM4.out, HL4.out, HB4.out⟩
    · have hkm : k ≤ m := by have := HNK.out; omega
      by_cases hk : k < m
      · have h4 : (missOf L k).length = 4096 := by omega
        have HK := Aside0.mk hkm
        have H4 := Aside0.mk h4
        have HM4 := Aside0.mk hm4
        have hd1 : decide ((k : Int) < (m : Int)) = true := decide_eq_true (by omega)
        have hd1' : decide (k < m) = true := decide_eq_true hk
        have hd2 : decide (((missOf L k).length : Int) < 4096) = false := decide_eq_false (by omega)
        have hd2' : decide ((missOf L k).length < 4096) = false := decide_eq_false (by omega)
        clear hlt2 hkm h4 hm4
        go_wp2_with fail
        go_ret2
        exact ⟨k, .slice A8 (missOf L k).length c8, HK.out, .inr H4.out, HM4.out, rfl, HO.out, HB.out⟩
      · obtain ⟨rfl, rfl⟩ : gk = 0 ∧ k = m := by have := HNK.out; omega
        have HM4 := Aside0.mk hm4
        have hd1 : decide ((k : Int) < (k : Int)) = false := decide_eq_false (by omega)
        have hd1' : decide (k < k) = false := decide_eq_false (by omega)
        clear hlt2 hkm hm4
        go_wp2_with fail
        go_ret2
        exact ⟨k, .slice A8 (missOf L k).length c8, Nat.le_refl _, .inl rfl, HM4.out, rfl, HO.out, HB.out⟩
/-- What volume.Join hands back. -/
def PJPost (w : World) (L : List (List Int)) (e : Ending) (w' : World) : Prop := ∃ xs at_ code v, JIs L xs at_ code ∧ e = .returned (.tuple #[v, .int .i64 (at_ : Nat), .int .u8 code]) ∧ Own w.heap.size w' v xs ∧ Below w.heap.size w w'
theorem fit_all {L : List (List Int)} (hfew : L.length ≤ 100) (hbt : ∀ x ∈ L, ∀ z ∈ x, 0 ≤ z ∧ z ≤ 255) (hsz : ∀ x ∈ L, x.length ≤ 100000) (h : SetIs L none) : Fit L (labN L 0 1) (labN L 0 2) (labN L 0 4) := by
  have := fit_take hfew hbt hsz h.1 h.2 (Nat.le_refl _)
  rwa [List.take_of_length_le (Nat.le_refl _)] at this
/-- A number is missing: there are fewer than their label says. -/
theorem dd_miss {L : List (List Int)} (h : SetIs L none) (m : Nat) (hm : labN L 0 1 = (m : Int)) {k : Nat} (hk : k < m) (hno : ∀ j, j < L.length → labN L j 0 ≠ (k : Int)) : (dd (L.map num)).length < m := by
  have h2 := nodup_sub ((k : Int) :: dd (L.map num)) ((List.range m).map (fun (j : Nat) => (j : Int))) (by
    rw [List.nodup_cons]
    refine ⟨fun hin => ?_, dd_nodup _⟩
    obtain ⟨x, hx, e⟩ := List.mem_map.1 ((dd_mem _ _).1 hin)
    obtain ⟨j, hj, rfl⟩ := mem_getD hx
    exact hno j hj e) (by
    intro x hx
    rcases List.mem_cons.1 hx with rfl | hx
    · exact List.mem_map.2 ⟨k, List.mem_range.2 hk, rfl⟩
    · obtain ⟨y, hy, rfl⟩ := List.mem_map.1 ((dd_mem _ _).1 hx)
      obtain ⟨j, hj, rfl⟩ := mem_getD hy
      have hb := lab_bds (h.1 j hj)
      have h1 : labN L j 1 = labN L 0 1 := Classical.byContradiction fun hne => h.2 j hj (.inl hne)
      rw [h1, hm] at hb
      rw [num_at]
      obtain ⟨a, ha⟩ := Int.eq_ofNat_of_zero_le hb.1
      rw [ha] at hb ⊢
      exact List.mem_map.2 ⟨a, List.mem_range.2 (by omega), rfl⟩)
  rw [List.length_cons, List.length_map, List.length_range] at h2
  omega
theorem dd_full {L : List (List Int)} (m : Nat) (h : ∀ k : Nat, k < m → ∃ j, j < L.length ∧ labN L j 0 = (k : Int)) : m ≤ (dd (L.map num)).length := by
  have h2 := nodup_sub ((List.range m).map (fun (j : Nat) => (j : Int))) (dd (L.map num)) (by
    rw [List.Nodup, List.pairwise_map]
    exact List.nodup_range.imp (fun hne e => hne (Int.natCast_inj.1 e))) (by
    intro x hx
    obtain ⟨k, hk, rfl⟩ := List.mem_map.1 hx
    obtain ⟨j, hj, e⟩ := h k (List.mem_range.1 hk)
    exact (dd_mem _ _).2 (List.mem_map.2 ⟨L.getD j [], getD_mem hj, e⟩))
  rwa [List.length_map, List.length_range] at h2
theorem pjoin_calls (A : Option Addr) (c : Nat) (L : List (List Int)) (w : World) (hR : RowsB w A c L) (hlen : L.length ≤ 12) (hbt : ∀ x ∈ L, ∀ z ∈ x, 0 ≤ z ∧ z ≤ 255) (hsz : ∀ x ∈ L, x.length ≤ 20000) (r : Option (Nat × Int)) (hr : SetIs L r) : Calls Tryd.prog 13 #[.slice A L.length c] w (PJPost w L) := by
  have hsz2 : ∀ x ∈ L, x.length ≤ 100000 := fun x hx => by have := hsz x hx; omega
  match r, hr with
  | some (i, code), hr =>
    refine (join_bad A c L i code w hR (by omega) hbt hsz2 hr).mono ?_
    rintro e w' ⟨rfl, hb⟩
    exact ⟨[], i, code, _, .inl ⟨hr, rfl⟩, rfl, World.ownsRow_nil _ _ _ _, hb⟩
  | none, hr =>
    have hF := fit_all (by omega) hbt hsz2 hr
    by_cases h0 : L.length = 0
    · refine (join_none A c L _ _ _ w hR hF (.inl h0)).mono ?_
      rintro e w' ⟨v, rfl, ho, hb⟩
      exact ⟨[], 0, 16, v, .inr ⟨hr, rfl, .inl ⟨rfl, rfl, .inl h0⟩⟩, rfl, ho, hb⟩
    have hbds := lab_bds (hr.1 0 (by omega))
    obtain ⟨m, hm⟩ : ∃ m : Nat, labN L 0 1 = (m : Int) := Int.eq_ofNat_of_zero_le (by omega)
    by_cases hmiss : ∃ k : Nat, (k : Int) < labN L 0 1 ∧ ∀ j, j < L.length → labN L j 0 ≠ (k : Int)
    · obtain ⟨k, hk, hno⟩ := hmiss
      have hd := dd_miss hr m hm (k := k) (by rw [hm] at hk; omega) hno
      refine (join_none A c L _ _ _ w hR hF (.inr (by rw [hm]; omega))).mono ?_
      rintro e w' ⟨v, rfl, ho, hb⟩
      exact ⟨[], 0, 16, v, .inr ⟨hr, rfl, .inl ⟨rfl, rfl, .inr ⟨k, hk, hno⟩⟩⟩, rfl, ho, hb⟩
    · have hfull : ∀ k : Nat, k < m → ∃ j, j < L.length ∧ labN L j 0 = (k : Int) := fun k hk => Classical.byContradiction fun h => hmiss ⟨k, by rw [hm]; omega, fun j hj e => h ⟨j, hj, e⟩⟩
      have hml := all_few hfull
      rw [hm] at hF
      refine (join_all A c m L _ _ w hR hF (by omega) (by omega) (fun k hk => by obtain ⟨j, hj, e⟩ := hfull k hk; exact ⟨_, getD_mem hj, e⟩) (dd_full m hfull) (fun k hk => by have := out_small hsz k (fun j hj => hfull j (by omega)); omega)).mono ?_
      rintro e w' ⟨xs, code, v, hw, rfl, ho, hb⟩
      refine ⟨xs, 0, code, v, .inr ⟨hr, rfl, .inr ⟨by omega, fun k hk => hfull k (by rw [hm] at hk; omega), ?_⟩⟩, rfl, ho, hb⟩
      rw [hm, Int.toNat_natCast]
      exact hw
end Go.Proofs.YtkcgioggnbnfkaaDoor.JoinB
