/- The law HeadMakes: its walk. -/
import Derived.Test.YtoabboeongbloaaDoorZRefX0
import Derived.Test.YtoabboeongbloaaDoorZRefXL
import Derived.Test.YtoabboeongbloaaDoorZRawO
import Derived.Test.YtoabboeongbloaaDoorZPutP
import Derived.Test.YtoabboeongbloaaDoorZPutN
import Derived.Test.YtoabboeongbloaaDoorZRefG
set_option linter.unusedVariables false
set_option linter.unusedSimpArgs false
namespace Go.Proofs.YtoabboeongbloaaDoor.RefM
open Go.RowKit Go.Proofs.YtoabboeongbloaaDoorW.PrintWords Go.Proofs.YtoabboeongbloaaDoorW.PrintLast Go.Proofs.YtoabboeongbloaaDoorW.PrintMore Go.Proofs.YtoabboeongbloaaDoorW.Mv Go.Proofs.YtoabboeongbloaaDoorW.HKit Go.Proofs.YtoabboeongbloaaDoorW.But Go.Proofs.YtoabboeongbloaaDoor.HeadA Go.Proofs.YtoabboeongbloaaDoor.PHeadGets Go.Proofs.YtoabboeongbloaaDoor.PM Go.Proofs.YtoabboeongbloaaDoor.SumP Go.Proofs.YtoabboeongbloaaDoor.Sums Go.Proofs.YtoabboeongbloaaDoor.Maker Go.Proofs.YtoabboeongbloaaDoor.GetW Go.Proofs.YtoabboeongbloaaDoor.RefG Go.Proofs.YtoabboeongbloaaDoor.Fmt
theorem rmake_calls (r : Raw) (wide dev : Bool) (w : World) (hfl : 0 ≤ r.flag ∧ r.flag ≤ 255) (hsz : r.name.size ≤ 100000 ∧ r.link.size ≤ 100000 ∧ r.user.size ≤ 100000 ∧ r.group.size ≤ 100000 ∧ r.pre.size ≤ 100000)
    (hnb : ∀ n, n = r.mode ∨ n = r.uid ∨ n = r.gid ∨ n = r.size ∨ n = r.time ∨ n = r.major ∨ n = r.minor → -9223372036854775808 ≤ n ∧ n ≤ 9223372036854775807) :
    Calls Tryd.prog 9 #[.agg (refC r), .bool wide, .bool dev] w fun e w' => ∃ v, e = .returned (.tuple #[v, .int .i64 (makeOf r wide dev).2]) ∧ Kd.R (Kd.int .u8) 5 w' w.heap.size (fun _ => True) v (makeOf r wide dev).1 ∧ Below w.heap.size w w' := by
  rw [← rmake_is]
  unfold rmakeOf
  dsimp only
  by_cases h : r.mark < 0 ∨ 2 < r.mark
  · rw [if_pos h]
    refine (rmake_arg r wide dev w h).mono ?_
    rintro e w' ⟨rfl, hb⟩
    exact ⟨_, rfl, Kd.R_nil _ _ _ _ _, hb⟩
  · rw [if_neg h]
    by_cases hk : knownB r.flag = false
    · rw [if_pos hk]
      refine (rmake_flag r wide dev w h hk).mono ?_
      rintro e w' ⟨rfl, hb⟩
      exact ⟨_, rfl, Kd.R_nil _ _ _ _ _, hb⟩
    · rw [if_neg hk]
      have hk' : knownB r.flag = true := by simpa using hk
      have go : ∀ F : List Int × Int, F = foldR r wide dev (headR r, 0) 12 → Calls Tryd.prog 9 #[.agg (refC r), .bool wide, .bool dev] w fun e w' => ∃ v, e = .returned (.tuple #[v, .int .i64 F.2]) ∧ (F.2 ≠ 0 → v = .slice none 0 0) ∧ (F.2 = 0 → Kd.R (Kd.int .u8) 5 w' w.heap.size (fun _ => True) v (sealOf F.1)) ∧ Below w.heap.size w w' := by
        intro F hF
        rcases (by omega : r.mark = 0 ∨ r.mark = 1 ∨ r.mark = 2) with hm | hm | hm
        · exact rmake_0 r wide dev w hm hk' hfl hsz hnb F hF
        · exact rmake_late r wide dev w (.inl hm) hk' hfl hsz hnb F hF
        · exact rmake_late r wide dev w (.inr hm) hk' hfl hsz hnb F hF
      have g := go _ rfl
      generalize foldR r wide dev (headR r, 0) 12 = F at g ⊢
      refine g.mono ?_
      rintro e w' ⟨v, rfl, hne, he, hb⟩
      by_cases h0 : F.2 = 0
      · rw [if_pos h0]
        exact ⟨v, by rw [h0], he h0, hb⟩
      · rw [if_neg h0]
        rw [hne h0]
        exact ⟨_, rfl, Kd.R_nil _ _ _ _ _, hb⟩
theorem make_code (r : Raw) (wide dev : Bool) : 0 ≤ (makeOf r wide dev).2 ∧ (makeOf r wide dev).2 ≤ 255 := by
  have hp : ∀ (t : ByteArray) (s : Int), 0 ≤ (Txt.putOf t s).2 ∧ (Txt.putOf t s).2 ≤ 255 := by
    intro t s
    unfold Txt.putOf
    repeat' split
    all_goals simp
  have ht : ∀ (st : List Int × Int) (f s : Nat) (t : ByteArray), (0 ≤ st.2 ∧ st.2 ≤ 255) → 0 ≤ (mText st f s t).2 ∧ (mText st f s t).2 ≤ 255 := by
    intro st f s t h
    unfold mText
    repeat' split
    · simp
    · exact hp t s
    · exact h
  have hn : ∀ (st : List Int × Int) (f s : Nat) (a b : Int) (w : Bool), (0 ≤ st.2 ∧ st.2 ≤ 255) → 0 ≤ (mNum st f s a b w).2 ∧ (mNum st f s a b w).2 ≤ 255 := by
    intro st f s a b w h
    unfold mNum
    repeat' split
    · simp
    · simp
    · show 0 ≤ (NumP.putOf b s w).2 ∧ (NumP.putOf b s w).2 ≤ 255
      rcases PutN.put_code b s w with e | e <;> rw [e] <;> decide
    · exact h
  have hf : ∀ j, 0 ≤ (foldR r wide dev (headR r, 0) j).2 ∧ (foldR r wide dev (headR r, 0) j).2 ≤ 255 := by
    intro j
    induction j with
    | zero => exact ⟨Int.le_refl _, by show (0 : Int) ≤ 255; decide⟩
    | succ j ih =>
      show 0 ≤ (stepR r wide dev (foldR r wide dev (headR r, 0) j) j).2 ∧ (stepR r wide dev (foldR r wide dev (headR r, 0) j) j).2 ≤ 255
      generalize foldR r wide dev (headR r, 0) j = st at ih ⊢
      unfold stepR
      split <;> first | exact ht _ _ _ _ ih | exact hn _ _ _ _ _ _ ih | (split <;> first | exact ih | exact ht _ _ _ _ ih | exact hn _ _ _ _ _ _ ih)
  rw [← rmake_is]
  unfold rmakeOf
  dsimp only
  split
  · exact ⟨by show (0 : Int) ≤ 2; decide, by show (2 : Int) ≤ 255; decide⟩
  · split
    · exact ⟨by show (0 : Int) ≤ 9; decide, by show (9 : Int) ≤ 255; decide⟩
    · split
      · exact ⟨Int.le_refl _, by show (0 : Int) ≤ 255; decide⟩
      · exact hf 12
theorem same_refl (l : List Int) : oakumref01_Same.f l l = some true := by unfold oakumref01_Same.f; simp
set_option maxHeartbeats 4000000 in
set_option maxRecDepth 100000 in
theorem headMakes_calls (w : World) (hT : Tab8 w) (r : Raw) (hr : RawIn r) (wide dev : Bool) :
    Calls Tryd.prog 3 #[.agg (rawC r), .bool wide, .bool dev] w fun e w' => e = .returned (.bool true) ∧ Below w.heap.size w w' := by
  obtain ⟨hfl, hmkb, hnb, hz0, hz1, hz2, hz3, hz4⟩ := hr
  have hb0 := (Below.refl w.heap.size w).alloc (Nat.le_refl _) (.cells (rawC r) 23)
  have hraw : (w.alloc (.cells (rawC r) 23)).heap[w.heap.size]? = some (.cells (rawC r) 23 (0, 0)) := heap_alloc_new w _
  have hal := alive_calls (w.alloc (.cells (rawC r) 23)) (tab8_below hT hb0)
  have HB0 := Lib.hid hb0
  have HRAW := Lib.hid hraw
  obtain ⟨wa, hwa⟩ : ∃ wa, wa = w.alloc (.cells (rawC r) 23) := ⟨_, rfl⟩
  rw [← hwa] at HB0 HRAW hal
  have HAL := Lib.hid hal
  have HT := Lib.hid hT
  have HFL := Lib.hid hfl
  have HNB := Lib.hid hnb
  have s1 : wrap64 ((r.name.size : Int) + r.link.size) = r.name.size + r.link.size := by unfold wrap64; omega
  have s2 : wrap64 ((r.name.size : Int) + r.link.size + r.pre.size) = r.name.size + r.link.size + r.pre.size := by unfold wrap64; omega
  have s3 : wrap64 ((r.name.size : Int) + r.link.size + r.pre.size + r.user.size) = r.name.size + r.link.size + r.pre.size + r.user.size := by unfold wrap64; omega
  have s4 : wrap64 ((r.name.size : Int) + r.link.size + r.pre.size + r.user.size + r.group.size) = r.name.size + r.link.size + r.pre.size + r.user.size + r.group.size := by unfold wrap64; omega
  clear hb0 hraw hal hT hfl hnb hmkb hz0 hz1 hz2 hz3 hz4
  have ent : True := trivial
  by_cases h3 : (3000 : Int) < (r.name.size : Int) + r.link.size + r.pre.size + r.user.size + r.group.size
  · have d1 : decide ((3000 : Int) < (r.name.size : Int) + r.link.size + r.pre.size + r.user.size + r.group.size) = true := decide_eq_true h3
    clear h3
    go_enter Tryd.func3, Tryd.ntmps3
    go_upto_region 1 with (fail)
    rw [← hwa]
    clear hwa
    go_wp2_with fail
    (with_reducible refine HAL.out.mono ?_)
    rintro e w1 ⟨rfl, hb1⟩
    have HB1 := Lib.hid (HB0.out.trans (hb1.mono HB0.out.size))
    obtain ⟨r0, r1, r2, r3, r4, r5, r6, r7, r8, r9, r10, r11, r12, r13⟩ := raw_cells ((But.of_below (fun _ => False) hb1).heap HRAW.out (fun h => h))
    clear hb1 HAL HB0 HRAW
    go_wp2_with fail
    go_ret
    exact ⟨rfl, HB1.out⟩
  · have d1 : decide ((3000 : Int) < (r.name.size : Int) + r.link.size + r.pre.size + r.user.size + r.group.size) = false := decide_eq_false h3
    have hmake := fun (W : World) (hW : Below w.heap.size w W) => make_calls r wide dev W (tab8_below HT.out hW) HFL.out (by omega) (by omega) (by omega) (by omega) (by omega)
    have hof := fun W => ofs_calls r W
    have hrmake := fun W => rmake_calls r wide dev W HFL.out ⟨by omega, by omega, by omega, by omega, by omega⟩ HNB.out
    have hcd := make_code r wide dev
    generalize makeOf r wide dev = mo at hmake hrmake hcd
    obtain ⟨ml, mc⟩ := mo
    dsimp only at hmake hrmake hcd
    have hw1 : wrap64 mc = mc := by unfold wrap64; omega
    unfold rawC at hmake hof
    have HMAKE := Lib.hid hmake
    have HOF := Lib.hid hof
    have HRMAKE := Lib.hid hrmake
    clear h3 hmake hof hrmake hcd
    go_enter Tryd.func3, Tryd.ntmps3
    go_upto_region 1 with (fail)
    rw [← hwa]
    clear hwa
    go_wp2_with fail
    (with_reducible refine HAL.out.mono ?_)
    rintro e w1 ⟨rfl, hb1⟩
    have HB1 := Lib.hid (HB0.out.trans (hb1.mono HB0.out.size))
    have HRAW1 := Lib.hid ((But.of_below (fun _ => False) hb1).heap HRAW.out (fun h => h))
    obtain ⟨r0, r1, r2, r3, r4, r5, r6, r7, r8, r9, r10, r11, r12, r13⟩ := raw_cells HRAW1.out
    clear hb1 HAL HB0 HRAW
    go_wp2_with fail
    (with_reducible refine (HMAKE.out _ HB1.out).mono ?_)
    rintro e w2 ⟨v2, rfl, ho2, hb2⟩
    obtain ⟨A2, c2, rfl, hc2, hC2, _⟩ := own_C ho2 rfl
    have HB2 := Lib.hid (HB1.out.trans (hb2.mono HB1.out.size))
    have HRAW2 := Lib.hid ((But.of_below (fun _ => False) hb2).heap HRAW1.out (fun h => h))
    have HC2 := Lib.hid hC2
    clear r0 r1 r2 r3 r4 r5 r6 r7 r8 r9 r10 r11 r12 r13 hb2 ho2 hC2 HB1 HRAW1 HMAKE
    obtain ⟨r0, r1, r2, r3, r4, r5, r6, r7, r8, r9, r10, r11, r12, r13⟩ := raw_cells HRAW2.out
    go_wp2_with fail
    (with_reducible refine (HOF.out _).mono ?_)
    rintro e w3 ⟨rfl, hb3⟩
    have HB3 := Lib.hid (HB2.out.trans (hb3.mono HB2.out.size))
    have HC3 := Lib.hid (Kd.C_below HC2.out hb3)
    clear r0 r1 r2 r3 r4 r5 r6 r7 r8 r9 r10 r11 r12 r13 hb3 HB2 HRAW2 HC2 HOF
    go_wp2_with fail
    (with_reducible refine (HRMAKE.out _).mono ?_)
    rintro e w4 ⟨v4, rfl, hR4, hb4⟩
    obtain ⟨A4, c4, rfl, hc4, hC4⟩ := Kd.R_reads hR4
    have HB4 := Lib.hid (HB3.out.trans (hb4.mono HB3.out.size))
    have hsm := oakumref01_Same.calls A2 c2 ml A4 c4 ml true w4 (Kd.C_below HC3.out hb4) hc2 hC4 hc4 (same_refl ml)
    have HSM := Lib.hid hsm
    clear hb4 HB3 HC3 hR4 hC4 hsm HRMAKE
    go_wp2_with fail
    (with_reducible refine HSM.out.mono ?_)
    rintro e w5 ⟨rfl, hd5⟩
    have HB5 := Lib.hid (HB4.out.trans (hd5.below.mono HB4.out.size))
    clear hd5 HSM HB4
    go_wp2_with fail
    go_ret
    exact ⟨rfl, HB5.out⟩
end Go.Proofs.YtoabboeongbloaaDoor.RefM
