/- The document's Make of a header: its walk. -/
import Derived.Test.YtoabboeongbloaaDoorZRefY
import Derived.Test.YtoabboeongbloaaDoorZPutP
import Derived.Test.YtoabboeongbloaaDoorZPutN
import Derived.Test.YtoabboeongbloaaDoorZRefG
set_option linter.unusedVariables false
set_option linter.unusedSimpArgs false
namespace Go.Proofs.YtoabboeongbloaaDoor.RefM
open Go.RowKit Go.Proofs.YtoabboeongbloaaDoorW.PrintWords Go.Proofs.YtoabboeongbloaaDoorW.PrintLast Go.Proofs.YtoabboeongbloaaDoorW.PrintMore Go.Proofs.YtoabboeongbloaaDoorW.Mv Go.Proofs.YtoabboeongbloaaDoorW.HKit Go.Proofs.YtoabboeongbloaaDoorW.But Go.Proofs.YtoabboeongbloaaDoor.HeadA Go.Proofs.YtoabboeongbloaaDoor.PHeadGets Go.Proofs.YtoabboeongbloaaDoor.PM Go.Proofs.YtoabboeongbloaaDoor.SumP Go.Proofs.YtoabboeongbloaaDoor.Sums Go.Proofs.YtoabboeongbloaaDoor.Maker Go.Proofs.YtoabboeongbloaaDoor.GetW Go.Proofs.YtoabboeongbloaaDoor.RefG Go.Proofs.YtoabboeongbloaaDoor.Fmt
set_option maxHeartbeats 8000000 in
set_option maxRecDepth 100000 in
theorem rmake_late (r : Raw) (wide dev : Bool) (w : World) (h : r.mark = 1 ∨ r.mark = 2) (hk : knownB r.flag = true) (hfl : 0 ≤ r.flag ∧ r.flag ≤ 255) (hsz : r.name.size ≤ 100000 ∧ r.link.size ≤ 100000 ∧ r.user.size ≤ 100000 ∧ r.group.size ≤ 100000 ∧ r.pre.size ≤ 100000)
    (hnb : ∀ n, n = r.mode ∨ n = r.uid ∨ n = r.gid ∨ n = r.size ∨ n = r.time ∨ n = r.major ∨ n = r.minor → -9223372036854775808 ≤ n ∧ n ≤ 9223372036854775807) (F : List Int × Int) (hF : F = foldR r wide dev (headR r, 0) 12) :
    Calls Tryd.prog 9 #[.agg (refC r), .bool wide, .bool dev] w fun e w' => ∃ v, e = .returned (.tuple #[v, .int .i64 F.2]) ∧ (F.2 ≠ 0 → v = .slice none 0 0) ∧ (F.2 = 0 → Kd.R (Kd.int .u8) 5 w' w.heap.size (fun _ => True) v (sealOf F.1)) ∧ Below w.heap.size w w' := by
  have hb0 := (Below.refl w.heap.size w).alloc (Nat.le_refl _) (.cells (refC r) 34)
  have hraw : (w.alloc (.cells (refC r) 34)).heap[w.heap.size]? = some (.cells (refC r) 34 (0, 0)) := heap_alloc_new w _
  obtain ⟨r0, r1, r2, r3, r4, r5, r6, r7, r8, r9, r10, r11, r12, r13⟩ := ref_cells hraw
  have HB0 := Lib.hid hb0
  have HRAW := Lib.hid hraw
  clear hb0 hraw r2 r3 r4 r5 r6 r7 r8 r9 r10 r11 r12 r13
  obtain ⟨wa, hwa⟩ : ∃ wa, wa = w.alloc (.cells (refC r) 34) := ⟨_, rfl⟩
  rw [← hwa] at HB0 HRAW r0 r1
  have d1 : decide (r.mark < 0) = false := decide_eq_false (by omega)
  have d2 : decide (2 < r.mark) = false := decide_eq_false (by omega)
  have hkn := oakumref06_Known.calls r.flag _ wa (rknown_f r.flag)
  rw [hk] at hkn
  have HK := Lib.hid hkn
  have hmk : ∀ W : World, (Instr.makeSlice 25 (.int .i64 512) (.int .i64 512)).run Tryd.prog W = .ok (.slice (some ⟨W.heap.size, 0, none⟩) 512 512) (W.alloc (.cells (madeCells #[.int .u8 0] 512) 5)) := print_make (P := Tryd.prog) 25 5 .u8 1 Tryd.underlying25 HeadA.info5 (by decide) 512 (by omega)
  have HFQ := Lib.hid hF
  have hHB := head_bytes r hfl
  have HHB := Lib.hid hHB
  have HSZ := Lib.hid hsz
  have HNB := Lib.hid hnb
  have HM0 := Lib.hid (show ¬ r.mark = 0 by omega)
  have dm0 : (r.mark == 0) = false := beq_eq_false_iff_ne.2 HM0.out
  have HWA := Lib.hid (show wa.heap.size = w.heap.size + 1 by rw [hwa]; simp)
  clear h hk hkn hF hsz hnb hHB hfl
  go_enter Tryd.func9, Tryd.ntmps9
  go_upto_region 1 with (fail)
  rw [← hwa]
  clear hwa
  go_wp2_with fail
  (with_reducible refine HK.out.mono ?_)
  rintro e w1 ⟨rfl, hd⟩
  have HB1 := Lib.hid (HB0.out.trans (hd.below.mono HB0.out.size))
  have HRAW1 := Lib.hid ((But.of_below (fun _ => False) hd.below).heap HRAW.out (fun h => h))
  have HS1 := Lib.hid (show w.heap.size < w1.heap.size by have := HWA.out; have := hd.below.size; omega)
  clear hd HK HB0 HRAW HWA r0 r1 d1 d2
  go_upto_region 6 with (fail)
  obtain ⟨W2, hW2⟩ : ∃ W2, W2 = w1.alloc (.cells (madeCells #[.int .u8 0] 512) 5) := ⟨_, rfl⟩
  rw [← hW2]
  have HST : Hid (MSt w W2 w.heap.size w1.heap.size r (List.replicate 512 0)) := Lib.hid (by
    have hb := (Below.refl w1.heap.size w1).alloc (Nat.le_refl _) (.cells (madeCells #[.int .u8 0] 512) 5)
    rw [hW2]
    refine ⟨HB1.out.alloc HB1.out.size _, (But.of_below (fun _ => False) hb).heap HRAW1.out (fun h => h), ?_, List.length_replicate, Nat.le_refl _, HS1.out⟩
    rw [made_zero]
    exact heap_alloc_new w1 _)
  clear hW2 HB1 HRAW1 HS1 hmk
  generalize w1.heap.size = B at *
  generalize w.heap.size = R at *
  obtain ⟨z, hz⟩ : ∃ z : List Int, z = List.replicate 512 0 := ⟨_, rfl⟩
  have HHD := Lib.hid (show headR r = if r.mark = 2 then splice (if r.mark = 1 then splice (z.set 156 r.flag) 257 ustarP else z.set 156 r.flag) 257 ustarG else (if r.mark = 1 then splice (z.set 156 r.flag) 257 ustarP else z.set 156 r.flag) by
    rw [hz]; unfold headR
    by_cases h1 : r.mark = 1
    · rw [if_pos h1, if_neg (by omega), if_pos h1]
    · rw [if_neg h1]
      by_cases h2 : r.mark = 2
      · rw [if_pos h2, if_pos h2, if_neg h1]
      · rw [if_neg h2, if_neg h2, if_neg h1])
  rw [← hz] at HST
  clear hz
  obtain ⟨r0, r1, r2, r3, r4, r5, r6, r7, r8, r9, r10, r11, r12, r13⟩ := ref_cells HST.out.2.1
  have hcB := HST.out.at_ 156 (by decide)
  have hfz : W2.frozen? ⟨B, 156, none⟩ = false := maker_free HST.out.2.2.1 156
  go_upto_region 7 with (fail)
  have HST3 := Lib.hid (HST.out.cell 156 r.flag)
  obtain ⟨W3, hW3⟩ : ∃ W3, W3 = W2.setCell ⟨B, 156, none⟩ (.int .u8 r.flag) := ⟨_, rfl⟩
  rw [← hW3] at HST3 ⊢
  clear hW3 HST hcB hfz r0 r1 r2 r3 r4 r5 r6 r7 r8 r9 r10 r11 r12 r13
  have HST := Lib.hid HST3.out
  clear HST3
  generalize z.set 156 r.flag = zf at *
  obtain ⟨r0, r1, r2, r3, r4, r5, r6, r7, r8, r9, r10, r11, r12, r13⟩ := ref_cells HST.out.2.1
  go_upto_if 38 with (fail)
  clear r0 r1 r2 r3 r4 r5 r6 r7 r8 r9 r10 r11 r12 r13
  go_cut [] from 39 to 41 (fun wx => MSt w wx R B r (if r.mark = 1 then splice zf 257 ustarP else zf))
  case first =>
    by_cases hm : r.mark = 1
    · have dm : (r.mark == 1) = true := beq_iff_eq.2 hm
      have hcp := run_copy_str_at (P := Tryd.prog) W3 25 9 3 5 B 257 255 255 ⟨#[117, 115, 116, 97, 114, 0, 48, 48]⟩ (nums .u8 zf) Tryd.underlying25 (by kernel_rfl) HST.out.2.2.1 (by decide) (by have h3 := HST.out.2.2.2.1; simp [nums, h3]; decide)
      rw [byteCells_nums, splice_nums] at hcp
      have hcut := cut257 B
      have HST4 := Lib.hid (HST.out.row (splice zf 257 ustarP) (by rw [splice_len _ _ _ (by have h3 := HST.out.2.2.2.1; rw [h3]; decide)]; exact HST.out.2.2.2.1))
      have hbu : bytesOf ⟨#[117, 115, 116, 97, 114, 0, 48, 48]⟩ = ustarP := rfl
      rw [hbu] at hcp
      have HM := Lib.hid hm
      clear hm hbu
      obtain ⟨W4, hW4⟩ : ∃ W4, W4 = W3.setRow B (nums .u8 (splice zf 257 ustarP)).toArray := ⟨_, rfl⟩
      rw [← hW4] at hcp HST4
      clear hW4
      go_wp2_with fail
      go_meet
      rw [if_pos HM.out]
      exact HST4.out
    · have dm : (r.mark == 1) = false := beq_eq_false_iff_ne.2 hm
      have HM := Lib.hid hm
      clear hm
      go_wp2_with fail
      go_meet
      rw [if_neg HM.out]
      exact HST.out
  case rest =>
    clear HST
    have HST := Lib.hid hcut
    clear hcut
    generalize (if r.mark = 1 then splice zf 257 ustarP else zf) = zg at *
    obtain ⟨r0, r1, r2, r3, r4, r5, r6, r7, r8, r9, r10, r11, r12, r13⟩ := ref_cells HST.out.2.1
    go_upto_if 44 with (fail)
    clear r0 r1 r2 r3 r4 r5 r6 r7 r8 r9 r10 r11 r12 r13
    obtain ⟨WQ, hWQ⟩ : ∃ WQ, WQ = wc := ⟨_, rfl⟩
    rw [← hWQ] at HST ⊢
    clear hWQ
    go_cut [] from 45 to 47 (fun wx => MSt w wx R B r (if r.mark = 2 then splice zg 257 ustarG else zg))
    case first =>
      by_cases hm : r.mark = 2
      · have dm : (r.mark == 2) = true := beq_iff_eq.2 hm
        have hcp := run_copy_str_at (P := Tryd.prog) WQ 25 9 3 5 B 257 255 255 ⟨#[117, 115, 116, 97, 114, 32, 32, 0]⟩ (nums .u8 zg) Tryd.underlying25 (by kernel_rfl) HST.out.2.2.1 (by decide) (by have h3 := HST.out.2.2.2.1; simp [nums, h3]; decide)
        rw [byteCells_nums, splice_nums] at hcp
        have hcut := cut257 B
        have HST4 := Lib.hid (HST.out.row (splice zg 257 ustarG) (by rw [splice_len _ _ _ (by have h3 := HST.out.2.2.2.1; rw [h3]; decide)]; exact HST.out.2.2.2.1))
        have hbu : bytesOf ⟨#[117, 115, 116, 97, 114, 32, 32, 0]⟩ = ustarG := rfl
        rw [hbu] at hcp
        have HM := Lib.hid hm
        clear hm hbu
        obtain ⟨W4, hW4⟩ : ∃ W4, W4 = WQ.setRow B (nums .u8 (splice zg 257 ustarG)).toArray := ⟨_, rfl⟩
        rw [← hW4] at hcp HST4
        clear hW4
        go_wp2_with fail
        go_meet
        rw [if_pos HM.out]
        exact HST4.out
      · have dm : (r.mark == 2) = false := beq_eq_false_iff_ne.2 hm
        have HM := Lib.hid hm
        clear hm
        go_wp2_with fail
        go_meet
        rw [if_neg HM.out]
        exact HST.out
    case rest =>
      rw [← HHD.out] at hcut
      clear HST
      have HST := Lib.hid hcut
      clear hcut
      obtain ⟨W4, hW4⟩ : ∃ W4, W4 = wc := ⟨_, rfl⟩
      rw [← hW4] at HST ⊢
      clear hW4
      obtain ⟨r0, r1, r2, r3, r4, r5, r6, r7, r8, r9, r10, r11, r12, r13⟩ := ref_cells HST.out.2.1
      go_upto_region 12 with (fail)
      obtain ⟨W5, hW5⟩ : ∃ W5, W5 = W4.alloc (.cells #[.int .i64 100, .int .i64 0, .int .i64 1, .int .i64 2, .int .i64 3, .int .i64 4, .int .i64 101, .int .i64 102, .int .i64 103, .int .i64 5, .int .i64 6, .int .i64 104] 3) := ⟨_, rfl⟩
      rw [← hW5]
      have HMO : Hid (MO w W5 R B W4.heap.size r (headR r)) := Lib.hid (by
        refine ⟨HST.out.below (by rw [hW5]; exact (Below.refl _ W4).alloc (Nat.le_refl _) _), by rw [hW5]; exact heap_alloc_new W4 _, ?_⟩
        exact maker_lt2 HST.out.2.2.1)
      clear hW5 HST r0 r1 r2 r3 r4 r5 r6 r7 r8 r9 r10 r11 r12 r13
      generalize W4.heap.size = O at *
      have HR0 := Lib.hid (show LRel w R B O r wide dev 12 (.int .i64 0) W5 from ⟨0, 0, headR r, rfl, rfl, rfl, rfl, HMO.out⟩)
      clear HMO
      go_wp2_with fail
      go_loopg [10] 12 (fun n v10 wr => LRel w R B O r wide dev n v10 wr)
      case atStart => exact HR0.out
      case round =>
        clear HR0
        obtain ⟨i, z, xs, rfl, hz, hni, hxs, hmo⟩ := hrel
        have hi13 : i = 0 ∨ i = 1 ∨ i = 2 ∨ i = 3 ∨ i = 4 ∨ i = 5 ∨ i = 6 ∨ i = 7 ∨ i = 8 ∨ i = 9 ∨ i = 10 ∨ i = 11 ∨ i = 12 := by omega
        rcases hi13 with rfl | rfl | rfl | rfl | rfl | rfl | rfl | rfl | rfl | rfl | rfl | rfl | rfl
        · obtain rfl : z = 0 := by omega
          clear hz
          have HMO := Lib.hid hmo
          have HXS := Lib.hid hxs
          clear hmo hxs
          have o0 := ord_cells HMO.out
          obtain ⟨o0, o1, o2, o3, o4, o5, o6, o7, o8, o9, o10, o11⟩ := o0
          clear o1 o2 o3 o4 o5 o6 o7 o8 o9 o10 o11
          obtain ⟨r0, r1, r2, r3, r4, r5, r6, r7, r8, r9, r10, r11, r12, r13⟩ := ref_cells HMO.out.1.2.1
          have HMK := Lib.hid trivial
          have hix : ∀ W : World, (Instr.index 68 (.agg #[.int .i64 0, .int .i64 100, .int .i64 157, .int .i64 100, .int .i64 265, .int .i64 32, .int .i64 297, .int .i64 32, .int .i64 345, .int .i64 155]) (.int .i64 0)).run Tryd.prog W = .ok (.agg #[.int .i64 0, .int .i64 100]) W := fun W => by kernel_rfl
          have htc := fun W => texts_calls W
          have HTC := Lib.hid htc
          clear htc
          go_wp2_with fail
          (with_reducible refine (HTC.out _).mono ?_)
          rintro e w5 ⟨rfl, hb5⟩
          have HMO9 := Lib.hid (HMO.out.below hb5)
          clear HMO
          have HMO := Lib.hid HMO9.out
          clear HMO9
          clear hb5 HTC o0 r0 r1 r2 r3 r4 r5 r6 r7 r8 r9 r10 r11 r12 r13
          go_upto_region 20 with (fail)
          obtain ⟨W6, hW6⟩ : ∃ W6, W6 = w5.alloc (.cells #[.int .i64 0, .int .i64 100] 67) := ⟨_, rfl⟩
          rw [← hW6]
          have HP6 := Lib.hid (show W6.heap[w5.heap.size]? = some (.cells #[.int .i64 0, .int .i64 100] 67 (0, 0)) by rw [hW6]; exact heap_alloc_new w5 _)
          have HMO9 := Lib.hid (HMO.out.below (show Below w5.heap.size w5 W6 by rw [hW6]; exact (Below.refl _ w5).alloc (Nat.le_refl _) _))
          clear HMO
          have HMO := Lib.hid HMO9.out
          clear HMO9
          clear hW6 hix
          generalize w5.heap.size = P at *
          have hpt := fun W => rput_text' r.name 100 100 W rfl HSZ.out.1
          have hlen := putOf_len r.name 100
          have hn0 : (Txt.putOf r.name ((100 : Nat) : Int)).2 = 0 → foldR r wide dev (headR r, 0) 1 = (splice xs 0 (Txt.putOf r.name ((100 : Nat) : Int)).1, 0) := fun h => by show stepR r wide _ (foldR r wide _ (headR r, 0) 0) 0 = _; rw [HXS.out, show stepR r wide dev (xs, 0) 0 = mText (xs, 0) 0 100 r.name from by simp [stepR, HMK.out]]; unfold mText; rw [if_pos rfl, if_pos h]
          have hn1 : ¬ (Txt.putOf r.name ((100 : Nat) : Int)).2 = 0 → foldR r wide dev (headR r, 0) 1 = (xs, (Txt.putOf r.name ((100 : Nat) : Int)).2) := fun h => by show stepR r wide _ (foldR r wide _ (headR r, 0) 0) 0 = _; rw [HXS.out, show stepR r wide dev (xs, 0) 0 = mText (xs, 0) 0 100 r.name from by simp [stepR, HMK.out]]; unfold mText; rw [if_pos rfl, if_neg h]
          generalize Txt.putOf r.name ((100 : Nat) : Int) = pq at *
          obtain ⟨ys, cd⟩ := pq
          dsimp only at hpt hlen hn0 hn1
          have HPT := Lib.hid hpt
          have HLN := Lib.hid hlen
          have HN0 := Lib.hid hn0
          have HN1 := Lib.hid hn1
          clear hpt hlen hn0 hn1
          have hwr : IntKind.i64.wrap 0 = 0 := by decide
          have hwr2 : IntKind.i64.wrap (100 - 100) = 0 := by decide
          have HMO9 := Lib.hid (HMO.out.drew)
          clear HMO
          have HMO := Lib.hid HMO9.out
          clear HMO9
          have HP9 := Lib.hid (show W6.drew.heap[P]? = some (.cells #[.int .i64 0, .int .i64 100] 67 (0, 0)) from HP6.out)
          clear HP6
          have HP6 := Lib.hid HP9.out
          clear HP9
          go_region_held3 (fun W => W.cell? ⟨R, 2, none⟩ = some (.string r.name) ∧ W.cell? ⟨P, 1, none⟩ = some (.int .i64 100)) (first | assumption | (exact ⟨(ref_cells HMO.out.1.2.1).2.2.1, (two_cells HP6.out).2⟩)) (first | ((go_at_call 30); (with_reducible refine (HPT.out _).mono ?_); (rintro e w8 ⟨A8, c8, rfl, hc8, hC8, hb8⟩); (have HMO9 := Lib.hid (HMO.out.below hb8)); (have HP9 := Lib.hid ((But.of_below (fun _ => False) hb8).heap HP6.out (fun h => h))); (have HC8 := Lib.hid hC8); (have HCC8 := Lib.hid hc8); (clear HMO HP6 hb8 hC8 hc8); (have HMO := Lib.hid HMO9.out); (have HP6 := Lib.hid HP9.out); (clear HMO9 HP9)))
          by_cases hcd : cd = 0
          · subst hcd
            have HNEW := Lib.hid (HN0.out rfl)
            have hl5 := HLN.out rfl
            have h512 := HMO.out.1.2.2.2.1
            obtain ⟨p0, p1⟩ := two_cells HP6.out
            have hcutf : ∀ W : World, (Instr.slice 25 (.slice (some ⟨B, 0, none⟩) 512 512) (some (.int .i64 0)) none none).run Tryd.prog W = .ok (.slice (some ⟨B, 0, none⟩) 512 512) W := cut_at B 0 (by decide)
            have hcp := copy_at HMO.out.1 0 512 512 A8 c8 ys HC8.out (by omega) (by omega)
            have HMO9 := Lib.hid (HMO.out.row (splice xs 0 ys) (by rw [splice_len _ _ _ (by omega)]; exact h512))
            obtain ⟨W9, hW9⟩ : ∃ W9, W9 = w8.setRow B (nums .u8 (splice xs 0 ys)).toArray := ⟨_, rfl⟩
            rw [← hW9] at hcp HMO9
            clear hW9 hl5 h512
            go_wp2_with fail
            go_roundg (gk - 1)
            case rel => exact ⟨1, 1, splice xs 0 ys, rfl, rfl, by omega, HNEW.out, HMO9.out⟩
            case measure => omega
          · have d5 : (cd != 0) = true := bne_iff_ne.2 hcd
            have HCN := Lib.hid hcd
            have HNEW := Lib.hid (HN1.out hcd)
            clear hcd
            have HE := Lib.hid (show F.2 = cd by rw [HFQ.out, show (12 : Nat) = 1 + 11 from rfl, fold_stays r wide _ _ 1 (by rw [HNEW.out]; exact HCN.out) 11, HNEW.out])
            go_wp2_with fail
            go_ret2
            exact ⟨_, by rw [HE.out]; rfl, fun _ => rfl, fun h => absurd (HE.out.symm.trans h) HCN.out, HMO.out.old⟩
        · obtain rfl : z = 1 := by omega
          clear hz
          have HMO := Lib.hid hmo
          have HXS := Lib.hid hxs
          clear hmo hxs
          have o0 := ord_cells HMO.out
          obtain ⟨o0, o1, o2, o3, o4, o5, o6, o7, o8, o9, o10, o11⟩ := o0
          clear o0 o2 o3 o4 o5 o6 o7 o8 o9 o10 o11
          obtain ⟨r0, r1, r2, r3, r4, r5, r6, r7, r8, r9, r10, r11, r12, r13⟩ := ref_cells HMO.out.1.2.1
          have HMK := Lib.hid trivial
          have hix : ∀ W : World, (Instr.index 71 (.agg #[.int .i64 100, .int .i64 8, .int .i64 108, .int .i64 8, .int .i64 116, .int .i64 8, .int .i64 124, .int .i64 12, .int .i64 136, .int .i64 12, .int .i64 329, .int .i64 8, .int .i64 337, .int .i64 8]) (.int .i64 0)).run Tryd.prog W = .ok (.agg #[.int .i64 100, .int .i64 8]) W := fun W => by kernel_rfl
          have htc := fun W => rnumbers_calls W
          have HTC := Lib.hid htc
          clear htc
          go_wp2_with fail
          (with_reducible refine (HTC.out _).mono ?_)
          rintro e w5 ⟨rfl, hb5⟩
          have HMO9 := Lib.hid (HMO.out.below hb5)
          clear HMO
          have HMO := Lib.hid HMO9.out
          clear HMO9
          clear hb5 HTC o1 r0 r1 r2 r3 r4 r5 r6 r7 r8 r9 r10 r11 r12 r13
          go_upto_region 25 with (fail)
          obtain ⟨W6, hW6⟩ : ∃ W6, W6 = w5.alloc (.cells #[.int .i64 100, .int .i64 8] 67) := ⟨_, rfl⟩
          rw [← hW6]
          have HP6 := Lib.hid (show W6.heap[w5.heap.size]? = some (.cells #[.int .i64 100, .int .i64 8] 67 (0, 0)) by rw [hW6]; exact heap_alloc_new w5 _)
          have HMO9 := Lib.hid (HMO.out.below (show Below w5.heap.size w5 W6 by rw [hW6]; exact (Below.refl _ w5).alloc (Nat.le_refl _) _))
          clear HMO
          have HMO := Lib.hid HMO9.out
          clear HMO9
          clear hW6 hix
          generalize w5.heap.size = P at *
          have hpt := fun W => rput_num' r.mode 8 8 wide W rfl (by decide) (by decide) (HNB.out _ (by simp)).1 (HNB.out _ (by simp)).2
          have hlen := numput_len r.mode 8 wide (by decide)
          have hcode := PutN.put_code r.mode 8 wide
          have hn0 : ¬ (r.mode < 0 ∧ ¬ (4 : Int) = 8) → (NumP.putOf r.mode 8 wide).2 = 0 → foldR r wide dev (headR r, 0) 2 = (splice xs 100 (NumP.putOf r.mode 8 wide).1, 0) := fun hg h => by show stepR r wide _ (foldR r wide _ (headR r, 0) 1) 1 = _; rw [HXS.out, show stepR r wide dev (xs, 0) 1 = mNum (xs, 0) 100 8 4 r.mode wide from by simp [stepR, HMK.out]]; unfold mNum; rw [if_pos rfl, if_neg hg, if_pos h]
          have hn1 : ¬ (r.mode < 0 ∧ ¬ (4 : Int) = 8) → ¬ (NumP.putOf r.mode 8 wide).2 = 0 → foldR r wide dev (headR r, 0) 2 = (xs, (NumP.putOf r.mode 8 wide).2) := fun hg h => by show stepR r wide _ (foldR r wide _ (headR r, 0) 1) 1 = _; rw [HXS.out, show stepR r wide dev (xs, 0) 1 = mNum (xs, 0) 100 8 4 r.mode wide from by simp [stepR, HMK.out]]; unfold mNum; rw [if_pos rfl, if_neg hg, if_neg h]
          have hn2 : (r.mode < 0 ∧ ¬ (4 : Int) = 8) → foldR r wide dev (headR r, 0) 2 = (xs, 5) := fun hg => by show stepR r wide _ (foldR r wide _ (headR r, 0) 1) 1 = _; rw [HXS.out, show stepR r wide dev (xs, 0) 1 = mNum (xs, 0) 100 8 4 r.mode wide from by simp [stepR, HMK.out]]; unfold mNum; rw [if_pos rfl, if_pos hg]
          generalize NumP.putOf r.mode 8 wide = pq at *
          obtain ⟨ys, cd⟩ := pq
          dsimp only at hpt hlen hn0 hn1 hcode
          have HPT := Lib.hid hpt
          have HLN := Lib.hid hlen
          have HN0 := Lib.hid hn0
          have HN1 := Lib.hid hn1
          have HN2 := Lib.hid hn2
          clear hn2
          clear hpt hlen hn0 hn1
          have HMO9 := Lib.hid (HMO.out.drew)
          clear HMO
          have HMO := Lib.hid HMO9.out
          clear HMO9
          have HP9 := Lib.hid (show W6.drew.heap[P]? = some (.cells #[.int .i64 100, .int .i64 8] 67 (0, 0)) from HP6.out)
          clear HP6
          have HP6 := Lib.hid HP9.out
          clear HP9
          go_region_held3 (fun W => W.cell? ⟨R, 7, none⟩ = some (.int .i64 r.mode) ∧ W.cell? ⟨P, 1, none⟩ = some (.int .i64 8)) (first | assumption | (exact ⟨(ref_cells HMO.out.1.2.1).2.2.2.2.2.2.2.1, (two_cells HP6.out).2⟩)) (first | ((go_at_call 32); (with_reducible refine (HPT.out _).mono ?_); (rintro e w8 ⟨A8, c8, rfl, hc8, hC8, hb8⟩); (have HMO9 := Lib.hid (HMO.out.below hb8)); (have HP9 := Lib.hid ((But.of_below (fun _ => False) hb8).heap HP6.out (fun h => h))); (have HC8 := Lib.hid hC8); (have HCC8 := Lib.hid hc8); (clear HMO HP6 hb8 hC8 hc8); (have HMO := Lib.hid HMO9.out); (have HP6 := Lib.hid HP9.out); (clear HMO9 HP9)))
          by_cases hg : r.mode < 0 ∧ ¬ (4 : Int) = 8
          · have HNEW := Lib.hid (HN2.out hg)
            have HCN := Lib.hid (show ¬ (5 : Int) = 0 by decide)
            have d6 : decide (r.mode < 0) = true := decide_eq_true hg.1
            have rr := (ref_cells HMO.out.1.2.1).2.2.2.2.2.2.2.1
            clear hg
            rcases hcode with rfl | rfl
            · have HE := Lib.hid (show F.2 = 5 by rw [HFQ.out, show (12 : Nat) = 2 + 10 from rfl, fold_stays r wide _ _ 2 (by rw [HNEW.out]; exact HCN.out) 10, HNEW.out])
              go_wp2_with fail
              go_ret2
              exact ⟨_, by rw [HE.out]; rfl, fun _ => rfl, fun h => absurd (HE.out.symm.trans h) HCN.out, HMO.out.old⟩
            · have HE := Lib.hid (show F.2 = 5 by rw [HFQ.out, show (12 : Nat) = 2 + 10 from rfl, fold_stays r wide _ _ 2 (by rw [HNEW.out]; exact HCN.out) 10, HNEW.out])
              go_wp2_with fail
              go_ret2
              exact ⟨_, by rw [HE.out]; rfl, fun _ => rfl, fun h => absurd (HE.out.symm.trans h) HCN.out, HMO.out.old⟩
          · have HG := Lib.hid hg
            rcases hcode with rfl | rfl
            · have HNEW := Lib.hid (HN0.out HG.out rfl)
              have hl5 := HLN.out rfl
              have h512 := HMO.out.1.2.2.2.1
              obtain ⟨p0, p1⟩ := two_cells HP6.out
              have hcutf : ∀ W : World, (Instr.slice 25 (.slice (some ⟨B, 0, none⟩) 512 512) (some (.int .i64 100)) none none).run Tryd.prog W = .ok (.slice (some ⟨B, 100, none⟩) 412 412) W := cut_at B 100 (by decide)
              have hcp := copy_at HMO.out.1 100 412 412 A8 c8 ys HC8.out (by omega) (by omega)
              have HMO9 := Lib.hid (HMO.out.row (splice xs 100 ys) (by rw [splice_len _ _ _ (by omega)]; exact h512))
              obtain ⟨W9, hW9⟩ : ∃ W9, W9 = w8.setRow B (nums .u8 (splice xs 100 ys)).toArray := ⟨_, rfl⟩
              rw [← hW9] at hcp HMO9
              clear hW9 hl5 h512
              have rr := (ref_cells HMO.out.1.2.1).2.2.2.2.2.2.2.1
              by_cases hng : r.mode < 0
              · have d6 : decide (r.mode < 0) = true := decide_eq_true hng
                exact absurd ⟨hng, by decide⟩ hg
              · have d6 : decide (r.mode < 0) = false := decide_eq_false hng
                clear hg hng
                go_wp2_with fail
                go_roundg (gk - 1)
                case rel => exact ⟨2, 2, splice xs 100 ys, rfl, rfl, by omega, HNEW.out, HMO9.out⟩
                case measure => omega
            · have HNEW := Lib.hid (HN1.out hg (by decide))
              have HCN := Lib.hid (show ¬ (5 : Int) = 0 by decide)
              clear hg
              have HE := Lib.hid (show F.2 = 5 by rw [HFQ.out, show (12 : Nat) = 2 + 10 from rfl, fold_stays r wide _ _ 2 (by rw [HNEW.out]; exact HCN.out) 10, HNEW.out])
              go_wp2_with fail
              go_ret2
              exact ⟨_, by rw [HE.out]; rfl, fun _ => rfl, fun h => absurd (HE.out.symm.trans h) HCN.out, HMO.out.old⟩
        · obtain rfl : z = 2 := by omega
          clear hz
          have HMO := Lib.hid hmo
          have HXS := Lib.hid hxs
          clear hmo hxs
          have o0 := ord_cells HMO.out
          obtain ⟨o0, o1, o2, o3, o4, o5, o6, o7, o8, o9, o10, o11⟩ := o0
          clear o0 o1 o3 o4 o5 o6 o7 o8 o9 o10 o11
          obtain ⟨r0, r1, r2, r3, r4, r5, r6, r7, r8, r9, r10, r11, r12, r13⟩ := ref_cells HMO.out.1.2.1
          have HMK := Lib.hid trivial
          have hix : ∀ W : World, (Instr.index 71 (.agg #[.int .i64 100, .int .i64 8, .int .i64 108, .int .i64 8, .int .i64 116, .int .i64 8, .int .i64 124, .int .i64 12, .int .i64 136, .int .i64 12, .int .i64 329, .int .i64 8, .int .i64 337, .int .i64 8]) (.int .i64 1)).run Tryd.prog W = .ok (.agg #[.int .i64 108, .int .i64 8]) W := fun W => by kernel_rfl
          have htc := fun W => rnumbers_calls W
          have HTC := Lib.hid htc
          clear htc
          go_wp2_with fail
          (with_reducible refine (HTC.out _).mono ?_)
          rintro e w5 ⟨rfl, hb5⟩
          have HMO9 := Lib.hid (HMO.out.below hb5)
          clear HMO
          have HMO := Lib.hid HMO9.out
          clear HMO9
          clear hb5 HTC o2 r0 r1 r2 r3 r4 r5 r6 r7 r8 r9 r10 r11 r12 r13
          go_upto_region 25 with (fail)
          obtain ⟨W6, hW6⟩ : ∃ W6, W6 = w5.alloc (.cells #[.int .i64 108, .int .i64 8] 67) := ⟨_, rfl⟩
          rw [← hW6]
          have HP6 := Lib.hid (show W6.heap[w5.heap.size]? = some (.cells #[.int .i64 108, .int .i64 8] 67 (0, 0)) by rw [hW6]; exact heap_alloc_new w5 _)
          have HMO9 := Lib.hid (HMO.out.below (show Below w5.heap.size w5 W6 by rw [hW6]; exact (Below.refl _ w5).alloc (Nat.le_refl _) _))
          clear HMO
          have HMO := Lib.hid HMO9.out
          clear HMO9
          clear hW6 hix
          generalize w5.heap.size = P at *
          have hpt := fun W => rput_num' r.uid 8 8 wide W rfl (by decide) (by decide) (HNB.out _ (by simp)).1 (HNB.out _ (by simp)).2
          have hlen := numput_len r.uid 8 wide (by decide)
          have hcode := PutN.put_code r.uid 8 wide
          have hn0 : ¬ (r.uid < 0 ∧ ¬ (5 : Int) = 8) → (NumP.putOf r.uid 8 wide).2 = 0 → foldR r wide dev (headR r, 0) 3 = (splice xs 108 (NumP.putOf r.uid 8 wide).1, 0) := fun hg h => by show stepR r wide _ (foldR r wide _ (headR r, 0) 2) 2 = _; rw [HXS.out, show stepR r wide dev (xs, 0) 2 = mNum (xs, 0) 108 8 5 r.uid wide from by simp [stepR, HMK.out]]; unfold mNum; rw [if_pos rfl, if_neg hg, if_pos h]
          have hn1 : ¬ (r.uid < 0 ∧ ¬ (5 : Int) = 8) → ¬ (NumP.putOf r.uid 8 wide).2 = 0 → foldR r wide dev (headR r, 0) 3 = (xs, (NumP.putOf r.uid 8 wide).2) := fun hg h => by show stepR r wide _ (foldR r wide _ (headR r, 0) 2) 2 = _; rw [HXS.out, show stepR r wide dev (xs, 0) 2 = mNum (xs, 0) 108 8 5 r.uid wide from by simp [stepR, HMK.out]]; unfold mNum; rw [if_pos rfl, if_neg hg, if_neg h]
          have hn2 : (r.uid < 0 ∧ ¬ (5 : Int) = 8) → foldR r wide dev (headR r, 0) 3 = (xs, 5) := fun hg => by show stepR r wide _ (foldR r wide _ (headR r, 0) 2) 2 = _; rw [HXS.out, show stepR r wide dev (xs, 0) 2 = mNum (xs, 0) 108 8 5 r.uid wide from by simp [stepR, HMK.out]]; unfold mNum; rw [if_pos rfl, if_pos hg]
          generalize NumP.putOf r.uid 8 wide = pq at *
          obtain ⟨ys, cd⟩ := pq
          dsimp only at hpt hlen hn0 hn1 hcode
          have HPT := Lib.hid hpt
          have HLN := Lib.hid hlen
          have HN0 := Lib.hid hn0
          have HN1 := Lib.hid hn1
          have HN2 := Lib.hid hn2
          clear hn2
          clear hpt hlen hn0 hn1
          have HMO9 := Lib.hid (HMO.out.drew)
          clear HMO
          have HMO := Lib.hid HMO9.out
          clear HMO9
          have HP9 := Lib.hid (show W6.drew.heap[P]? = some (.cells #[.int .i64 108, .int .i64 8] 67 (0, 0)) from HP6.out)
          clear HP6
          have HP6 := Lib.hid HP9.out
          clear HP9
          go_region_held3 (fun W => W.cell? ⟨R, 8, none⟩ = some (.int .i64 r.uid) ∧ W.cell? ⟨P, 1, none⟩ = some (.int .i64 8)) (first | assumption | (exact ⟨(ref_cells HMO.out.1.2.1).2.2.2.2.2.2.2.2.1, (two_cells HP6.out).2⟩)) (first | ((go_at_call 32); (with_reducible refine (HPT.out _).mono ?_); (rintro e w8 ⟨A8, c8, rfl, hc8, hC8, hb8⟩); (have HMO9 := Lib.hid (HMO.out.below hb8)); (have HP9 := Lib.hid ((But.of_below (fun _ => False) hb8).heap HP6.out (fun h => h))); (have HC8 := Lib.hid hC8); (have HCC8 := Lib.hid hc8); (clear HMO HP6 hb8 hC8 hc8); (have HMO := Lib.hid HMO9.out); (have HP6 := Lib.hid HP9.out); (clear HMO9 HP9)))
          by_cases hg : r.uid < 0 ∧ ¬ (5 : Int) = 8
          · have HNEW := Lib.hid (HN2.out hg)
            have HCN := Lib.hid (show ¬ (5 : Int) = 0 by decide)
            have d6 : decide (r.uid < 0) = true := decide_eq_true hg.1
            have rr := (ref_cells HMO.out.1.2.1).2.2.2.2.2.2.2.2.1
            clear hg
            rcases hcode with rfl | rfl
            · have HE := Lib.hid (show F.2 = 5 by rw [HFQ.out, show (12 : Nat) = 3 + 9 from rfl, fold_stays r wide _ _ 3 (by rw [HNEW.out]; exact HCN.out) 9, HNEW.out])
              go_wp2_with fail
              go_ret2
              exact ⟨_, by rw [HE.out]; rfl, fun _ => rfl, fun h => absurd (HE.out.symm.trans h) HCN.out, HMO.out.old⟩
            · have HE := Lib.hid (show F.2 = 5 by rw [HFQ.out, show (12 : Nat) = 3 + 9 from rfl, fold_stays r wide _ _ 3 (by rw [HNEW.out]; exact HCN.out) 9, HNEW.out])
              go_wp2_with fail
              go_ret2
              exact ⟨_, by rw [HE.out]; rfl, fun _ => rfl, fun h => absurd (HE.out.symm.trans h) HCN.out, HMO.out.old⟩
          · have HG := Lib.hid hg
            rcases hcode with rfl | rfl
            · have HNEW := Lib.hid (HN0.out HG.out rfl)
              have hl5 := HLN.out rfl
              have h512 := HMO.out.1.2.2.2.1
              obtain ⟨p0, p1⟩ := two_cells HP6.out
              have hcutf : ∀ W : World, (Instr.slice 25 (.slice (some ⟨B, 0, none⟩) 512 512) (some (.int .i64 108)) none none).run Tryd.prog W = .ok (.slice (some ⟨B, 108, none⟩) 404 404) W := cut_at B 108 (by decide)
              have hcp := copy_at HMO.out.1 108 404 404 A8 c8 ys HC8.out (by omega) (by omega)
              have HMO9 := Lib.hid (HMO.out.row (splice xs 108 ys) (by rw [splice_len _ _ _ (by omega)]; exact h512))
              obtain ⟨W9, hW9⟩ : ∃ W9, W9 = w8.setRow B (nums .u8 (splice xs 108 ys)).toArray := ⟨_, rfl⟩
              rw [← hW9] at hcp HMO9
              clear hW9 hl5 h512
              have rr := (ref_cells HMO.out.1.2.1).2.2.2.2.2.2.2.2.1
              by_cases hng : r.uid < 0
              · have d6 : decide (r.uid < 0) = true := decide_eq_true hng
                exact absurd ⟨hng, by decide⟩ hg
              · have d6 : decide (r.uid < 0) = false := decide_eq_false hng
                clear hg hng
                go_wp2_with fail
                go_roundg (gk - 1)
                case rel => exact ⟨3, 3, splice xs 108 ys, rfl, rfl, by omega, HNEW.out, HMO9.out⟩
                case measure => omega
            · have HNEW := Lib.hid (HN1.out hg (by decide))
              have HCN := Lib.hid (show ¬ (5 : Int) = 0 by decide)
              clear hg
              have HE := Lib.hid (show F.2 = 5 by rw [HFQ.out, show (12 : Nat) = 3 + 9 from rfl, fold_stays r wide _ _ 3 (by rw [HNEW.out]; exact HCN.out) 9, HNEW.out])
              go_wp2_with fail
              go_ret2
              exact ⟨_, by rw [HE.out]; rfl, fun _ => rfl, fun h => absurd (HE.out.symm.trans h) HCN.out, HMO.out.old⟩
        · obtain rfl : z = 3 := by omega
          clear hz
          have HMO := Lib.hid hmo
          have HXS := Lib.hid hxs
          clear hmo hxs
          have o0 := ord_cells HMO.out
          obtain ⟨o0, o1, o2, o3, o4, o5, o6, o7, o8, o9, o10, o11⟩ := o0
          clear o0 o1 o2 o4 o5 o6 o7 o8 o9 o10 o11
          obtain ⟨r0, r1, r2, r3, r4, r5, r6, r7, r8, r9, r10, r11, r12, r13⟩ := ref_cells HMO.out.1.2.1
          have HMK := Lib.hid trivial
          have hix : ∀ W : World, (Instr.index 71 (.agg #[.int .i64 100, .int .i64 8, .int .i64 108, .int .i64 8, .int .i64 116, .int .i64 8, .int .i64 124, .int .i64 12, .int .i64 136, .int .i64 12, .int .i64 329, .int .i64 8, .int .i64 337, .int .i64 8]) (.int .i64 2)).run Tryd.prog W = .ok (.agg #[.int .i64 116, .int .i64 8]) W := fun W => by kernel_rfl
          have htc := fun W => rnumbers_calls W
          have HTC := Lib.hid htc
          clear htc
          go_wp2_with fail
          (with_reducible refine (HTC.out _).mono ?_)
          rintro e w5 ⟨rfl, hb5⟩
          have HMO9 := Lib.hid (HMO.out.below hb5)
          clear HMO
          have HMO := Lib.hid HMO9.out
          clear HMO9
          clear hb5 HTC o3 r0 r1 r2 r3 r4 r5 r6 r7 r8 r9 r10 r11 r12 r13
          go_upto_region 25 with (fail)
          obtain ⟨W6, hW6⟩ : ∃ W6, W6 = w5.alloc (.cells #[.int .i64 116, .int .i64 8] 67) := ⟨_, rfl⟩
          rw [← hW6]
          have HP6 := Lib.hid (show W6.heap[w5.heap.size]? = some (.cells #[.int .i64 116, .int .i64 8] 67 (0, 0)) by rw [hW6]; exact heap_alloc_new w5 _)
          have HMO9 := Lib.hid (HMO.out.below (show Below w5.heap.size w5 W6 by rw [hW6]; exact (Below.refl _ w5).alloc (Nat.le_refl _) _))
          clear HMO
          have HMO := Lib.hid HMO9.out
          clear HMO9
          clear hW6 hix
          generalize w5.heap.size = P at *
          have hpt := fun W => rput_num' r.gid 8 8 wide W rfl (by decide) (by decide) (HNB.out _ (by simp)).1 (HNB.out _ (by simp)).2
          have hlen := numput_len r.gid 8 wide (by decide)
          have hcode := PutN.put_code r.gid 8 wide
          have hn0 : ¬ (r.gid < 0 ∧ ¬ (6 : Int) = 8) → (NumP.putOf r.gid 8 wide).2 = 0 → foldR r wide dev (headR r, 0) 4 = (splice xs 116 (NumP.putOf r.gid 8 wide).1, 0) := fun hg h => by show stepR r wide _ (foldR r wide _ (headR r, 0) 3) 3 = _; rw [HXS.out, show stepR r wide dev (xs, 0) 3 = mNum (xs, 0) 116 8 6 r.gid wide from by simp [stepR, HMK.out]]; unfold mNum; rw [if_pos rfl, if_neg hg, if_pos h]
          have hn1 : ¬ (r.gid < 0 ∧ ¬ (6 : Int) = 8) → ¬ (NumP.putOf r.gid 8 wide).2 = 0 → foldR r wide dev (headR r, 0) 4 = (xs, (NumP.putOf r.gid 8 wide).2) := fun hg h => by show stepR r wide _ (foldR r wide _ (headR r, 0) 3) 3 = _; rw [HXS.out, show stepR r wide dev (xs, 0) 3 = mNum (xs, 0) 116 8 6 r.gid wide from by simp [stepR, HMK.out]]; unfold mNum; rw [if_pos rfl, if_neg hg, if_neg h]
          have hn2 : (r.gid < 0 ∧ ¬ (6 : Int) = 8) → foldR r wide dev (headR r, 0) 4 = (xs, 5) := fun hg => by show stepR r wide _ (foldR r wide _ (headR r, 0) 3) 3 = _; rw [HXS.out, show stepR r wide dev (xs, 0) 3 = mNum (xs, 0) 116 8 6 r.gid wide from by simp [stepR, HMK.out]]; unfold mNum; rw [if_pos rfl, if_pos hg]
          generalize NumP.putOf r.gid 8 wide = pq at *
          obtain ⟨ys, cd⟩ := pq
          dsimp only at hpt hlen hn0 hn1 hcode
          have HPT := Lib.hid hpt
          have HLN := Lib.hid hlen
          have HN0 := Lib.hid hn0
          have HN1 := Lib.hid hn1
          have HN2 := Lib.hid hn2
          clear hn2
          clear hpt hlen hn0 hn1
          have HMO9 := Lib.hid (HMO.out.drew)
          clear HMO
          have HMO := Lib.hid HMO9.out
          clear HMO9
          have HP9 := Lib.hid (show W6.drew.heap[P]? = some (.cells #[.int .i64 116, .int .i64 8] 67 (0, 0)) from HP6.out)
          clear HP6
          have HP6 := Lib.hid HP9.out
          clear HP9
          go_region_held3 (fun W => W.cell? ⟨R, 9, none⟩ = some (.int .i64 r.gid) ∧ W.cell? ⟨P, 1, none⟩ = some (.int .i64 8)) (first | assumption | (exact ⟨(ref_cells HMO.out.1.2.1).2.2.2.2.2.2.2.2.2.1, (two_cells HP6.out).2⟩)) (first | ((go_at_call 32); (with_reducible refine (HPT.out _).mono ?_); (rintro e w8 ⟨A8, c8, rfl, hc8, hC8, hb8⟩); (have HMO9 := Lib.hid (HMO.out.below hb8)); (have HP9 := Lib.hid ((But.of_below (fun _ => False) hb8).heap HP6.out (fun h => h))); (have HC8 := Lib.hid hC8); (have HCC8 := Lib.hid hc8); (clear HMO HP6 hb8 hC8 hc8); (have HMO := Lib.hid HMO9.out); (have HP6 := Lib.hid HP9.out); (clear HMO9 HP9)))
          by_cases hg : r.gid < 0 ∧ ¬ (6 : Int) = 8
          · have HNEW := Lib.hid (HN2.out hg)
            have HCN := Lib.hid (show ¬ (5 : Int) = 0 by decide)
            have d6 : decide (r.gid < 0) = true := decide_eq_true hg.1
            have rr := (ref_cells HMO.out.1.2.1).2.2.2.2.2.2.2.2.2.1
            clear hg
            rcases hcode with rfl | rfl
            · have HE := Lib.hid (show F.2 = 5 by rw [HFQ.out, show (12 : Nat) = 4 + 8 from rfl, fold_stays r wide _ _ 4 (by rw [HNEW.out]; exact HCN.out) 8, HNEW.out])
              go_wp2_with fail
              go_ret2
              exact ⟨_, by rw [HE.out]; rfl, fun _ => rfl, fun h => absurd (HE.out.symm.trans h) HCN.out, HMO.out.old⟩
            · have HE := Lib.hid (show F.2 = 5 by rw [HFQ.out, show (12 : Nat) = 4 + 8 from rfl, fold_stays r wide _ _ 4 (by rw [HNEW.out]; exact HCN.out) 8, HNEW.out])
              go_wp2_with fail
              go_ret2
              exact ⟨_, by rw [HE.out]; rfl, fun _ => rfl, fun h => absurd (HE.out.symm.trans h) HCN.out, HMO.out.old⟩
          · have HG := Lib.hid hg
            rcases hcode with rfl | rfl
            · have HNEW := Lib.hid (HN0.out HG.out rfl)
              have hl5 := HLN.out rfl
              have h512 := HMO.out.1.2.2.2.1
              obtain ⟨p0, p1⟩ := two_cells HP6.out
              have hcutf : ∀ W : World, (Instr.slice 25 (.slice (some ⟨B, 0, none⟩) 512 512) (some (.int .i64 116)) none none).run Tryd.prog W = .ok (.slice (some ⟨B, 116, none⟩) 396 396) W := cut_at B 116 (by decide)
              have hcp := copy_at HMO.out.1 116 396 396 A8 c8 ys HC8.out (by omega) (by omega)
              have HMO9 := Lib.hid (HMO.out.row (splice xs 116 ys) (by rw [splice_len _ _ _ (by omega)]; exact h512))
              obtain ⟨W9, hW9⟩ : ∃ W9, W9 = w8.setRow B (nums .u8 (splice xs 116 ys)).toArray := ⟨_, rfl⟩
              rw [← hW9] at hcp HMO9
              clear hW9 hl5 h512
              have rr := (ref_cells HMO.out.1.2.1).2.2.2.2.2.2.2.2.2.1
              by_cases hng : r.gid < 0
              · have d6 : decide (r.gid < 0) = true := decide_eq_true hng
                exact absurd ⟨hng, by decide⟩ hg
              · have d6 : decide (r.gid < 0) = false := decide_eq_false hng
                clear hg hng
                go_wp2_with fail
                go_roundg (gk - 1)
                case rel => exact ⟨4, 4, splice xs 116 ys, rfl, rfl, by omega, HNEW.out, HMO9.out⟩
                case measure => omega
            · have HNEW := Lib.hid (HN1.out hg (by decide))
              have HCN := Lib.hid (show ¬ (5 : Int) = 0 by decide)
              clear hg
              have HE := Lib.hid (show F.2 = 5 by rw [HFQ.out, show (12 : Nat) = 4 + 8 from rfl, fold_stays r wide _ _ 4 (by rw [HNEW.out]; exact HCN.out) 8, HNEW.out])
              go_wp2_with fail
              go_ret2
              exact ⟨_, by rw [HE.out]; rfl, fun _ => rfl, fun h => absurd (HE.out.symm.trans h) HCN.out, HMO.out.old⟩
        · obtain rfl : z = 4 := by omega
          clear hz
          have HMO := Lib.hid hmo
          have HXS := Lib.hid hxs
          clear hmo hxs
          have o0 := ord_cells HMO.out
          obtain ⟨o0, o1, o2, o3, o4, o5, o6, o7, o8, o9, o10, o11⟩ := o0
          clear o0 o1 o2 o3 o5 o6 o7 o8 o9 o10 o11
          obtain ⟨r0, r1, r2, r3, r4, r5, r6, r7, r8, r9, r10, r11, r12, r13⟩ := ref_cells HMO.out.1.2.1
          have HMK := Lib.hid trivial
          have hix : ∀ W : World, (Instr.index 71 (.agg #[.int .i64 100, .int .i64 8, .int .i64 108, .int .i64 8, .int .i64 116, .int .i64 8, .int .i64 124, .int .i64 12, .int .i64 136, .int .i64 12, .int .i64 329, .int .i64 8, .int .i64 337, .int .i64 8]) (.int .i64 3)).run Tryd.prog W = .ok (.agg #[.int .i64 124, .int .i64 12]) W := fun W => by kernel_rfl
          have htc := fun W => rnumbers_calls W
          have HTC := Lib.hid htc
          clear htc
          go_wp2_with fail
          (with_reducible refine (HTC.out _).mono ?_)
          rintro e w5 ⟨rfl, hb5⟩
          have HMO9 := Lib.hid (HMO.out.below hb5)
          clear HMO
          have HMO := Lib.hid HMO9.out
          clear HMO9
          clear hb5 HTC o4 r0 r1 r2 r3 r4 r5 r6 r7 r8 r9 r10 r11 r12 r13
          go_upto_region 25 with (fail)
          obtain ⟨W6, hW6⟩ : ∃ W6, W6 = w5.alloc (.cells #[.int .i64 124, .int .i64 12] 67) := ⟨_, rfl⟩
          rw [← hW6]
          have HP6 := Lib.hid (show W6.heap[w5.heap.size]? = some (.cells #[.int .i64 124, .int .i64 12] 67 (0, 0)) by rw [hW6]; exact heap_alloc_new w5 _)
          have HMO9 := Lib.hid (HMO.out.below (show Below w5.heap.size w5 W6 by rw [hW6]; exact (Below.refl _ w5).alloc (Nat.le_refl _) _))
          clear HMO
          have HMO := Lib.hid HMO9.out
          clear HMO9
          clear hW6 hix
          generalize w5.heap.size = P at *
          have hpt := fun W => rput_num' r.size 12 12 wide W rfl (by decide) (by decide) (HNB.out _ (by simp)).1 (HNB.out _ (by simp)).2
          have hlen := numput_len r.size 12 wide (by decide)
          have hcode := PutN.put_code r.size 12 wide
          have hn0 : ¬ (r.size < 0 ∧ ¬ (7 : Int) = 8) → (NumP.putOf r.size 12 wide).2 = 0 → foldR r wide dev (headR r, 0) 5 = (splice xs 124 (NumP.putOf r.size 12 wide).1, 0) := fun hg h => by show stepR r wide _ (foldR r wide _ (headR r, 0) 4) 4 = _; rw [HXS.out, show stepR r wide dev (xs, 0) 4 = mNum (xs, 0) 124 12 7 r.size wide from by simp [stepR, HMK.out]]; unfold mNum; rw [if_pos rfl, if_neg hg, if_pos h]
          have hn1 : ¬ (r.size < 0 ∧ ¬ (7 : Int) = 8) → ¬ (NumP.putOf r.size 12 wide).2 = 0 → foldR r wide dev (headR r, 0) 5 = (xs, (NumP.putOf r.size 12 wide).2) := fun hg h => by show stepR r wide _ (foldR r wide _ (headR r, 0) 4) 4 = _; rw [HXS.out, show stepR r wide dev (xs, 0) 4 = mNum (xs, 0) 124 12 7 r.size wide from by simp [stepR, HMK.out]]; unfold mNum; rw [if_pos rfl, if_neg hg, if_neg h]
          have hn2 : (r.size < 0 ∧ ¬ (7 : Int) = 8) → foldR r wide dev (headR r, 0) 5 = (xs, 5) := fun hg => by show stepR r wide _ (foldR r wide _ (headR r, 0) 4) 4 = _; rw [HXS.out, show stepR r wide dev (xs, 0) 4 = mNum (xs, 0) 124 12 7 r.size wide from by simp [stepR, HMK.out]]; unfold mNum; rw [if_pos rfl, if_pos hg]
          generalize NumP.putOf r.size 12 wide = pq at *
          obtain ⟨ys, cd⟩ := pq
          dsimp only at hpt hlen hn0 hn1 hcode
          have HPT := Lib.hid hpt
          have HLN := Lib.hid hlen
          have HN0 := Lib.hid hn0
          have HN1 := Lib.hid hn1
          have HN2 := Lib.hid hn2
          clear hn2
          clear hpt hlen hn0 hn1
          have HMO9 := Lib.hid (HMO.out.drew)
          clear HMO
          have HMO := Lib.hid HMO9.out
          clear HMO9
          have HP9 := Lib.hid (show W6.drew.heap[P]? = some (.cells #[.int .i64 124, .int .i64 12] 67 (0, 0)) from HP6.out)
          clear HP6
          have HP6 := Lib.hid HP9.out
          clear HP9
          go_region_held3 (fun W => W.cell? ⟨R, 10, none⟩ = some (.int .i64 r.size) ∧ W.cell? ⟨P, 1, none⟩ = some (.int .i64 12)) (first | assumption | (exact ⟨(ref_cells HMO.out.1.2.1).2.2.2.2.2.2.2.2.2.2.1, (two_cells HP6.out).2⟩)) (first | ((go_at_call 32); (with_reducible refine (HPT.out _).mono ?_); (rintro e w8 ⟨A8, c8, rfl, hc8, hC8, hb8⟩); (have HMO9 := Lib.hid (HMO.out.below hb8)); (have HP9 := Lib.hid ((But.of_below (fun _ => False) hb8).heap HP6.out (fun h => h))); (have HC8 := Lib.hid hC8); (have HCC8 := Lib.hid hc8); (clear HMO HP6 hb8 hC8 hc8); (have HMO := Lib.hid HMO9.out); (have HP6 := Lib.hid HP9.out); (clear HMO9 HP9)))
          by_cases hg : r.size < 0 ∧ ¬ (7 : Int) = 8
          · have HNEW := Lib.hid (HN2.out hg)
            have HCN := Lib.hid (show ¬ (5 : Int) = 0 by decide)
            have d6 : decide (r.size < 0) = true := decide_eq_true hg.1
            have rr := (ref_cells HMO.out.1.2.1).2.2.2.2.2.2.2.2.2.2.1
            clear hg
            rcases hcode with rfl | rfl
            · have HE := Lib.hid (show F.2 = 5 by rw [HFQ.out, show (12 : Nat) = 5 + 7 from rfl, fold_stays r wide _ _ 5 (by rw [HNEW.out]; exact HCN.out) 7, HNEW.out])
              go_wp2_with fail
              go_ret2
              exact ⟨_, by rw [HE.out]; rfl, fun _ => rfl, fun h => absurd (HE.out.symm.trans h) HCN.out, HMO.out.old⟩
            · have HE := Lib.hid (show F.2 = 5 by rw [HFQ.out, show (12 : Nat) = 5 + 7 from rfl, fold_stays r wide _ _ 5 (by rw [HNEW.out]; exact HCN.out) 7, HNEW.out])
              go_wp2_with fail
              go_ret2
              exact ⟨_, by rw [HE.out]; rfl, fun _ => rfl, fun h => absurd (HE.out.symm.trans h) HCN.out, HMO.out.old⟩
          · have HG := Lib.hid hg
            rcases hcode with rfl | rfl
            · have HNEW := Lib.hid (HN0.out HG.out rfl)
              have hl5 := HLN.out rfl
              have h512 := HMO.out.1.2.2.2.1
              obtain ⟨p0, p1⟩ := two_cells HP6.out
              have hcutf : ∀ W : World, (Instr.slice 25 (.slice (some ⟨B, 0, none⟩) 512 512) (some (.int .i64 124)) none none).run Tryd.prog W = .ok (.slice (some ⟨B, 124, none⟩) 388 388) W := cut_at B 124 (by decide)
              have hcp := copy_at HMO.out.1 124 388 388 A8 c8 ys HC8.out (by omega) (by omega)
              have HMO9 := Lib.hid (HMO.out.row (splice xs 124 ys) (by rw [splice_len _ _ _ (by omega)]; exact h512))
              obtain ⟨W9, hW9⟩ : ∃ W9, W9 = w8.setRow B (nums .u8 (splice xs 124 ys)).toArray := ⟨_, rfl⟩
              rw [← hW9] at hcp HMO9
              clear hW9 hl5 h512
              have rr := (ref_cells HMO.out.1.2.1).2.2.2.2.2.2.2.2.2.2.1
              by_cases hng : r.size < 0
              · have d6 : decide (r.size < 0) = true := decide_eq_true hng
                exact absurd ⟨hng, by decide⟩ hg
              · have d6 : decide (r.size < 0) = false := decide_eq_false hng
                clear hg hng
                go_wp2_with fail
                go_roundg (gk - 1)
                case rel => exact ⟨5, 5, splice xs 124 ys, rfl, rfl, by omega, HNEW.out, HMO9.out⟩
                case measure => omega
            · have HNEW := Lib.hid (HN1.out hg (by decide))
              have HCN := Lib.hid (show ¬ (5 : Int) = 0 by decide)
              clear hg
              have HE := Lib.hid (show F.2 = 5 by rw [HFQ.out, show (12 : Nat) = 5 + 7 from rfl, fold_stays r wide _ _ 5 (by rw [HNEW.out]; exact HCN.out) 7, HNEW.out])
              go_wp2_with fail
              go_ret2
              exact ⟨_, by rw [HE.out]; rfl, fun _ => rfl, fun h => absurd (HE.out.symm.trans h) HCN.out, HMO.out.old⟩
        · obtain rfl : z = 5 := by omega
          clear hz
          have HMO := Lib.hid hmo
          have HXS := Lib.hid hxs
          clear hmo hxs
          have o0 := ord_cells HMO.out
          obtain ⟨o0, o1, o2, o3, o4, o5, o6, o7, o8, o9, o10, o11⟩ := o0
          clear o0 o1 o2 o3 o4 o6 o7 o8 o9 o10 o11
          obtain ⟨r0, r1, r2, r3, r4, r5, r6, r7, r8, r9, r10, r11, r12, r13⟩ := ref_cells HMO.out.1.2.1
          have HMK := Lib.hid trivial
          have hix : ∀ W : World, (Instr.index 71 (.agg #[.int .i64 100, .int .i64 8, .int .i64 108, .int .i64 8, .int .i64 116, .int .i64 8, .int .i64 124, .int .i64 12, .int .i64 136, .int .i64 12, .int .i64 329, .int .i64 8, .int .i64 337, .int .i64 8]) (.int .i64 4)).run Tryd.prog W = .ok (.agg #[.int .i64 136, .int .i64 12]) W := fun W => by kernel_rfl
          have htc := fun W => rnumbers_calls W
          have HTC := Lib.hid htc
          clear htc
          go_wp2_with fail
          (with_reducible refine (HTC.out _).mono ?_)
          rintro e w5 ⟨rfl, hb5⟩
          have HMO9 := Lib.hid (HMO.out.below hb5)
          clear HMO
          have HMO := Lib.hid HMO9.out
          clear HMO9
          clear hb5 HTC o5 r0 r1 r2 r3 r4 r5 r6 r7 r8 r9 r10 r11 r12 r13
          go_upto_region 25 with (fail)
          obtain ⟨W6, hW6⟩ : ∃ W6, W6 = w5.alloc (.cells #[.int .i64 136, .int .i64 12] 67) := ⟨_, rfl⟩
          rw [← hW6]
          have HP6 := Lib.hid (show W6.heap[w5.heap.size]? = some (.cells #[.int .i64 136, .int .i64 12] 67 (0, 0)) by rw [hW6]; exact heap_alloc_new w5 _)
          have HMO9 := Lib.hid (HMO.out.below (show Below w5.heap.size w5 W6 by rw [hW6]; exact (Below.refl _ w5).alloc (Nat.le_refl _) _))
          clear HMO
          have HMO := Lib.hid HMO9.out
          clear HMO9
          clear hW6 hix
          generalize w5.heap.size = P at *
          have hpt := fun W => rput_num' r.time 12 12 wide W rfl (by decide) (by decide) (HNB.out _ (by simp)).1 (HNB.out _ (by simp)).2
          have hlen := numput_len r.time 12 wide (by decide)
          have hcode := PutN.put_code r.time 12 wide
          have hn0 : (NumP.putOf r.time 12 wide).2 = 0 → foldR r wide dev (headR r, 0) 6 = (splice xs 136 (NumP.putOf r.time 12 wide).1, 0) := fun h => by show stepR r wide _ (foldR r wide _ (headR r, 0) 5) 5 = _; rw [HXS.out, show stepR r wide dev (xs, 0) 5 = mNum (xs, 0) 136 12 8 r.time wide from by simp [stepR, HMK.out]]; unfold mNum; rw [if_pos rfl, if_neg (by simp), if_pos h]
          have hn1 : ¬ (NumP.putOf r.time 12 wide).2 = 0 → foldR r wide dev (headR r, 0) 6 = (xs, (NumP.putOf r.time 12 wide).2) := fun h => by show stepR r wide _ (foldR r wide _ (headR r, 0) 5) 5 = _; rw [HXS.out, show stepR r wide dev (xs, 0) 5 = mNum (xs, 0) 136 12 8 r.time wide from by simp [stepR, HMK.out]]; unfold mNum; rw [if_pos rfl, if_neg (by simp), if_neg h]
          generalize NumP.putOf r.time 12 wide = pq at *
          obtain ⟨ys, cd⟩ := pq
          dsimp only at hpt hlen hn0 hn1 hcode
          have HPT := Lib.hid hpt
          have HLN := Lib.hid hlen
          have HN0 := Lib.hid hn0
          have HN1 := Lib.hid hn1
          clear hpt hlen hn0 hn1
          have HMO9 := Lib.hid (HMO.out.drew)
          clear HMO
          have HMO := Lib.hid HMO9.out
          clear HMO9
          have HP9 := Lib.hid (show W6.drew.heap[P]? = some (.cells #[.int .i64 136, .int .i64 12] 67 (0, 0)) from HP6.out)
          clear HP6
          have HP6 := Lib.hid HP9.out
          clear HP9
          go_region_held3 (fun W => W.cell? ⟨R, 11, none⟩ = some (.int .i64 r.time) ∧ W.cell? ⟨P, 1, none⟩ = some (.int .i64 12)) (first | assumption | (exact ⟨(ref_cells HMO.out.1.2.1).2.2.2.2.2.2.2.2.2.2.2.1, (two_cells HP6.out).2⟩)) (first | ((go_at_call 32); (with_reducible refine (HPT.out _).mono ?_); (rintro e w8 ⟨A8, c8, rfl, hc8, hC8, hb8⟩); (have HMO9 := Lib.hid (HMO.out.below hb8)); (have HP9 := Lib.hid ((But.of_below (fun _ => False) hb8).heap HP6.out (fun h => h))); (have HC8 := Lib.hid hC8); (have HCC8 := Lib.hid hc8); (clear HMO HP6 hb8 hC8 hc8); (have HMO := Lib.hid HMO9.out); (have HP6 := Lib.hid HP9.out); (clear HMO9 HP9)))
          rcases hcode with rfl | rfl
          · have HNEW := Lib.hid (HN0.out rfl)
            have hl5 := HLN.out rfl
            have h512 := HMO.out.1.2.2.2.1
            obtain ⟨p0, p1⟩ := two_cells HP6.out
            have hcutf : ∀ W : World, (Instr.slice 25 (.slice (some ⟨B, 0, none⟩) 512 512) (some (.int .i64 136)) none none).run Tryd.prog W = .ok (.slice (some ⟨B, 136, none⟩) 376 376) W := cut_at B 136 (by decide)
            have hcp := copy_at HMO.out.1 136 376 376 A8 c8 ys HC8.out (by omega) (by omega)
            have HMO9 := Lib.hid (HMO.out.row (splice xs 136 ys) (by rw [splice_len _ _ _ (by omega)]; exact h512))
            obtain ⟨W9, hW9⟩ : ∃ W9, W9 = w8.setRow B (nums .u8 (splice xs 136 ys)).toArray := ⟨_, rfl⟩
            rw [← hW9] at hcp HMO9
            clear hW9 hl5 h512
            have rr := (ref_cells HMO.out.1.2.1).2.2.2.2.2.2.2.2.2.2.2.1
            by_cases hng : r.time < 0
            · have d6 : decide (r.time < 0) = true := decide_eq_true hng
              clear hng
              go_wp2_with fail
              go_roundg (gk - 1)
              case rel => exact ⟨6, 6, splice xs 136 ys, rfl, rfl, by omega, HNEW.out, HMO9.out⟩
              case measure => omega
            · have d6 : decide (r.time < 0) = false := decide_eq_false hng
              clear hng
              go_wp2_with fail
              go_roundg (gk - 1)
              case rel => exact ⟨6, 6, splice xs 136 ys, rfl, rfl, by omega, HNEW.out, HMO9.out⟩
              case measure => omega
          · have HNEW := Lib.hid (HN1.out (by decide))
            have HCN := Lib.hid (show ¬ (5 : Int) = 0 by decide)
            have HE := Lib.hid (show F.2 = 5 by rw [HFQ.out, show (12 : Nat) = 6 + 6 from rfl, fold_stays r wide _ _ 6 (by rw [HNEW.out]; exact HCN.out) 6, HNEW.out])
            go_wp2_with fail
            go_ret2
            exact ⟨_, by rw [HE.out]; rfl, fun _ => rfl, fun h => absurd (HE.out.symm.trans h) HCN.out, HMO.out.old⟩
        · obtain rfl : z = 6 := by omega
          clear hz
          have HMO := Lib.hid hmo
          have HXS := Lib.hid hxs
          clear hmo hxs
          have o0 := ord_cells HMO.out
          obtain ⟨o0, o1, o2, o3, o4, o5, o6, o7, o8, o9, o10, o11⟩ := o0
          clear o0 o1 o2 o3 o4 o5 o7 o8 o9 o10 o11
          obtain ⟨r0, r1, r2, r3, r4, r5, r6, r7, r8, r9, r10, r11, r12, r13⟩ := ref_cells HMO.out.1.2.1
          have HMK := Lib.hid trivial
          have hix : ∀ W : World, (Instr.index 68 (.agg #[.int .i64 0, .int .i64 100, .int .i64 157, .int .i64 100, .int .i64 265, .int .i64 32, .int .i64 297, .int .i64 32, .int .i64 345, .int .i64 155]) (.int .i64 1)).run Tryd.prog W = .ok (.agg #[.int .i64 157, .int .i64 100]) W := fun W => by kernel_rfl
          have htc := fun W => texts_calls W
          have HTC := Lib.hid htc
          clear htc
          go_wp2_with fail
          (with_reducible refine (HTC.out _).mono ?_)
          rintro e w5 ⟨rfl, hb5⟩
          have HMO9 := Lib.hid (HMO.out.below hb5)
          clear HMO
          have HMO := Lib.hid HMO9.out
          clear HMO9
          clear hb5 HTC o6 r0 r1 r2 r3 r4 r5 r6 r7 r8 r9 r10 r11 r12 r13
          go_upto_region 20 with (fail)
          obtain ⟨W6, hW6⟩ : ∃ W6, W6 = w5.alloc (.cells #[.int .i64 157, .int .i64 100] 67) := ⟨_, rfl⟩
          rw [← hW6]
          have HP6 := Lib.hid (show W6.heap[w5.heap.size]? = some (.cells #[.int .i64 157, .int .i64 100] 67 (0, 0)) by rw [hW6]; exact heap_alloc_new w5 _)
          have HMO9 := Lib.hid (HMO.out.below (show Below w5.heap.size w5 W6 by rw [hW6]; exact (Below.refl _ w5).alloc (Nat.le_refl _) _))
          clear HMO
          have HMO := Lib.hid HMO9.out
          clear HMO9
          clear hW6 hix
          generalize w5.heap.size = P at *
          have hpt := fun W => rput_text' r.link 100 100 W rfl HSZ.out.2.1
          have hlen := putOf_len r.link 100
          have hn0 : (Txt.putOf r.link ((100 : Nat) : Int)).2 = 0 → foldR r wide dev (headR r, 0) 7 = (splice xs 157 (Txt.putOf r.link ((100 : Nat) : Int)).1, 0) := fun h => by show stepR r wide _ (foldR r wide _ (headR r, 0) 6) 6 = _; rw [HXS.out, show stepR r wide dev (xs, 0) 6 = mText (xs, 0) 157 100 r.link from by simp [stepR, HMK.out]]; unfold mText; rw [if_pos rfl, if_pos h]
          have hn1 : ¬ (Txt.putOf r.link ((100 : Nat) : Int)).2 = 0 → foldR r wide dev (headR r, 0) 7 = (xs, (Txt.putOf r.link ((100 : Nat) : Int)).2) := fun h => by show stepR r wide _ (foldR r wide _ (headR r, 0) 6) 6 = _; rw [HXS.out, show stepR r wide dev (xs, 0) 6 = mText (xs, 0) 157 100 r.link from by simp [stepR, HMK.out]]; unfold mText; rw [if_pos rfl, if_neg h]
          generalize Txt.putOf r.link ((100 : Nat) : Int) = pq at *
          obtain ⟨ys, cd⟩ := pq
          dsimp only at hpt hlen hn0 hn1
          have HPT := Lib.hid hpt
          have HLN := Lib.hid hlen
          have HN0 := Lib.hid hn0
          have HN1 := Lib.hid hn1
          clear hpt hlen hn0 hn1
          have hwr : IntKind.i64.wrap 1 = 1 := by decide
          have hwr2 : IntKind.i64.wrap (101 - 100) = 1 := by decide
          have HMO9 := Lib.hid (HMO.out.drew)
          clear HMO
          have HMO := Lib.hid HMO9.out
          clear HMO9
          have HP9 := Lib.hid (show W6.drew.heap[P]? = some (.cells #[.int .i64 157, .int .i64 100] 67 (0, 0)) from HP6.out)
          clear HP6
          have HP6 := Lib.hid HP9.out
          clear HP9
          go_region_held3 (fun W => W.cell? ⟨R, 3, none⟩ = some (.string r.link) ∧ W.cell? ⟨P, 1, none⟩ = some (.int .i64 100)) (first | assumption | (exact ⟨(ref_cells HMO.out.1.2.1).2.2.2.1, (two_cells HP6.out).2⟩)) (first | ((go_at_call 30); (with_reducible refine (HPT.out _).mono ?_); (rintro e w8 ⟨A8, c8, rfl, hc8, hC8, hb8⟩); (have HMO9 := Lib.hid (HMO.out.below hb8)); (have HP9 := Lib.hid ((But.of_below (fun _ => False) hb8).heap HP6.out (fun h => h))); (have HC8 := Lib.hid hC8); (have HCC8 := Lib.hid hc8); (clear HMO HP6 hb8 hC8 hc8); (have HMO := Lib.hid HMO9.out); (have HP6 := Lib.hid HP9.out); (clear HMO9 HP9)))
          by_cases hcd : cd = 0
          · subst hcd
            have HNEW := Lib.hid (HN0.out rfl)
            have hl5 := HLN.out rfl
            have h512 := HMO.out.1.2.2.2.1
            obtain ⟨p0, p1⟩ := two_cells HP6.out
            have hcutf : ∀ W : World, (Instr.slice 25 (.slice (some ⟨B, 0, none⟩) 512 512) (some (.int .i64 157)) none none).run Tryd.prog W = .ok (.slice (some ⟨B, 157, none⟩) 355 355) W := cut_at B 157 (by decide)
            have hcp := copy_at HMO.out.1 157 355 355 A8 c8 ys HC8.out (by omega) (by omega)
            have HMO9 := Lib.hid (HMO.out.row (splice xs 157 ys) (by rw [splice_len _ _ _ (by omega)]; exact h512))
            obtain ⟨W9, hW9⟩ : ∃ W9, W9 = w8.setRow B (nums .u8 (splice xs 157 ys)).toArray := ⟨_, rfl⟩
            rw [← hW9] at hcp HMO9
            clear hW9 hl5 h512
            go_wp2_with fail
            go_roundg (gk - 1)
            case rel => exact ⟨7, 7, splice xs 157 ys, rfl, rfl, by omega, HNEW.out, HMO9.out⟩
            case measure => omega
          · have d5 : (cd != 0) = true := bne_iff_ne.2 hcd
            have HCN := Lib.hid hcd
            have HNEW := Lib.hid (HN1.out hcd)
            clear hcd
            have HE := Lib.hid (show F.2 = cd by rw [HFQ.out, show (12 : Nat) = 7 + 5 from rfl, fold_stays r wide _ _ 7 (by rw [HNEW.out]; exact HCN.out) 5, HNEW.out])
            go_wp2_with fail
            go_ret2
            exact ⟨_, by rw [HE.out]; rfl, fun _ => rfl, fun h => absurd (HE.out.symm.trans h) HCN.out, HMO.out.old⟩
        · obtain rfl : z = 7 := by omega
          clear hz
          have HMO := Lib.hid hmo
          have HXS := Lib.hid hxs
          clear hmo hxs
          have o0 := ord_cells HMO.out
          obtain ⟨o0, o1, o2, o3, o4, o5, o6, o7, o8, o9, o10, o11⟩ := o0
          clear o0 o1 o2 o3 o4 o5 o6 o8 o9 o10 o11
          obtain ⟨r0, r1, r2, r3, r4, r5, r6, r7, r8, r9, r10, r11, r12, r13⟩ := ref_cells HMO.out.1.2.1
          have HMK := Lib.hid HM0.out
          have hix : ∀ W : World, (Instr.index 68 (.agg #[.int .i64 0, .int .i64 100, .int .i64 157, .int .i64 100, .int .i64 265, .int .i64 32, .int .i64 297, .int .i64 32, .int .i64 345, .int .i64 155]) (.int .i64 2)).run Tryd.prog W = .ok (.agg #[.int .i64 265, .int .i64 32]) W := fun W => by kernel_rfl
          have htc := fun W => texts_calls W
          have HTC := Lib.hid htc
          clear htc
          go_wp2_with fail
          (with_reducible refine (HTC.out _).mono ?_)
          rintro e w5 ⟨rfl, hb5⟩
          have HMO9 := Lib.hid (HMO.out.below hb5)
          clear HMO
          have HMO := Lib.hid HMO9.out
          clear HMO9
          clear hb5 HTC o7 r0 r1 r2 r3 r4 r5 r6 r7 r8 r9 r10 r11 r12 r13
          go_upto_region 20 with (fail)
          obtain ⟨W6, hW6⟩ : ∃ W6, W6 = w5.alloc (.cells #[.int .i64 265, .int .i64 32] 67) := ⟨_, rfl⟩
          rw [← hW6]
          have HP6 := Lib.hid (show W6.heap[w5.heap.size]? = some (.cells #[.int .i64 265, .int .i64 32] 67 (0, 0)) by rw [hW6]; exact heap_alloc_new w5 _)
          have HMO9 := Lib.hid (HMO.out.below (show Below w5.heap.size w5 W6 by rw [hW6]; exact (Below.refl _ w5).alloc (Nat.le_refl _) _))
          clear HMO
          have HMO := Lib.hid HMO9.out
          clear HMO9
          clear hW6 hix
          generalize w5.heap.size = P at *
          have hpt := fun W => rput_text' r.user 32 32 W rfl HSZ.out.2.2.1
          have hlen := putOf_len r.user 32
          have hn0 : (Txt.putOf r.user ((32 : Nat) : Int)).2 = 0 → foldR r wide dev (headR r, 0) 8 = (splice xs 265 (Txt.putOf r.user ((32 : Nat) : Int)).1, 0) := fun h => by show stepR r wide _ (foldR r wide _ (headR r, 0) 7) 7 = _; rw [HXS.out, show stepR r wide dev (xs, 0) 7 = mText (xs, 0) 265 32 r.user from by simp [stepR, HMK.out]]; unfold mText; rw [if_pos rfl, if_pos h]
          have hn1 : ¬ (Txt.putOf r.user ((32 : Nat) : Int)).2 = 0 → foldR r wide dev (headR r, 0) 8 = (xs, (Txt.putOf r.user ((32 : Nat) : Int)).2) := fun h => by show stepR r wide _ (foldR r wide _ (headR r, 0) 7) 7 = _; rw [HXS.out, show stepR r wide dev (xs, 0) 7 = mText (xs, 0) 265 32 r.user from by simp [stepR, HMK.out]]; unfold mText; rw [if_pos rfl, if_neg h]
          generalize Txt.putOf r.user ((32 : Nat) : Int) = pq at *
          obtain ⟨ys, cd⟩ := pq
          dsimp only at hpt hlen hn0 hn1
          have HPT := Lib.hid hpt
          have HLN := Lib.hid hlen
          have HN0 := Lib.hid hn0
          have HN1 := Lib.hid hn1
          clear hpt hlen hn0 hn1
          have hwr : IntKind.i64.wrap 2 = 2 := by decide
          have hwr2 : IntKind.i64.wrap (102 - 100) = 2 := by decide
          have HMO9 := Lib.hid (HMO.out.drew)
          clear HMO
          have HMO := Lib.hid HMO9.out
          clear HMO9
          have HP9 := Lib.hid (show W6.drew.heap[P]? = some (.cells #[.int .i64 265, .int .i64 32] 67 (0, 0)) from HP6.out)
          clear HP6
          have HP6 := Lib.hid HP9.out
          clear HP9
          go_region_held3 (fun W => W.cell? ⟨R, 4, none⟩ = some (.string r.user) ∧ W.cell? ⟨P, 1, none⟩ = some (.int .i64 32)) (first | assumption | (exact ⟨(ref_cells HMO.out.1.2.1).2.2.2.2.1, (two_cells HP6.out).2⟩)) (first | ((go_at_call 30); (with_reducible refine (HPT.out _).mono ?_); (rintro e w8 ⟨A8, c8, rfl, hc8, hC8, hb8⟩); (have HMO9 := Lib.hid (HMO.out.below hb8)); (have HP9 := Lib.hid ((But.of_below (fun _ => False) hb8).heap HP6.out (fun h => h))); (have HC8 := Lib.hid hC8); (have HCC8 := Lib.hid hc8); (clear HMO HP6 hb8 hC8 hc8); (have HMO := Lib.hid HMO9.out); (have HP6 := Lib.hid HP9.out); (clear HMO9 HP9)))
          by_cases hcd : cd = 0
          · subst hcd
            have HNEW := Lib.hid (HN0.out rfl)
            have hl5 := HLN.out rfl
            have h512 := HMO.out.1.2.2.2.1
            obtain ⟨p0, p1⟩ := two_cells HP6.out
            have hcutf : ∀ W : World, (Instr.slice 25 (.slice (some ⟨B, 0, none⟩) 512 512) (some (.int .i64 265)) none none).run Tryd.prog W = .ok (.slice (some ⟨B, 265, none⟩) 247 247) W := cut_at B 265 (by decide)
            have hcp := copy_at HMO.out.1 265 247 247 A8 c8 ys HC8.out (by omega) (by omega)
            have HMO9 := Lib.hid (HMO.out.row (splice xs 265 ys) (by rw [splice_len _ _ _ (by omega)]; exact h512))
            obtain ⟨W9, hW9⟩ : ∃ W9, W9 = w8.setRow B (nums .u8 (splice xs 265 ys)).toArray := ⟨_, rfl⟩
            rw [← hW9] at hcp HMO9
            clear hW9 hl5 h512
            go_wp2_with fail
            go_roundg (gk - 1)
            case rel => exact ⟨8, 8, splice xs 265 ys, rfl, rfl, by omega, HNEW.out, HMO9.out⟩
            case measure => omega
          · have d5 : (cd != 0) = true := bne_iff_ne.2 hcd
            have HCN := Lib.hid hcd
            have HNEW := Lib.hid (HN1.out hcd)
            clear hcd
            have HE := Lib.hid (show F.2 = cd by rw [HFQ.out, show (12 : Nat) = 8 + 4 from rfl, fold_stays r wide _ _ 8 (by rw [HNEW.out]; exact HCN.out) 4, HNEW.out])
            go_wp2_with fail
            go_ret2
            exact ⟨_, by rw [HE.out]; rfl, fun _ => rfl, fun h => absurd (HE.out.symm.trans h) HCN.out, HMO.out.old⟩
        · obtain rfl : z = 8 := by omega
          clear hz
          have HMO := Lib.hid hmo
          have HXS := Lib.hid hxs
          clear hmo hxs
          have o0 := ord_cells HMO.out
          obtain ⟨o0, o1, o2, o3, o4, o5, o6, o7, o8, o9, o10, o11⟩ := o0
          clear o0 o1 o2 o3 o4 o5 o6 o7 o9 o10 o11
          obtain ⟨r0, r1, r2, r3, r4, r5, r6, r7, r8, r9, r10, r11, r12, r13⟩ := ref_cells HMO.out.1.2.1
          have HMK := Lib.hid HM0.out
          have hix : ∀ W : World, (Instr.index 68 (.agg #[.int .i64 0, .int .i64 100, .int .i64 157, .int .i64 100, .int .i64 265, .int .i64 32, .int .i64 297, .int .i64 32, .int .i64 345, .int .i64 155]) (.int .i64 3)).run Tryd.prog W = .ok (.agg #[.int .i64 297, .int .i64 32]) W := fun W => by kernel_rfl
          have htc := fun W => texts_calls W
          have HTC := Lib.hid htc
          clear htc
          go_wp2_with fail
          (with_reducible refine (HTC.out _).mono ?_)
          rintro e w5 ⟨rfl, hb5⟩
          have HMO9 := Lib.hid (HMO.out.below hb5)
          clear HMO
          have HMO := Lib.hid HMO9.out
          clear HMO9
          clear hb5 HTC o8 r0 r1 r2 r3 r4 r5 r6 r7 r8 r9 r10 r11 r12 r13
          go_upto_region 20 with (fail)
          obtain ⟨W6, hW6⟩ : ∃ W6, W6 = w5.alloc (.cells #[.int .i64 297, .int .i64 32] 67) := ⟨_, rfl⟩
          rw [← hW6]
          have HP6 := Lib.hid (show W6.heap[w5.heap.size]? = some (.cells #[.int .i64 297, .int .i64 32] 67 (0, 0)) by rw [hW6]; exact heap_alloc_new w5 _)
          have HMO9 := Lib.hid (HMO.out.below (show Below w5.heap.size w5 W6 by rw [hW6]; exact (Below.refl _ w5).alloc (Nat.le_refl _) _))
          clear HMO
          have HMO := Lib.hid HMO9.out
          clear HMO9
          clear hW6 hix
          generalize w5.heap.size = P at *
          have hpt := fun W => rput_text' r.group 32 32 W rfl HSZ.out.2.2.2.1
          have hlen := putOf_len r.group 32
          have hn0 : (Txt.putOf r.group ((32 : Nat) : Int)).2 = 0 → foldR r wide dev (headR r, 0) 9 = (splice xs 297 (Txt.putOf r.group ((32 : Nat) : Int)).1, 0) := fun h => by show stepR r wide _ (foldR r wide _ (headR r, 0) 8) 8 = _; rw [HXS.out, show stepR r wide dev (xs, 0) 8 = mText (xs, 0) 297 32 r.group from by simp [stepR, HMK.out]]; unfold mText; rw [if_pos rfl, if_pos h]
          have hn1 : ¬ (Txt.putOf r.group ((32 : Nat) : Int)).2 = 0 → foldR r wide dev (headR r, 0) 9 = (xs, (Txt.putOf r.group ((32 : Nat) : Int)).2) := fun h => by show stepR r wide _ (foldR r wide _ (headR r, 0) 8) 8 = _; rw [HXS.out, show stepR r wide dev (xs, 0) 8 = mText (xs, 0) 297 32 r.group from by simp [stepR, HMK.out]]; unfold mText; rw [if_pos rfl, if_neg h]
          generalize Txt.putOf r.group ((32 : Nat) : Int) = pq at *
          obtain ⟨ys, cd⟩ := pq
          dsimp only at hpt hlen hn0 hn1
          have HPT := Lib.hid hpt
          have HLN := Lib.hid hlen
          have HN0 := Lib.hid hn0
          have HN1 := Lib.hid hn1
          clear hpt hlen hn0 hn1
          have hwr : IntKind.i64.wrap 3 = 3 := by decide
          have hwr2 : IntKind.i64.wrap (103 - 100) = 3 := by decide
          have HMO9 := Lib.hid (HMO.out.drew)
          clear HMO
          have HMO := Lib.hid HMO9.out
          clear HMO9
          have HP9 := Lib.hid (show W6.drew.heap[P]? = some (.cells #[.int .i64 297, .int .i64 32] 67 (0, 0)) from HP6.out)
          clear HP6
          have HP6 := Lib.hid HP9.out
          clear HP9
          go_region_held3 (fun W => W.cell? ⟨R, 5, none⟩ = some (.string r.group) ∧ W.cell? ⟨P, 1, none⟩ = some (.int .i64 32)) (first | assumption | (exact ⟨(ref_cells HMO.out.1.2.1).2.2.2.2.2.1, (two_cells HP6.out).2⟩)) (first | ((go_at_call 30); (with_reducible refine (HPT.out _).mono ?_); (rintro e w8 ⟨A8, c8, rfl, hc8, hC8, hb8⟩); (have HMO9 := Lib.hid (HMO.out.below hb8)); (have HP9 := Lib.hid ((But.of_below (fun _ => False) hb8).heap HP6.out (fun h => h))); (have HC8 := Lib.hid hC8); (have HCC8 := Lib.hid hc8); (clear HMO HP6 hb8 hC8 hc8); (have HMO := Lib.hid HMO9.out); (have HP6 := Lib.hid HP9.out); (clear HMO9 HP9)))
          by_cases hcd : cd = 0
          · subst hcd
            have HNEW := Lib.hid (HN0.out rfl)
            have hl5 := HLN.out rfl
            have h512 := HMO.out.1.2.2.2.1
            obtain ⟨p0, p1⟩ := two_cells HP6.out
            have hcutf : ∀ W : World, (Instr.slice 25 (.slice (some ⟨B, 0, none⟩) 512 512) (some (.int .i64 297)) none none).run Tryd.prog W = .ok (.slice (some ⟨B, 297, none⟩) 215 215) W := cut_at B 297 (by decide)
            have hcp := copy_at HMO.out.1 297 215 215 A8 c8 ys HC8.out (by omega) (by omega)
            have HMO9 := Lib.hid (HMO.out.row (splice xs 297 ys) (by rw [splice_len _ _ _ (by omega)]; exact h512))
            obtain ⟨W9, hW9⟩ : ∃ W9, W9 = w8.setRow B (nums .u8 (splice xs 297 ys)).toArray := ⟨_, rfl⟩
            rw [← hW9] at hcp HMO9
            clear hW9 hl5 h512
            go_wp2_with fail
            go_roundg (gk - 1)
            case rel => exact ⟨9, 9, splice xs 297 ys, rfl, rfl, by omega, HNEW.out, HMO9.out⟩
            case measure => omega
          · have d5 : (cd != 0) = true := bne_iff_ne.2 hcd
            have HCN := Lib.hid hcd
            have HNEW := Lib.hid (HN1.out hcd)
            clear hcd
            have HE := Lib.hid (show F.2 = cd by rw [HFQ.out, show (12 : Nat) = 9 + 3 from rfl, fold_stays r wide _ _ 9 (by rw [HNEW.out]; exact HCN.out) 3, HNEW.out])
            go_wp2_with fail
            go_ret2
            exact ⟨_, by rw [HE.out]; rfl, fun _ => rfl, fun h => absurd (HE.out.symm.trans h) HCN.out, HMO.out.old⟩
        · obtain rfl : z = 9 := by omega
          clear hz
          have HMO := Lib.hid hmo
          have HXS := Lib.hid hxs
          clear hmo hxs
          have o0 := ord_cells HMO.out
          obtain ⟨o0, o1, o2, o3, o4, o5, o6, o7, o8, o9, o10, o11⟩ := o0
          clear o0 o1 o2 o3 o4 o5 o6 o7 o8 o10 o11
          obtain ⟨r0, r1, r2, r3, r4, r5, r6, r7, r8, r9, r10, r11, r12, r13⟩ := ref_cells HMO.out.1.2.1
          have HMK := Lib.hid HM0.out
          cases dev
          · have HNEW := Lib.hid (show foldR r wide false (headR r, 0) 10 = (xs, 0) by show stepR r wide _ (foldR r wide _ (headR r, 0) 9) 9 = _; rw [HXS.out]; simp [stepR, HMK.out])
            go_wp2_with fail
            go_roundg (gk - 1)
            case rel => exact ⟨10, 10, xs, rfl, rfl, by omega, HNEW.out, HMO.out⟩
            case measure => omega
          · have hix : ∀ W : World, (Instr.index 71 (.agg #[.int .i64 100, .int .i64 8, .int .i64 108, .int .i64 8, .int .i64 116, .int .i64 8, .int .i64 124, .int .i64 12, .int .i64 136, .int .i64 12, .int .i64 329, .int .i64 8, .int .i64 337, .int .i64 8]) (.int .i64 5)).run Tryd.prog W = .ok (.agg #[.int .i64 329, .int .i64 8]) W := fun W => by kernel_rfl
            have htc := fun W => rnumbers_calls W
            have HTC := Lib.hid htc
            clear htc
            go_wp2_with fail
            (with_reducible refine (HTC.out _).mono ?_)
            rintro e w5 ⟨rfl, hb5⟩
            have HMO9 := Lib.hid (HMO.out.below hb5)
            clear HMO
            have HMO := Lib.hid HMO9.out
            clear HMO9
            clear hb5 HTC o9 r0 r1 r2 r3 r4 r5 r6 r7 r8 r9 r10 r11 r12 r13
            go_upto_region 25 with (fail)
            obtain ⟨W6, hW6⟩ : ∃ W6, W6 = w5.alloc (.cells #[.int .i64 329, .int .i64 8] 67) := ⟨_, rfl⟩
            rw [← hW6]
            have HP6 := Lib.hid (show W6.heap[w5.heap.size]? = some (.cells #[.int .i64 329, .int .i64 8] 67 (0, 0)) by rw [hW6]; exact heap_alloc_new w5 _)
            have HMO9 := Lib.hid (HMO.out.below (show Below w5.heap.size w5 W6 by rw [hW6]; exact (Below.refl _ w5).alloc (Nat.le_refl _) _))
            clear HMO
            have HMO := Lib.hid HMO9.out
            clear HMO9
            clear hW6 hix
            generalize w5.heap.size = P at *
            have hpt := fun W => rput_num' r.major 8 8 wide W rfl (by decide) (by decide) (HNB.out _ (by simp)).1 (HNB.out _ (by simp)).2
            have hlen := numput_len r.major 8 wide (by decide)
            have hcode := PutN.put_code r.major 8 wide
            have hn0 : ¬ (r.major < 0 ∧ ¬ (11 : Int) = 8) → (NumP.putOf r.major 8 wide).2 = 0 → foldR r wide true (headR r, 0) 10 = (splice xs 329 (NumP.putOf r.major 8 wide).1, 0) := fun hg h => by show stepR r wide _ (foldR r wide _ (headR r, 0) 9) 9 = _; rw [HXS.out, show stepR r wide true (xs, 0) 9 = mNum (xs, 0) 329 8 11 r.major wide from by simp [stepR, HMK.out]]; unfold mNum; rw [if_pos rfl, if_neg hg, if_pos h]
            have hn1 : ¬ (r.major < 0 ∧ ¬ (11 : Int) = 8) → ¬ (NumP.putOf r.major 8 wide).2 = 0 → foldR r wide true (headR r, 0) 10 = (xs, (NumP.putOf r.major 8 wide).2) := fun hg h => by show stepR r wide _ (foldR r wide _ (headR r, 0) 9) 9 = _; rw [HXS.out, show stepR r wide true (xs, 0) 9 = mNum (xs, 0) 329 8 11 r.major wide from by simp [stepR, HMK.out]]; unfold mNum; rw [if_pos rfl, if_neg hg, if_neg h]
            have hn2 : (r.major < 0 ∧ ¬ (11 : Int) = 8) → foldR r wide true (headR r, 0) 10 = (xs, 5) := fun hg => by show stepR r wide _ (foldR r wide _ (headR r, 0) 9) 9 = _; rw [HXS.out, show stepR r wide true (xs, 0) 9 = mNum (xs, 0) 329 8 11 r.major wide from by simp [stepR, HMK.out]]; unfold mNum; rw [if_pos rfl, if_pos hg]
            generalize NumP.putOf r.major 8 wide = pq at *
            obtain ⟨ys, cd⟩ := pq
            dsimp only at hpt hlen hn0 hn1 hcode
            have HPT := Lib.hid hpt
            have HLN := Lib.hid hlen
            have HN0 := Lib.hid hn0
            have HN1 := Lib.hid hn1
            have HN2 := Lib.hid hn2
            clear hn2
            clear hpt hlen hn0 hn1
            have HMO9 := Lib.hid (HMO.out.drew)
            clear HMO
            have HMO := Lib.hid HMO9.out
            clear HMO9
            have HP9 := Lib.hid (show W6.drew.heap[P]? = some (.cells #[.int .i64 329, .int .i64 8] 67 (0, 0)) from HP6.out)
            clear HP6
            have HP6 := Lib.hid HP9.out
            clear HP9
            go_region_held3 (fun W => W.cell? ⟨R, 12, none⟩ = some (.int .i64 r.major) ∧ W.cell? ⟨P, 1, none⟩ = some (.int .i64 8)) (first | assumption | (exact ⟨(ref_cells HMO.out.1.2.1).2.2.2.2.2.2.2.2.2.2.2.2.1, (two_cells HP6.out).2⟩)) (first | ((go_at_call 32); (with_reducible refine (HPT.out _).mono ?_); (rintro e w8 ⟨A8, c8, rfl, hc8, hC8, hb8⟩); (have HMO9 := Lib.hid (HMO.out.below hb8)); (have HP9 := Lib.hid ((But.of_below (fun _ => False) hb8).heap HP6.out (fun h => h))); (have HC8 := Lib.hid hC8); (have HCC8 := Lib.hid hc8); (clear HMO HP6 hb8 hC8 hc8); (have HMO := Lib.hid HMO9.out); (have HP6 := Lib.hid HP9.out); (clear HMO9 HP9)))
            by_cases hg : r.major < 0 ∧ ¬ (11 : Int) = 8
            · have HNEW := Lib.hid (HN2.out hg)
              have HCN := Lib.hid (show ¬ (5 : Int) = 0 by decide)
              have d6 : decide (r.major < 0) = true := decide_eq_true hg.1
              have rr := (ref_cells HMO.out.1.2.1).2.2.2.2.2.2.2.2.2.2.2.2.1
              clear hg
              rcases hcode with rfl | rfl
              · have HE := Lib.hid (show F.2 = 5 by rw [HFQ.out, show (12 : Nat) = 10 + 2 from rfl, fold_stays r wide _ _ 10 (by rw [HNEW.out]; exact HCN.out) 2, HNEW.out])
                go_wp2_with fail
                go_ret2
                exact ⟨_, by rw [HE.out]; rfl, fun _ => rfl, fun h => absurd (HE.out.symm.trans h) HCN.out, HMO.out.old⟩
              · have HE := Lib.hid (show F.2 = 5 by rw [HFQ.out, show (12 : Nat) = 10 + 2 from rfl, fold_stays r wide _ _ 10 (by rw [HNEW.out]; exact HCN.out) 2, HNEW.out])
                go_wp2_with fail
                go_ret2
                exact ⟨_, by rw [HE.out]; rfl, fun _ => rfl, fun h => absurd (HE.out.symm.trans h) HCN.out, HMO.out.old⟩
            · have HG := Lib.hid hg
              rcases hcode with rfl | rfl
              · have HNEW := Lib.hid (HN0.out HG.out rfl)
                have hl5 := HLN.out rfl
                have h512 := HMO.out.1.2.2.2.1
                obtain ⟨p0, p1⟩ := two_cells HP6.out
                have hcutf : ∀ W : World, (Instr.slice 25 (.slice (some ⟨B, 0, none⟩) 512 512) (some (.int .i64 329)) none none).run Tryd.prog W = .ok (.slice (some ⟨B, 329, none⟩) 183 183) W := cut_at B 329 (by decide)
                have hcp := copy_at HMO.out.1 329 183 183 A8 c8 ys HC8.out (by omega) (by omega)
                have HMO9 := Lib.hid (HMO.out.row (splice xs 329 ys) (by rw [splice_len _ _ _ (by omega)]; exact h512))
                obtain ⟨W9, hW9⟩ : ∃ W9, W9 = w8.setRow B (nums .u8 (splice xs 329 ys)).toArray := ⟨_, rfl⟩
                rw [← hW9] at hcp HMO9
                clear hW9 hl5 h512
                have rr := (ref_cells HMO.out.1.2.1).2.2.2.2.2.2.2.2.2.2.2.2.1
                by_cases hng : r.major < 0
                · have d6 : decide (r.major < 0) = true := decide_eq_true hng
                  exact absurd ⟨hng, by decide⟩ hg
                · have d6 : decide (r.major < 0) = false := decide_eq_false hng
                  clear hg hng
                  go_wp2_with fail
                  go_roundg (gk - 1)
                  case rel => exact ⟨10, 10, splice xs 329 ys, rfl, rfl, by omega, HNEW.out, HMO9.out⟩
                  case measure => omega
              · have HNEW := Lib.hid (HN1.out hg (by decide))
                have HCN := Lib.hid (show ¬ (5 : Int) = 0 by decide)
                clear hg
                have HE := Lib.hid (show F.2 = 5 by rw [HFQ.out, show (12 : Nat) = 10 + 2 from rfl, fold_stays r wide _ _ 10 (by rw [HNEW.out]; exact HCN.out) 2, HNEW.out])
                go_wp2_with fail
                go_ret2
                exact ⟨_, by rw [HE.out]; rfl, fun _ => rfl, fun h => absurd (HE.out.symm.trans h) HCN.out, HMO.out.old⟩
        · obtain rfl : z = 10 := by omega
          clear hz
          have HMO := Lib.hid hmo
          have HXS := Lib.hid hxs
          clear hmo hxs
          have o0 := ord_cells HMO.out
          obtain ⟨o0, o1, o2, o3, o4, o5, o6, o7, o8, o9, o10, o11⟩ := o0
          clear o0 o1 o2 o3 o4 o5 o6 o7 o8 o9 o11
          obtain ⟨r0, r1, r2, r3, r4, r5, r6, r7, r8, r9, r10, r11, r12, r13⟩ := ref_cells HMO.out.1.2.1
          have HMK := Lib.hid HM0.out
          cases dev
          · have HNEW := Lib.hid (show foldR r wide false (headR r, 0) 11 = (xs, 0) by show stepR r wide _ (foldR r wide _ (headR r, 0) 10) 10 = _; rw [HXS.out]; simp [stepR, HMK.out])
            go_wp2_with fail
            go_roundg (gk - 1)
            case rel => exact ⟨11, 11, xs, rfl, rfl, by omega, HNEW.out, HMO.out⟩
            case measure => omega
          · have hix : ∀ W : World, (Instr.index 71 (.agg #[.int .i64 100, .int .i64 8, .int .i64 108, .int .i64 8, .int .i64 116, .int .i64 8, .int .i64 124, .int .i64 12, .int .i64 136, .int .i64 12, .int .i64 329, .int .i64 8, .int .i64 337, .int .i64 8]) (.int .i64 6)).run Tryd.prog W = .ok (.agg #[.int .i64 337, .int .i64 8]) W := fun W => by kernel_rfl
            have htc := fun W => rnumbers_calls W
            have HTC := Lib.hid htc
            clear htc
            go_wp2_with fail
            (with_reducible refine (HTC.out _).mono ?_)
            rintro e w5 ⟨rfl, hb5⟩
            have HMO9 := Lib.hid (HMO.out.below hb5)
            clear HMO
            have HMO := Lib.hid HMO9.out
            clear HMO9
            clear hb5 HTC o10 r0 r1 r2 r3 r4 r5 r6 r7 r8 r9 r10 r11 r12 r13
            go_upto_region 25 with (fail)
            obtain ⟨W6, hW6⟩ : ∃ W6, W6 = w5.alloc (.cells #[.int .i64 337, .int .i64 8] 67) := ⟨_, rfl⟩
            rw [← hW6]
            have HP6 := Lib.hid (show W6.heap[w5.heap.size]? = some (.cells #[.int .i64 337, .int .i64 8] 67 (0, 0)) by rw [hW6]; exact heap_alloc_new w5 _)
            have HMO9 := Lib.hid (HMO.out.below (show Below w5.heap.size w5 W6 by rw [hW6]; exact (Below.refl _ w5).alloc (Nat.le_refl _) _))
            clear HMO
            have HMO := Lib.hid HMO9.out
            clear HMO9
            clear hW6 hix
            generalize w5.heap.size = P at *
            have hpt := fun W => rput_num' r.minor 8 8 wide W rfl (by decide) (by decide) (HNB.out _ (by simp)).1 (HNB.out _ (by simp)).2
            have hlen := numput_len r.minor 8 wide (by decide)
            have hcode := PutN.put_code r.minor 8 wide
            have hn0 : ¬ (r.minor < 0 ∧ ¬ (12 : Int) = 8) → (NumP.putOf r.minor 8 wide).2 = 0 → foldR r wide true (headR r, 0) 11 = (splice xs 337 (NumP.putOf r.minor 8 wide).1, 0) := fun hg h => by show stepR r wide _ (foldR r wide _ (headR r, 0) 10) 10 = _; rw [HXS.out, show stepR r wide true (xs, 0) 10 = mNum (xs, 0) 337 8 12 r.minor wide from by simp [stepR, HMK.out]]; unfold mNum; rw [if_pos rfl, if_neg hg, if_pos h]
            have hn1 : ¬ (r.minor < 0 ∧ ¬ (12 : Int) = 8) → ¬ (NumP.putOf r.minor 8 wide).2 = 0 → foldR r wide true (headR r, 0) 11 = (xs, (NumP.putOf r.minor 8 wide).2) := fun hg h => by show stepR r wide _ (foldR r wide _ (headR r, 0) 10) 10 = _; rw [HXS.out, show stepR r wide true (xs, 0) 10 = mNum (xs, 0) 337 8 12 r.minor wide from by simp [stepR, HMK.out]]; unfold mNum; rw [if_pos rfl, if_neg hg, if_neg h]
            have hn2 : (r.minor < 0 ∧ ¬ (12 : Int) = 8) → foldR r wide true (headR r, 0) 11 = (xs, 5) := fun hg => by show stepR r wide _ (foldR r wide _ (headR r, 0) 10) 10 = _; rw [HXS.out, show stepR r wide true (xs, 0) 10 = mNum (xs, 0) 337 8 12 r.minor wide from by simp [stepR, HMK.out]]; unfold mNum; rw [if_pos rfl, if_pos hg]
            generalize NumP.putOf r.minor 8 wide = pq at *
            obtain ⟨ys, cd⟩ := pq
            dsimp only at hpt hlen hn0 hn1 hcode
            have HPT := Lib.hid hpt
            have HLN := Lib.hid hlen
            have HN0 := Lib.hid hn0
            have HN1 := Lib.hid hn1
            have HN2 := Lib.hid hn2
            clear hn2
            clear hpt hlen hn0 hn1
            have HMO9 := Lib.hid (HMO.out.drew)
            clear HMO
            have HMO := Lib.hid HMO9.out
            clear HMO9
            have HP9 := Lib.hid (show W6.drew.heap[P]? = some (.cells #[.int .i64 337, .int .i64 8] 67 (0, 0)) from HP6.out)
            clear HP6
            have HP6 := Lib.hid HP9.out
            clear HP9
            go_region_held3 (fun W => W.cell? ⟨R, 13, none⟩ = some (.int .i64 r.minor) ∧ W.cell? ⟨P, 1, none⟩ = some (.int .i64 8)) (first | assumption | (exact ⟨(ref_cells HMO.out.1.2.1).2.2.2.2.2.2.2.2.2.2.2.2.2, (two_cells HP6.out).2⟩)) (first | ((go_at_call 32); (with_reducible refine (HPT.out _).mono ?_); (rintro e w8 ⟨A8, c8, rfl, hc8, hC8, hb8⟩); (have HMO9 := Lib.hid (HMO.out.below hb8)); (have HP9 := Lib.hid ((But.of_below (fun _ => False) hb8).heap HP6.out (fun h => h))); (have HC8 := Lib.hid hC8); (have HCC8 := Lib.hid hc8); (clear HMO HP6 hb8 hC8 hc8); (have HMO := Lib.hid HMO9.out); (have HP6 := Lib.hid HP9.out); (clear HMO9 HP9)))
            by_cases hg : r.minor < 0 ∧ ¬ (12 : Int) = 8
            · have HNEW := Lib.hid (HN2.out hg)
              have HCN := Lib.hid (show ¬ (5 : Int) = 0 by decide)
              have d6 : decide (r.minor < 0) = true := decide_eq_true hg.1
              have rr := (ref_cells HMO.out.1.2.1).2.2.2.2.2.2.2.2.2.2.2.2.2
              clear hg
              rcases hcode with rfl | rfl
              · have HE := Lib.hid (show F.2 = 5 by rw [HFQ.out, show (12 : Nat) = 11 + 1 from rfl, fold_stays r wide _ _ 11 (by rw [HNEW.out]; exact HCN.out) 1, HNEW.out])
                go_wp2_with fail
                go_ret2
                exact ⟨_, by rw [HE.out]; rfl, fun _ => rfl, fun h => absurd (HE.out.symm.trans h) HCN.out, HMO.out.old⟩
              · have HE := Lib.hid (show F.2 = 5 by rw [HFQ.out, show (12 : Nat) = 11 + 1 from rfl, fold_stays r wide _ _ 11 (by rw [HNEW.out]; exact HCN.out) 1, HNEW.out])
                go_wp2_with fail
                go_ret2
                exact ⟨_, by rw [HE.out]; rfl, fun _ => rfl, fun h => absurd (HE.out.symm.trans h) HCN.out, HMO.out.old⟩
            · have HG := Lib.hid hg
              rcases hcode with rfl | rfl
              · have HNEW := Lib.hid (HN0.out HG.out rfl)
                have hl5 := HLN.out rfl
                have h512 := HMO.out.1.2.2.2.1
                obtain ⟨p0, p1⟩ := two_cells HP6.out
                have hcutf : ∀ W : World, (Instr.slice 25 (.slice (some ⟨B, 0, none⟩) 512 512) (some (.int .i64 337)) none none).run Tryd.prog W = .ok (.slice (some ⟨B, 337, none⟩) 175 175) W := cut_at B 337 (by decide)
                have hcp := copy_at HMO.out.1 337 175 175 A8 c8 ys HC8.out (by omega) (by omega)
                have HMO9 := Lib.hid (HMO.out.row (splice xs 337 ys) (by rw [splice_len _ _ _ (by omega)]; exact h512))
                obtain ⟨W9, hW9⟩ : ∃ W9, W9 = w8.setRow B (nums .u8 (splice xs 337 ys)).toArray := ⟨_, rfl⟩
                rw [← hW9] at hcp HMO9
                clear hW9 hl5 h512
                have rr := (ref_cells HMO.out.1.2.1).2.2.2.2.2.2.2.2.2.2.2.2.2
                by_cases hng : r.minor < 0
                · have d6 : decide (r.minor < 0) = true := decide_eq_true hng
                  exact absurd ⟨hng, by decide⟩ hg
                · have d6 : decide (r.minor < 0) = false := decide_eq_false hng
                  clear hg hng
                  go_wp2_with fail
                  go_roundg (gk - 1)
                  case rel => exact ⟨11, 11, splice xs 337 ys, rfl, rfl, by omega, HNEW.out, HMO9.out⟩
                  case measure => omega
              · have HNEW := Lib.hid (HN1.out hg (by decide))
                have HCN := Lib.hid (show ¬ (5 : Int) = 0 by decide)
                clear hg
                have HE := Lib.hid (show F.2 = 5 by rw [HFQ.out, show (12 : Nat) = 11 + 1 from rfl, fold_stays r wide _ _ 11 (by rw [HNEW.out]; exact HCN.out) 1, HNEW.out])
                go_wp2_with fail
                go_ret2
                exact ⟨_, by rw [HE.out]; rfl, fun _ => rfl, fun h => absurd (HE.out.symm.trans h) HCN.out, HMO.out.old⟩
        · obtain rfl : z = 11 := by omega
          clear hz
          have HMO := Lib.hid hmo
          have HXS := Lib.hid hxs
          clear hmo hxs
          have o0 := ord_cells HMO.out
          obtain ⟨o0, o1, o2, o3, o4, o5, o6, o7, o8, o9, o10, o11⟩ := o0
          clear o0 o1 o2 o3 o4 o5 o6 o7 o8 o9 o10
          obtain ⟨r0, r1, r2, r3, r4, r5, r6, r7, r8, r9, r10, r11, r12, r13⟩ := ref_cells HMO.out.1.2.1
          by_cases hm1 : r.mark = 1
          · have dmn : (r.mark != 1) = false := bne_eq_false_iff_eq.2 hm1
            have HMK := Lib.hid hm1
            clear hm1
            have hix : ∀ W : World, (Instr.index 68 (.agg #[.int .i64 0, .int .i64 100, .int .i64 157, .int .i64 100, .int .i64 265, .int .i64 32, .int .i64 297, .int .i64 32, .int .i64 345, .int .i64 155]) (.int .i64 4)).run Tryd.prog W = .ok (.agg #[.int .i64 345, .int .i64 155]) W := fun W => by kernel_rfl
            have htc := fun W => texts_calls W
            have HTC := Lib.hid htc
            clear htc
            go_wp2_with fail
            (with_reducible refine (HTC.out _).mono ?_)
            rintro e w5 ⟨rfl, hb5⟩
            have HMO9 := Lib.hid (HMO.out.below hb5)
            clear HMO
            have HMO := Lib.hid HMO9.out
            clear HMO9
            clear hb5 HTC o11 r0 r1 r2 r3 r4 r5 r6 r7 r8 r9 r10 r11 r12 r13
            go_upto_region 20 with (fail)
            obtain ⟨W6, hW6⟩ : ∃ W6, W6 = w5.alloc (.cells #[.int .i64 345, .int .i64 155] 67) := ⟨_, rfl⟩
            rw [← hW6]
            have HP6 := Lib.hid (show W6.heap[w5.heap.size]? = some (.cells #[.int .i64 345, .int .i64 155] 67 (0, 0)) by rw [hW6]; exact heap_alloc_new w5 _)
            have HMO9 := Lib.hid (HMO.out.below (show Below w5.heap.size w5 W6 by rw [hW6]; exact (Below.refl _ w5).alloc (Nat.le_refl _) _))
            clear HMO
            have HMO := Lib.hid HMO9.out
            clear HMO9
            clear hW6 hix
            generalize w5.heap.size = P at *
            have hpt := fun W => rput_text' r.pre 155 155 W rfl HSZ.out.2.2.2.2
            have hlen := putOf_len r.pre 155
            have hn0 : (Txt.putOf r.pre ((155 : Nat) : Int)).2 = 0 → foldR r wide dev (headR r, 0) 12 = (splice xs 345 (Txt.putOf r.pre ((155 : Nat) : Int)).1, 0) := fun h => by show stepR r wide _ (foldR r wide _ (headR r, 0) 11) 11 = _; rw [HXS.out, show stepR r wide dev (xs, 0) 11 = mText (xs, 0) 345 155 r.pre from by simp [stepR, HMK.out]]; unfold mText; rw [if_pos rfl, if_pos h]
            have hn1 : ¬ (Txt.putOf r.pre ((155 : Nat) : Int)).2 = 0 → foldR r wide dev (headR r, 0) 12 = (xs, (Txt.putOf r.pre ((155 : Nat) : Int)).2) := fun h => by show stepR r wide _ (foldR r wide _ (headR r, 0) 11) 11 = _; rw [HXS.out, show stepR r wide dev (xs, 0) 11 = mText (xs, 0) 345 155 r.pre from by simp [stepR, HMK.out]]; unfold mText; rw [if_pos rfl, if_neg h]
            generalize Txt.putOf r.pre ((155 : Nat) : Int) = pq at *
            obtain ⟨ys, cd⟩ := pq
            dsimp only at hpt hlen hn0 hn1
            have HPT := Lib.hid hpt
            have HLN := Lib.hid hlen
            have HN0 := Lib.hid hn0
            have HN1 := Lib.hid hn1
            clear hpt hlen hn0 hn1
            have hwr : IntKind.i64.wrap 4 = 4 := by decide
            have hwr2 : IntKind.i64.wrap (104 - 100) = 4 := by decide
            have HMO9 := Lib.hid (HMO.out.drew)
            clear HMO
            have HMO := Lib.hid HMO9.out
            clear HMO9
            have HP9 := Lib.hid (show W6.drew.heap[P]? = some (.cells #[.int .i64 345, .int .i64 155] 67 (0, 0)) from HP6.out)
            clear HP6
            have HP6 := Lib.hid HP9.out
            clear HP9
            go_region_held3 (fun W => W.cell? ⟨R, 6, none⟩ = some (.string r.pre) ∧ W.cell? ⟨P, 1, none⟩ = some (.int .i64 155)) (first | assumption | (exact ⟨(ref_cells HMO.out.1.2.1).2.2.2.2.2.2.1, (two_cells HP6.out).2⟩)) (first | ((go_at_call 30); (with_reducible refine (HPT.out _).mono ?_); (rintro e w8 ⟨A8, c8, rfl, hc8, hC8, hb8⟩); (have HMO9 := Lib.hid (HMO.out.below hb8)); (have HP9 := Lib.hid ((But.of_below (fun _ => False) hb8).heap HP6.out (fun h => h))); (have HC8 := Lib.hid hC8); (have HCC8 := Lib.hid hc8); (clear HMO HP6 hb8 hC8 hc8); (have HMO := Lib.hid HMO9.out); (have HP6 := Lib.hid HP9.out); (clear HMO9 HP9)))
            by_cases hcd : cd = 0
            · subst hcd
              have HNEW := Lib.hid (HN0.out rfl)
              have hl5 := HLN.out rfl
              have h512 := HMO.out.1.2.2.2.1
              obtain ⟨p0, p1⟩ := two_cells HP6.out
              have hcutf : ∀ W : World, (Instr.slice 25 (.slice (some ⟨B, 0, none⟩) 512 512) (some (.int .i64 345)) none none).run Tryd.prog W = .ok (.slice (some ⟨B, 345, none⟩) 167 167) W := cut_at B 345 (by decide)
              have hcp := copy_at HMO.out.1 345 167 167 A8 c8 ys HC8.out (by omega) (by omega)
              have HMO9 := Lib.hid (HMO.out.row (splice xs 345 ys) (by rw [splice_len _ _ _ (by omega)]; exact h512))
              obtain ⟨W9, hW9⟩ : ∃ W9, W9 = w8.setRow B (nums .u8 (splice xs 345 ys)).toArray := ⟨_, rfl⟩
              rw [← hW9] at hcp HMO9
              clear hW9 hl5 h512
              go_wp2_with fail
              go_roundg (gk - 1)
              case rel => exact ⟨12, 12, splice xs 345 ys, rfl, rfl, by omega, HNEW.out, HMO9.out⟩
              case measure => omega
            · have d5 : (cd != 0) = true := bne_iff_ne.2 hcd
              have HCN := Lib.hid hcd
              have HNEW := Lib.hid (HN1.out hcd)
              clear hcd
              have HE := Lib.hid (show F.2 = cd by rw [HFQ.out, show (12 : Nat) = 12 + 0 from rfl, fold_stays r wide _ _ 12 (by rw [HNEW.out]; exact HCN.out) 0, HNEW.out])
              go_wp2_with fail
              go_ret2
              exact ⟨_, by rw [HE.out]; rfl, fun _ => rfl, fun h => absurd (HE.out.symm.trans h) HCN.out, HMO.out.old⟩
          · have dmn : (r.mark != 1) = true := bne_iff_ne.2 hm1
            have HMK := Lib.hid hm1
            clear hm1
            have HNEW := Lib.hid (show foldR r wide dev (headR r, 0) 12 = (xs, 0) by show stepR r wide _ (foldR r wide _ (headR r, 0) 11) 11 = _; rw [HXS.out]; simp [stepR, HMK.out])
            go_wp2_with fail
            go_roundg (gk - 1)
            case rel => exact ⟨12, 12, xs, rfl, rfl, by omega, HNEW.out, HMO.out⟩
            case measure => omega
        · obtain rfl : z = 12 := by omega
          clear hz
          have HMO := Lib.hid hmo
          have hfb := fold_bytes r wide dev (headR r, 0) HHB.out 12
          rw [hxs] at hfb
          have hsl := oakumref03_Seal.calls 1200 (some ⟨B, 0, none⟩) 512 xs (sealOf xs) wr (by rw [HMO.out.1.2.2.2.1]; exact HMO.out.1.C) (by rw [HMO.out.1.2.2.2.1]; exact Nat.le_refl _) (ref_seal hfb HMO.out.1.2.2.2.1)
          rw [HMO.out.1.2.2.2.1] at hsl
          have HE := Lib.hid (show F = (xs, 0) from HFQ.out.trans hxs)
          have HSL := Lib.hid hsl
          clear hsl hfb hxs hmo
          go_wp2_with fail
          (with_reducible refine HSL.out.mono ?_)
          rintro e w8 ⟨v8, rfl, hR8, hb8⟩
          have HR8 := Lib.hid hR8
          have HB8 := Lib.hid (HMO.out.old.trans (hb8.mono HMO.out.old.size))
          clear hR8 hb8 HSL
          go_wp2_with fail
          go_ret2
          exact ⟨_, by rw [HE.out]; rfl, fun h => absurd (by rw [HE.out]) h, fun _ => by rw [HE.out]; exact Kd.R_mono (Kd.R_lower HR8.out HMO.out.old.size) (fun _ h => h), HB8.out⟩
end Go.Proofs.YtoabboeongbloaaDoor.RefM
