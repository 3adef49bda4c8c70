/- The document's Make of a header: its walk. -/
import Derived.Test.YtoabboeongbloaaDoorZRefV
import Derived.Test.YtoabboeongbloaaDoorZPutP
import Derived.Test.YtoabboeongbloaaDoorZPutN
import Derived.Test.YtoabboeongbloaaDoorZRefG
set_option linter.unusedVariables false
set_option linter.unusedSimpArgs false
namespace Go.Proofs.YtoabboeongbloaaDoor.RefM
open Go.RowKit Go.Proofs.YtoabboeongbloaaDoorW.PrintWords Go.Proofs.YtoabboeongbloaaDoorW.PrintLast Go.Proofs.YtoabboeongbloaaDoorW.PrintMore Go.Proofs.YtoabboeongbloaaDoorW.Mv Go.Proofs.YtoabboeongbloaaDoorW.HKit Go.Proofs.YtoabboeongbloaaDoorW.But Go.Proofs.YtoabboeongbloaaDoor.HeadA Go.Proofs.YtoabboeongbloaaDoor.PHeadGets Go.Proofs.YtoabboeongbloaaDoor.PM Go.Proofs.YtoabboeongbloaaDoor.SumP Go.Proofs.YtoabboeongbloaaDoor.Sums Go.Proofs.YtoabboeongbloaaDoor.Maker Go.Proofs.YtoabboeongbloaaDoor.GetW Go.Proofs.YtoabboeongbloaaDoor.RefG Go.Proofs.YtoabboeongbloaaDoor.Fmt
theorem MSt.at_ {w W : World} {R B : Nat} {r : Raw} {xs : List Int} (h : MSt w W R B r xs) (i : Nat) (hi : i < 512) : W.cell? ⟨B, i, none⟩ = some (.int .u8 (rd xs (i : Int))) := by
  obtain ⟨h1, h2, h3, h4, h5⟩ := h
  have hl : i < xs.length := by omega
  simp [World.cell?, h3, nums, rd, List.getD, hl]
set_option maxHeartbeats 1000000 in
set_option maxRecDepth 100000 in
theorem rmake_arg (r : Raw) (wide dev : Bool) (w : World) (h : r.mark < 0 ∨ 2 < r.mark) :
    Calls Tryd.prog 9 #[.agg (refC r), .bool wide, .bool dev] w fun e w' => e = .returned (.tuple #[.slice none 0 0, .int .i64 2]) ∧ Below w.heap.size w w' := by
  have hb0 := (Below.refl w.heap.size w).alloc (Nat.le_refl _) (.cells (refC r) 34)
  have hraw : (w.alloc (.cells (refC r) 34)).heap[w.heap.size]? = some (.cells (refC r) 34 (0, 0)) := heap_alloc_new w _
  obtain ⟨r0, r1, r2, r3, r4, r5, r6, r7, r8, r9, r10, r11, r12, r13⟩ := ref_cells hraw
  have HB0 := Lib.hid hb0
  have HRAW := Lib.hid hraw
  clear hb0 hraw r2 r3 r4 r5 r6 r7 r8 r9 r10 r11 r12 r13
  obtain ⟨wa, hwa⟩ : ∃ wa, wa = w.alloc (.cells (refC r) 34) := ⟨_, rfl⟩
  rw [← hwa] at HB0 HRAW r0 r1
  by_cases h0 : r.mark < 0
  · have d1 : decide (r.mark < 0) = true := decide_eq_true h0
    clear h h0
    go_enter Tryd.func9, Tryd.ntmps9
    go_upto_region 1 with (fail)
    rw [← hwa]
    clear hwa
    go_wp2_with fail
    go_ret2
    exact ⟨rfl, HB0.out⟩
  · have d1 : decide (r.mark < 0) = false := decide_eq_false h0
    have d2 : decide (2 < r.mark) = true := decide_eq_true (by omega)
    clear h h0
    go_enter Tryd.func9, Tryd.ntmps9
    go_upto_region 1 with (fail)
    rw [← hwa]
    clear hwa
    go_wp2_with fail
    go_ret2
    exact ⟨rfl, HB0.out⟩
set_option maxHeartbeats 1000000 in
set_option maxRecDepth 100000 in
theorem rmake_flag (r : Raw) (wide dev : Bool) (w : World) (h : ¬ (r.mark < 0 ∨ 2 < r.mark)) (hk : knownB r.flag = false) :
    Calls Tryd.prog 9 #[.agg (refC r), .bool wide, .bool dev] w fun e w' => e = .returned (.tuple #[.slice none 0 0, .int .i64 9]) ∧ Below w.heap.size w w' := by
  have hb0 := (Below.refl w.heap.size w).alloc (Nat.le_refl _) (.cells (refC r) 34)
  have hraw : (w.alloc (.cells (refC r) 34)).heap[w.heap.size]? = some (.cells (refC r) 34 (0, 0)) := heap_alloc_new w _
  obtain ⟨r0, r1, r2, r3, r4, r5, r6, r7, r8, r9, r10, r11, r12, r13⟩ := ref_cells hraw
  have HB0 := Lib.hid hb0
  have HRAW := Lib.hid hraw
  clear hb0 hraw r2 r3 r4 r5 r6 r7 r8 r9 r10 r11 r12 r13
  obtain ⟨wa, hwa⟩ : ∃ wa, wa = w.alloc (.cells (refC r) 34) := ⟨_, rfl⟩
  rw [← hwa] at HB0 HRAW r0 r1
  have d1 : decide (r.mark < 0) = false := decide_eq_false (by omega)
  have d2 : decide (2 < r.mark) = false := decide_eq_false (by omega)
  have hkn := oakumref06_Known.calls r.flag _ wa (rknown_f r.flag)
  rw [hk] at hkn
  have HK := Lib.hid hkn
  clear h hk hkn
  go_enter Tryd.func9, Tryd.ntmps9
  go_upto_region 1 with (fail)
  rw [← hwa]
  clear hwa
  go_wp2_with fail
  (with_reducible refine HK.out.mono ?_)
  rintro e w1 ⟨rfl, hd⟩
  have HB1 := Lib.hid (HB0.out.trans (hd.below.mono HB0.out.size))
  clear hd HK HB0
  go_wp2_with fail
  go_ret2
  exact ⟨rfl, HB1.out⟩
end Go.Proofs.YtoabboeongbloaaDoor.RefM
