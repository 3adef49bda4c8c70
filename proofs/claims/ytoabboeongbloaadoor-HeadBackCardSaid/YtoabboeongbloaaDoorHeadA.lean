/- head's spans and numbers: their walks. -/
import Derived.Test.YtoabboeongbloaaDoorShelf
import Derived.Test.YtoabboeongbloaaDoorHKit
import Derived.Test.YtoabboeongbloaaDoorMv
import Derived.WalkLawsBesides
import Derived.Deep.RegionWith
import Derived.Deep.RegionLaw
set_option linter.unusedVariables false
set_option linter.unusedSimpArgs false
namespace Go.Proofs.YtoabboeongbloaaDoor.HeadA
open Go.RowKit Go.Proofs.YtoabboeongbloaaDoorW.PrintWords Go.Proofs.YtoabboeongbloaaDoorW.PrintLast Go.Proofs.YtoabboeongbloaaDoorW.PrintMore Go.Proofs.YtoabboeongbloaaDoorW.Mv Go.Proofs.YtoabboeongbloaaDoorW.HKit
/-- Where a slice's piece begins. -/
def cutAt (A : Option Addr) (c f : Nat) : Option Addr := if c = f then A else A.map (·.add f)
def part (xs : List Int) (f s : Nat) : List Int := (xs.take (f + s)).drop f
theorem part_len (xs : List Int) (f s : Nat) (h : f + s ≤ xs.length) : (part xs f s).length = s := by simp [part]; omega
theorem info5 : (Tryd.prog.info? 5).map (fun i => (i.zero, i.size, i.bytes)) = some (some (.int .u8 0), 1, 1) := by kernel_rfl
theorem cut_run (A : Option Addr) (c n f s : Nat) (hs : f + s ≤ n) (hc : n ≤ c) (W : World) : (Instr.slice 25 (.slice A n c) (some (.int .i64 (f : Int))) (some (.int .i64 ((f : Int) + (s : Int)))) none).run Tryd.prog W = .ok (.slice (cutAt A c f) s (c - f)) W := by
  obtain ⟨i, hi, hz, hsz, _⟩ := info_parts info5
  have hel : Tryd.prog.elem 25 = 5 := by simp [Program.elem, Tryd.underlying25]
  have hu : Tryd.prog.underlying 25 = some (.slice (Tryd.prog.elem 25)) := by rw [hel]; exact Tryd.underlying25
  rw [run_slice_lh W 25 A n c hu .i64 .i64 (f : Int) ((f : Int) + s) (by omega) (by omega) (by omega), hel]
  have e1 : ((f : Int) + (s : Int)).toNat - (f : Int).toNat = s := by omega
  simp [sizeOf, typeInfo, hi, hsz, sliced, Result.andThen, cutAt, e1]
  try omega
theorem cut_C {w : World} {A : Option Addr} {xs : List Int} {c f s : Nat} (hr : Kd.C (Kd.int .u8) w A xs.length xs) (hs : f + s ≤ xs.length) (hc : xs.length ≤ c) : Kd.C (Kd.int .u8) w (cutAt A c f) s (part xs f s) := by
  have ha := Kd.reads_of_C (d := 0) hr
  have h2 := (ha.take_ (f + s) hs).drop_ (c := c) f (by omega) (by omega)
  have h3 := Kd.C_of_reads (h1 := fun _ => rfl) h2
  have e1 : f + s - f = s := by omega
  rw [e1] at h3
  exact h3
set_option maxHeartbeats 1000000 in
theorem of_calls (A : Option Addr) (c n f s : Nat) (w : World) (hs : f + s ≤ n) (hc : n ≤ c) (hn : (n : Int) ≤ 1000000) :
    Calls Tryd.prog 36 #[.agg #[.int .i64 (f : Int), .int .i64 (s : Int)], .slice A n c] w fun e w' => e = .returned (.slice (cutAt A c f) s (c - f)) ∧ w' = w.alloc (.cells #[.int .i64 (f : Int), .int .i64 (s : Int)] 60) := by
  have hcut := cut_run A c n f s hs hc
  have hw : wrap64 ((f : Int) + (s : Int)) = (f : Int) + (s : Int) := by unfold wrap64; omega
  go_enter Tryd.func36, Tryd.ntmps36
  go_wp2_with fail
  go_ret
  exact ⟨rfl, rfl⟩
end Go.Proofs.YtoabboeongbloaaDoor.HeadA
