/- volume.open, volume.Check: walked once. -/
import Derived.Test.YtkcgioggnbnfkaaDoorZRead
import Derived.Test.YtkcgioggnbnfkaaDoorZKN
set_option linter.unusedVariables false
set_option linter.unusedSimpArgs false
namespace Go.Proofs.YtkcgioggnbnfkaaDoor.Open
open Go.RowKit Go.Proofs.YtkcgioggnbnfkaaDoorW.PrintWords Go.Proofs.YtkcgioggnbnfkaaDoorW.PrintLast Go.Proofs.YtkcgioggnbnfkaaDoorW.PrintMore Go.Proofs.YtkcgioggnbnfkaaDoorW.Mv Go.Proofs.YtkcgioggnbnfkaaDoorW.HKit Go.Proofs.YtkcgioggnbnfkaaDoorW.But Go.Proofs.YtkcgioggnbnfkaaDoorW.App Go.Proofs.YtkcgioggnbnfkaaDoor.PVolumeJoins Go.Proofs.YtkcgioggnbnfkaaDoor.CrcA Go.Proofs.YtkcgioggnbnfkaaDoor.Crc Go.Proofs.YtkcgioggnbnfkaaDoor.NumP Go.Proofs.YtkcgioggnbnfkaaDoor.NumG Go.Proofs.YtkcgioggnbnfkaaDoor.Num Go.Proofs.YtkcgioggnbnfkaaDoor.Lab Go.Proofs.YtkcgioggnbnfkaaDoor.Read Go.Proofs.YtkcgioggnbnfkaaDoor.BlkP
/-- Blocks of so many bytes. -/
def blocksOf (n : Nat) : Nat := (n + 511) / 512
theorem blocks_f (n : Nat) (h : n ≤ 1000000) : text_Blocks.f (n : Int) = some ((blocksOf n : Nat) : Int) := by
  unfold text_Blocks.f blocksOf
  by_cases h0 : n = 0
  · subst h0; rfl
  · rw [if_neg (by omega)]
    congr 1
    have e1 : wrap64 ((n : Int) - 1) = ((n - 1 : Nat) : Int) := by rw [IntWalk.wrap64_in _ ⟨by omega, by omega⟩]; omega
    have e2 : Int.tdiv ((n - 1 : Nat) : Int) 512 = (((n - 1) / 512 : Nat) : Int) := by rw [Int.tdiv_eq_ediv_of_nonneg (by omega)]; omega
    rw [e1, e2, IntWalk.wrap64_in (((n - 1) / 512 : Nat) : Int) ⟨by omega, by omega⟩, IntWalk.wrap64_in _ ⟨by omega, by omega⟩]
    omega
def z6 : List Int := [0, 0, 0, 0, 0, 0]
/-- Is the rest behind a label so large as its numbers say, and noughts behind the part? -/
def restB (s : Int) (rest : List Int) : Bool := decide (s ≤ (rest.length : Int)) && decide (blocksOf s.toNat * 512 = rest.length) && BlkP.blank (rest.drop s.toNat)
/-- A volume, opened: its label's numbers, its part, the code. -/
noncomputable def openOf (v : List Int) : List Int × List Int × Int :=
  if v.length < 512 then (z6, [], 15)
  else if (goodB (readNs (v.take 512)) (v.take 512) && restB (rd (readNs (v.take 512)) 3) (v.drop 512)) = true then
    (if (crcSum ((v.drop 512).take (rd (readNs (v.take 512)) 3).toNat) : Int) = rd (readNs (v.take 512)) 5 then (readNs (v.take 512), (v.drop 512).take (rd (readNs (v.take 512)) 3).toNat, 0) else (z6, [], 4))
  else (z6, [], 15)
/-- What is handed back of a volume. -/
def OPost (w : World) (r : List Int × List Int × Int) (e : Ending) (w' : World) : Prop :=
  ∃ A c, e = .returned (.tuple #[.agg (nums .i64 r.1).toArray, .slice A r.2.1.length c, .int .u8 r.2.2]) ∧ r.2.1.length ≤ c ∧ Kd.C (Kd.int .u8) w A r.2.1.length r.2.1 ∧ Below w.heap.size w w'
theorem blank_calls (A : Option Addr) (n c : Nat) (l : List Int) (w : World) (hr : Kd.C (Kd.int .u8) w A n l) (hc : n ≤ c) (hn : n ≤ 100000) :
    Calls Tryd.prog 36 #[.slice A n c] w fun e w' => e = .returned (.bool (BlkP.blank l)) ∧ Below w.heap.size w w' := by
  have hl := C_len hr
  subst hl
  obtain ⟨k, hk⟩ := (blank_ev l hn).rounds
  refine (text_Blank.calls k A c l (BlkP.blank l) w hr hc hk).mono ?_
  rintro e w' ⟨rfl, hd⟩
  exact ⟨rfl, hd.below⟩
theorem blocks_calls (n : Nat) (h : n ≤ 1000000) (w : World) : Calls Tryd.prog 35 #[.int .i64 (n : Int)] w fun e w' => e = .returned (.int .i64 (blocksOf n : Nat)) ∧ Below w.heap.size w w' := by
  refine (text_Blocks.calls (n : Int) _ w (blocks_f n h)).mono ?_
  rintro e w' ⟨rfl, hd⟩
  exact ⟨rfl, hd.below⟩
theorem results_open {P : Program} {fn : Func} {p u v : Tmp} {ty : TypeId} (h : fn.results = #[.cell p ty, .tmp u, .tmp v]) (tmps : Array Value) (w : World) (g : Nat) (t : TypeId) (cs : Array Value) (fr : Nat × Nat) (d : TypeDesc)
    (hp : tmps.getD p undef = .pointer (some ⟨g, 0, none⟩)) (hg : w.heap[g]? = some (.cells cs t fr))
    (hu : P.underlying ty = some d) (hd : (match d with | .struct _ | .array _ _ => true | _ => false) = true) (hi : (P.info? ty).map (·.size) = some cs.size) :
    (results fn tmps).run P w = .ok (.tuple #[.agg cs, tmps.getD u undef, tmps.getD v undef]) w := by
  have hp' : tmps[p]?.getD undef = .pointer (some ⟨g, 0, none⟩) := by simpa using hp
  simp [results, h, hp', asAddr, Result.andThen, run_loadVar_row w g t ty cs fr d hg hu hd hi]
theorem sum_any (A : Option Addr) (n c : Nat) (l : List Int) (w : World) (hr : Kd.C (Kd.int .u8) w A n l) (hc : n ≤ c) (hb : ∀ y ∈ l, 0 ≤ y ∧ y ≤ 255) :
    Calls Tryd.prog 18 #[.slice A n c] w (SumPost w l) := by
  have hl := C_len hr
  subst hl
  exact sum_calls A c l w hr hc hb
set_option maxHeartbeats 4000000 in
set_option maxRecDepth 100000 in
theorem open_short (A : Option Addr) (n c : Nat) (w : World) (hn : n < 512) : Calls Tryd.prog 23 #[.slice A n c] w (OPost w (z6, [], 15)) := by
  go_enter Tryd.func23, Tryd.ntmps23
  go_wp2_with fail
  refine bodyPost_ret (results_open rfl _ _ w.heap.size 54 #[.int .i64 0, .int .i64 0, .int .i64 0, .int .i64 0, .int .i64 0, .int .i64 0] (0, 0) _ rfl (heap_alloc_new w _) Tryd.underlying54 rfl (by kernel_rfl)) rfl ?_
  exact ⟨none, 0, rfl, Nat.le_refl _, C_none .u8 w, (Below.refl _ w).alloc (Nat.le_refl _) _⟩
set_option maxHeartbeats 8000000 in
set_option maxRecDepth 100000 in
theorem open_bad (A : Option Addr) (n c : Nat) (v : List Int) (w : World) (hr : Kd.C (Kd.int .u8) w A n v) (hc : n ≤ c) (hb : ∀ x ∈ v, 0 ≤ x ∧ x ≤ 255) (hn : 512 ≤ n) (hn2 : n ≤ 100000) (n0 n1 n2 n3 n4 n5 : Int) (hns : readNs (v.take 512) = [n0, n1, n2, n3, n4, n5]) (hgood : goodB [n0, n1, n2, n3, n4, n5] (v.take 512) = false)  : Calls Tryd.prog 23 #[.slice A n c] w (OPost w (z6, [], 15)) := by
  have HNS := Aside0.mk hns
  have HGD := Aside0.mk hgood
  have HY := Aside0.mk hb
  have HV := Aside0.mk (C_len hr)
  have HR := Aside0.mk hr
  have hsl := fun W => cut_run_to A c n 512 (by omega) hc 512 rfl W
  have hsl2 := fun W => cut_run_from A c n 512 (by omega) 512 rfl W
  have hread := fun (W : World) (hW : Below w.heap.size w W) => read_calls A c (v.take 512) W (C_firsts (Kd.C_below HR.out hW) (by omega)) (by omega) (fun x hx => HY.out x (List.mem_of_mem_take hx))
  have HRead := Aside0.mk hread
  have hCr := cut_C (c := c) (f := 512) (s := n - 512) hr (by omega) hc
  have epart : Read.part v 512 (n - 512) = v.drop 512 := by unfold Read.part; rw [show 512 + (n - 512) = n by omega, List.take_of_length_le (by rw [HV.out]; exact Nat.le_refl _)]
  rw [epart] at hCr
  have HC := Aside0.mk hCr
  clear hns hgood hb hr hread hCr epart
  go_enter Tryd.func23, Tryd.ntmps23
  go_wp2_with fail
  have HB0 := Aside0.mk ((Below.refl w.heap.size w).alloc (Nat.le_refl _) (.cells #[.int .i64 0, .int .i64 0, .int .i64 0, .int .i64 0, .int .i64 0, .int .i64 0] 54))
  have HR0 := Aside0.mk (show LabAt (w.alloc (.cells #[.int .i64 0, .int .i64 0, .int .i64 0, .int .i64 0, .int .i64 0, .int .i64 0] 54)) w.heap.size z6 from heap_alloc_new w _)
  generalize w.alloc (.cells #[.int .i64 0, .int .i64 0, .int .i64 0, .int .i64 0, .int .i64 0, .int .i64 0] 54) = wa at HB0 HR0 ⊢
  refine (HRead.out wa HB0.out).mono ?_
  rintro e w2 ⟨rfl, hb2⟩
  rw [HNS.out, HGD.out, show (nums .i64 [n0, n1, n2, n3, n4, n5]).toArray = #[.int .i64 n0, .int .i64 n1, .int .i64 n2, .int .i64 n3, .int .i64 n4, .int .i64 n5] from rfl]
  have HB2 := Aside0.mk (HB0.out.trans (hb2.mono HB0.out.size))
  have HR2 := Aside0.mk (lab_below HR0.out hb2)
  have HB3 := Aside0.mk ((HB2.out).alloc HB2.out.size (.cells #[.int .i64 n0, .int .i64 n1, .int .i64 n2, .int .i64 n3, .int .i64 n4, .int .i64 n5] 54))
  have HR3 := Aside0.mk (lab_below HR2.out ((Below.refl w2.heap.size w2).alloc (Nat.le_refl _) (.cells #[.int .i64 n0, .int .i64 n1, .int .i64 n2, .int .i64 n3, .int .i64 n4, .int .i64 n5] 54)))
  have HL3 := Aside0.mk (show LabAt (w2.alloc (.cells #[.int .i64 n0, .int .i64 n1, .int .i64 n2, .int .i64 n3, .int .i64 n4, .int .i64 n5] 54)) w2.heap.size [n0, n1, n2, n3, n4, n5] from heap_alloc_new w2 _)
  have HLT := Aside0.mk HB2.out.size
  clear hb2 HRead
  have HRx := HR3
  have HBx := HB3
  have HF := Aside0.mk (setRow_heap_at (w2.alloc (.cells #[.int .i64 n0, .int .i64 n1, .int .i64 n2, .int .i64 n3, .int .i64 n4, .int .i64 n5] 54)) w.heap.size #[.int .i64 0, .int .i64 0, .int .i64 0, .int .i64 0, .int .i64 0, .int .i64 0] _ 54 (0, 0) HRx.out)
  have HBF := Aside0.mk (setRow_below HBx.out (Nat.le_refl _) #[.int .i64 0, .int .i64 0, .int .i64 0, .int .i64 0, .int .i64 0, .int .i64 0])
  go_wp2_with (refine wpList_store_row rfl 54 (.tmp 2) (.tmp 47) rfl w.heap.size #[.int .i64 0, .int .i64 0, .int .i64 0, .int .i64 0, .int .i64 0, .int .i64 0] rfl rfl 54 _ HRx.out (by kernel_rfl) rfl (six_one 0 0 0 0 0 0) ?_)
  refine bodyPost_ret (results_open rfl _ _ w.heap.size 54 #[.int .i64 0, .int .i64 0, .int .i64 0, .int .i64 0, .int .i64 0, .int .i64 0] (0, 0) _ rfl HF.out Tryd.underlying54 rfl (by kernel_rfl)) rfl ?_
  exact ⟨none, 0, rfl, Nat.le_refl _, C_none .u8 w, HBF.out⟩
set_option maxHeartbeats 8000000 in
set_option maxRecDepth 100000 in
theorem open_over (A : Option Addr) (n c : Nat) (v : List Int) (w : World) (hr : Kd.C (Kd.int .u8) w A n v) (hc : n ≤ c) (hb : ∀ x ∈ v, 0 ≤ x ∧ x ≤ 255) (hn : 512 ≤ n) (hn2 : n ≤ 100000) (n0 n1 n2 n4 n5 : Int) (s : Nat) (hns : readNs (v.take 512) = [n0, n1, n2, (s : Int), n4, n5]) (hgood : goodB [n0, n1, n2, (s : Int), n4, n5] (v.take 512) = true) (hs : n - 512 < s) : Calls Tryd.prog 23 #[.slice A n c] w (OPost w (z6, [], 15)) := by
  have HNS := Aside0.mk hns
  have HGD := Aside0.mk hgood
  have HY := Aside0.mk hb
  have HV := Aside0.mk (C_len hr)
  have HR := Aside0.mk hr
  have hsl := fun W => cut_run_to A c n 512 (by omega) hc 512 rfl W
  have hsl2 := fun W => cut_run_from A c n 512 (by omega) 512 rfl W
  have hread := fun (W : World) (hW : Below w.heap.size w W) => read_calls A c (v.take 512) W (C_firsts (Kd.C_below HR.out hW) (by omega)) (by omega) (fun x hx => HY.out x (List.mem_of_mem_take hx))
  have HRead := Aside0.mk hread
  have hCr := cut_C (c := c) (f := 512) (s := n - 512) hr (by omega) hc
  have epart : Read.part v 512 (n - 512) = v.drop 512 := by unfold Read.part; rw [show 512 + (n - 512) = n by omega, List.take_of_length_le (by rw [HV.out]; exact Nat.le_refl _)]
  rw [epart] at hCr
  have HC := Aside0.mk hCr
  clear hns hgood hb hr hread hCr epart
  go_enter Tryd.func23, Tryd.ntmps23
  go_wp2_with fail
  have HB0 := Aside0.mk ((Below.refl w.heap.size w).alloc (Nat.le_refl _) (.cells #[.int .i64 0, .int .i64 0, .int .i64 0, .int .i64 0, .int .i64 0, .int .i64 0] 54))
  have HR0 := Aside0.mk (show LabAt (w.alloc (.cells #[.int .i64 0, .int .i64 0, .int .i64 0, .int .i64 0, .int .i64 0, .int .i64 0] 54)) w.heap.size z6 from heap_alloc_new w _)
  generalize w.alloc (.cells #[.int .i64 0, .int .i64 0, .int .i64 0, .int .i64 0, .int .i64 0, .int .i64 0] 54) = wa at HB0 HR0 ⊢
  refine (HRead.out wa HB0.out).mono ?_
  rintro e w2 ⟨rfl, hb2⟩
  rw [HNS.out, HGD.out, show (nums .i64 [n0, n1, n2, (s : Int), n4, n5]).toArray = #[.int .i64 n0, .int .i64 n1, .int .i64 n2, .int .i64 (s : Int), .int .i64 n4, .int .i64 n5] from rfl]
  have HB2 := Aside0.mk (HB0.out.trans (hb2.mono HB0.out.size))
  have HR2 := Aside0.mk (lab_below HR0.out hb2)
  have HB3 := Aside0.mk ((HB2.out).alloc HB2.out.size (.cells #[.int .i64 n0, .int .i64 n1, .int .i64 n2, .int .i64 (s : Int), .int .i64 n4, .int .i64 n5] 54))
  have HR3 := Aside0.mk (lab_below HR2.out ((Below.refl w2.heap.size w2).alloc (Nat.le_refl _) (.cells #[.int .i64 n0, .int .i64 n1, .int .i64 n2, .int .i64 (s : Int), .int .i64 n4, .int .i64 n5] 54)))
  have HL3 := Aside0.mk (show LabAt (w2.alloc (.cells #[.int .i64 n0, .int .i64 n1, .int .i64 n2, .int .i64 (s : Int), .int .i64 n4, .int .i64 n5] 54)) w2.heap.size [n0, n1, n2, (s : Int), n4, n5] from heap_alloc_new w2 _)
  have HLT := Aside0.mk HB2.out.size
  clear hb2 HRead
  have HRx := HR3
  have HBx := HB3
  have HF := Aside0.mk (setRow_heap_at (w2.alloc (.cells #[.int .i64 n0, .int .i64 n1, .int .i64 n2, .int .i64 (s : Int), .int .i64 n4, .int .i64 n5] 54)) w.heap.size #[.int .i64 0, .int .i64 0, .int .i64 0, .int .i64 0, .int .i64 0, .int .i64 0] _ 54 (0, 0) HRx.out)
  have HBF := Aside0.mk (setRow_below HBx.out (Nat.le_refl _) #[.int .i64 0, .int .i64 0, .int .i64 0, .int .i64 0, .int .i64 0, .int .i64 0])
  go_wp2_with (refine wpList_store_row rfl 54 (.tmp 2) (.tmp 47) rfl w.heap.size #[.int .i64 0, .int .i64 0, .int .i64 0, .int .i64 0, .int .i64 0, .int .i64 0] rfl rfl 54 _ HRx.out (by kernel_rfl) rfl (six_one 0 0 0 0 0 0) ?_)
  refine bodyPost_ret (results_open rfl _ _ w.heap.size 54 #[.int .i64 0, .int .i64 0, .int .i64 0, .int .i64 0, .int .i64 0, .int .i64 0] (0, 0) _ rfl HF.out Tryd.underlying54 rfl (by kernel_rfl)) rfl ?_
  exact ⟨none, 0, rfl, Nat.le_refl _, C_none .u8 w, HBF.out⟩
set_option maxHeartbeats 8000000 in
set_option maxRecDepth 100000 in
theorem open_size (A : Option Addr) (n c : Nat) (v : List Int) (w : World) (hr : Kd.C (Kd.int .u8) w A n v) (hc : n ≤ c) (hb : ∀ x ∈ v, 0 ≤ x ∧ x ≤ 255) (hn : 512 ≤ n) (hn2 : n ≤ 100000) (n0 n1 n2 n4 n5 : Int) (s : Nat) (hns : readNs (v.take 512) = [n0, n1, n2, (s : Int), n4, n5]) (hgood : goodB [n0, n1, n2, (s : Int), n4, n5] (v.take 512) = true) (hs : s ≤ n - 512) (hbl : ¬ blocksOf s * 512 = n - 512) : Calls Tryd.prog 23 #[.slice A n c] w (OPost w (z6, [], 15)) := by
  have HNS := Aside0.mk hns
  have HGD := Aside0.mk hgood
  have HY := Aside0.mk hb
  have HV := Aside0.mk (C_len hr)
  have HR := Aside0.mk hr
  have hsl := fun W => cut_run_to A c n 512 (by omega) hc 512 rfl W
  have hsl2 := fun W => cut_run_from A c n 512 (by omega) 512 rfl W
  have hread := fun (W : World) (hW : Below w.heap.size w W) => read_calls A c (v.take 512) W (C_firsts (Kd.C_below HR.out hW) (by omega)) (by omega) (fun x hx => HY.out x (List.mem_of_mem_take hx))
  have HRead := Aside0.mk hread
  have hCr := cut_C (c := c) (f := 512) (s := n - 512) hr (by omega) hc
  have epart : Read.part v 512 (n - 512) = v.drop 512 := by unfold Read.part; rw [show 512 + (n - 512) = n by omega, List.take_of_length_le (by rw [HV.out]; exact Nat.le_refl _)]
  rw [epart] at hCr
  have HC := Aside0.mk hCr
  have hbs : blocksOf s ≤ 1000 := by unfold blocksOf; omega
  clear hns hgood hb hr hread hCr epart
  go_enter Tryd.func23, Tryd.ntmps23
  go_wp2_with fail
  have HB0 := Aside0.mk ((Below.refl w.heap.size w).alloc (Nat.le_refl _) (.cells #[.int .i64 0, .int .i64 0, .int .i64 0, .int .i64 0, .int .i64 0, .int .i64 0] 54))
  have HR0 := Aside0.mk (show LabAt (w.alloc (.cells #[.int .i64 0, .int .i64 0, .int .i64 0, .int .i64 0, .int .i64 0, .int .i64 0] 54)) w.heap.size z6 from heap_alloc_new w _)
  generalize w.alloc (.cells #[.int .i64 0, .int .i64 0, .int .i64 0, .int .i64 0, .int .i64 0, .int .i64 0] 54) = wa at HB0 HR0 ⊢
  refine (HRead.out wa HB0.out).mono ?_
  rintro e w2 ⟨rfl, hb2⟩
  rw [HNS.out, HGD.out, show (nums .i64 [n0, n1, n2, (s : Int), n4, n5]).toArray = #[.int .i64 n0, .int .i64 n1, .int .i64 n2, .int .i64 (s : Int), .int .i64 n4, .int .i64 n5] from rfl]
  have HB2 := Aside0.mk (HB0.out.trans (hb2.mono HB0.out.size))
  have HR2 := Aside0.mk (lab_below HR0.out hb2)
  have HB3 := Aside0.mk ((HB2.out).alloc HB2.out.size (.cells #[.int .i64 n0, .int .i64 n1, .int .i64 n2, .int .i64 (s : Int), .int .i64 n4, .int .i64 n5] 54))
  have HR3 := Aside0.mk (lab_below HR2.out ((Below.refl w2.heap.size w2).alloc (Nat.le_refl _) (.cells #[.int .i64 n0, .int .i64 n1, .int .i64 n2, .int .i64 (s : Int), .int .i64 n4, .int .i64 n5] 54)))
  have HL3 := Aside0.mk (show LabAt (w2.alloc (.cells #[.int .i64 n0, .int .i64 n1, .int .i64 n2, .int .i64 (s : Int), .int .i64 n4, .int .i64 n5] 54)) w2.heap.size [n0, n1, n2, (s : Int), n4, n5] from heap_alloc_new w2 _)
  have HLT := Aside0.mk HB2.out.size
  clear hb2 HRead
  go_wp2_with fail
  refine (blocks_calls s (by omega) _).mono ?_
  rintro e w4 ⟨rfl, hb4⟩
  have HB4 := Aside0.mk (HB3.out.trans (hb4.mono HB3.out.size))
  have HR4 := Aside0.mk (lab_below HR3.out hb4)
  have HL4 := Aside0.mk (lab_below HL3.out hb4)
  clear hb4
  have hne : ((((blocksOf s : Nat) : Int) * 512) != ((n - 512 : Nat) : Int)) = true := by simp; omega
  have HRx := HR4
  have HBx := HB4
  have HF := Aside0.mk (setRow_heap_at w4 w.heap.size #[.int .i64 0, .int .i64 0, .int .i64 0, .int .i64 0, .int .i64 0, .int .i64 0] _ 54 (0, 0) HRx.out)
  have HBF := Aside0.mk (setRow_below HBx.out (Nat.le_refl _) #[.int .i64 0, .int .i64 0, .int .i64 0, .int .i64 0, .int .i64 0, .int .i64 0])
  go_wp2_with (refine wpList_store_row rfl 54 (.tmp 2) (.tmp 47) rfl w.heap.size #[.int .i64 0, .int .i64 0, .int .i64 0, .int .i64 0, .int .i64 0, .int .i64 0] rfl rfl 54 _ HRx.out (by kernel_rfl) rfl (six_one 0 0 0 0 0 0) ?_)
  refine bodyPost_ret (results_open rfl _ _ w.heap.size 54 #[.int .i64 0, .int .i64 0, .int .i64 0, .int .i64 0, .int .i64 0, .int .i64 0] (0, 0) _ rfl HF.out Tryd.underlying54 rfl (by kernel_rfl)) rfl ?_
  exact ⟨none, 0, rfl, Nat.le_refl _, C_none .u8 w, HBF.out⟩
set_option maxHeartbeats 8000000 in
set_option maxRecDepth 100000 in
theorem open_full (A : Option Addr) (n c : Nat) (v : List Int) (w : World) (hr : Kd.C (Kd.int .u8) w A n v) (hc : n ≤ c) (hb : ∀ x ∈ v, 0 ≤ x ∧ x ≤ 255) (hn : 512 ≤ n) (hn2 : n ≤ 100000) (n0 n1 n2 n4 n5 : Int) (s : Nat) (hns : readNs (v.take 512) = [n0, n1, n2, (s : Int), n4, n5]) (hgood : goodB [n0, n1, n2, (s : Int), n4, n5] (v.take 512) = true) (hs : s ≤ n - 512) (hbl : blocksOf s * 512 = n - 512) (hbk : BlkP.blank ((v.drop 512).drop s) = false) : Calls Tryd.prog 23 #[.slice A n c] w (OPost w (z6, [], 15)) := by
  have HNS := Aside0.mk hns
  have HGD := Aside0.mk hgood
  have HY := Aside0.mk hb
  have HV := Aside0.mk (C_len hr)
  have HR := Aside0.mk hr
  have hsl := fun W => cut_run_to A c n 512 (by omega) hc 512 rfl W
  have hsl2 := fun W => cut_run_from A c n 512 (by omega) 512 rfl W
  have hread := fun (W : World) (hW : Below w.heap.size w W) => read_calls A c (v.take 512) W (C_firsts (Kd.C_below HR.out hW) (by omega)) (by omega) (fun x hx => HY.out x (List.mem_of_mem_take hx))
  have HRead := Aside0.mk hread
  have hCr := cut_C (c := c) (f := 512) (s := n - 512) hr (by omega) hc
  have epart : Read.part v 512 (n - 512) = v.drop 512 := by unfold Read.part; rw [show 512 + (n - 512) = n by omega, List.take_of_length_le (by rw [HV.out]; exact Nat.le_refl _)]
  rw [epart] at hCr
  have HC := Aside0.mk hCr
  have hbs : blocksOf s ≤ 1000 := by unfold blocksOf; omega
  have hCd := fun (W : World) (hW : Below w.heap.size w W) => cut_C (c := c - 512) (f := s) (s := n - 512 - s) (Kd.C_below HC.out hW) (by omega) (by omega)
  have epart2 : Read.part (v.drop 512) s (n - 512 - s) = (v.drop 512).drop s := by unfold Read.part; rw [show s + (n - 512 - s) = n - 512 by omega, List.take_of_length_le (by rw [List.length_drop, HV.out]; exact Nat.le_refl _)]
  rw [epart2] at hCd
  have HCd := Aside0.mk hCd
  have HBL := Aside0.mk hbk
  clear hCd epart2 hbk
  clear hns hgood hb hr hread hCr epart
  go_enter Tryd.func23, Tryd.ntmps23
  go_wp2_with fail
  have HB0 := Aside0.mk ((Below.refl w.heap.size w).alloc (Nat.le_refl _) (.cells #[.int .i64 0, .int .i64 0, .int .i64 0, .int .i64 0, .int .i64 0, .int .i64 0] 54))
  have HR0 := Aside0.mk (show LabAt (w.alloc (.cells #[.int .i64 0, .int .i64 0, .int .i64 0, .int .i64 0, .int .i64 0, .int .i64 0] 54)) w.heap.size z6 from heap_alloc_new w _)
  generalize w.alloc (.cells #[.int .i64 0, .int .i64 0, .int .i64 0, .int .i64 0, .int .i64 0, .int .i64 0] 54) = wa at HB0 HR0 ⊢
  refine (HRead.out wa HB0.out).mono ?_
  rintro e w2 ⟨rfl, hb2⟩
  rw [HNS.out, HGD.out, show (nums .i64 [n0, n1, n2, (s : Int), n4, n5]).toArray = #[.int .i64 n0, .int .i64 n1, .int .i64 n2, .int .i64 (s : Int), .int .i64 n4, .int .i64 n5] from rfl]
  have HB2 := Aside0.mk (HB0.out.trans (hb2.mono HB0.out.size))
  have HR2 := Aside0.mk (lab_below HR0.out hb2)
  have HB3 := Aside0.mk ((HB2.out).alloc HB2.out.size (.cells #[.int .i64 n0, .int .i64 n1, .int .i64 n2, .int .i64 (s : Int), .int .i64 n4, .int .i64 n5] 54))
  have HR3 := Aside0.mk (lab_below HR2.out ((Below.refl w2.heap.size w2).alloc (Nat.le_refl _) (.cells #[.int .i64 n0, .int .i64 n1, .int .i64 n2, .int .i64 (s : Int), .int .i64 n4, .int .i64 n5] 54)))
  have HL3 := Aside0.mk (show LabAt (w2.alloc (.cells #[.int .i64 n0, .int .i64 n1, .int .i64 n2, .int .i64 (s : Int), .int .i64 n4, .int .i64 n5] 54)) w2.heap.size [n0, n1, n2, (s : Int), n4, n5] from heap_alloc_new w2 _)
  have HLT := Aside0.mk HB2.out.size
  clear hb2 HRead
  go_wp2_with fail
  refine (blocks_calls s (by omega) _).mono ?_
  rintro e w4 ⟨rfl, hb4⟩
  have HB4 := Aside0.mk (HB3.out.trans (hb4.mono HB3.out.size))
  have HR4 := Aside0.mk (lab_below HR3.out hb4)
  have HL4 := Aside0.mk (lab_below HL3.out hb4)
  clear hb4
  have hcell := lab_cell HL4.out 3 (by simp)
  simp only [List.getElem_cons_succ, List.getElem_cons_zero] at hcell
  have hsl3 := fun W => cut_run_from (cutAt A c 512) (c - 512) (n - 512) s hs (s : Int) rfl W
  have HBk := Aside0.mk (blank_calls (cutAt (cutAt A c 512) (c - 512) s) (n - 512 - s) (c - 512 - s) ((v.drop 512).drop s) w4 (HCd.out w4 HB4.out) (by omega) (by omega))
  have hne : ((((blocksOf s : Nat) : Int) * 512) != ((n - 512 : Nat) : Int)) = false := by simp; omega
  go_wp2_with fail
  refine HBk.out.mono ?_
  clear HBk
  rintro e w5 ⟨rfl, hb5⟩
  rw [HBL.out]
  have HB5 := Aside0.mk (HB4.out.trans (hb5.mono HB4.out.size))
  have HR5 := Aside0.mk (lab_below HR4.out hb5)
  have HL5 := Aside0.mk (lab_below HL4.out hb5)
  clear hb5 hcell
  have HRx := HR5
  have HBx := HB5
  have HF := Aside0.mk (setRow_heap_at w5 w.heap.size #[.int .i64 0, .int .i64 0, .int .i64 0, .int .i64 0, .int .i64 0, .int .i64 0] _ 54 (0, 0) HRx.out)
  have HBF := Aside0.mk (setRow_below HBx.out (Nat.le_refl _) #[.int .i64 0, .int .i64 0, .int .i64 0, .int .i64 0, .int .i64 0, .int .i64 0])
  go_wp2_with (refine wpList_store_row rfl 54 (.tmp 2) (.tmp 47) rfl w.heap.size #[.int .i64 0, .int .i64 0, .int .i64 0, .int .i64 0, .int .i64 0, .int .i64 0] rfl rfl 54 _ HRx.out (by kernel_rfl) rfl (six_one 0 0 0 0 0 0) ?_)
  refine bodyPost_ret (results_open rfl _ _ w.heap.size 54 #[.int .i64 0, .int .i64 0, .int .i64 0, .int .i64 0, .int .i64 0, .int .i64 0] (0, 0) _ rfl HF.out Tryd.underlying54 rfl (by kernel_rfl)) rfl ?_
  exact ⟨none, 0, rfl, Nat.le_refl _, C_none .u8 w, HBF.out⟩
set_option maxHeartbeats 8000000 in
set_option maxRecDepth 100000 in
theorem open_sum (A : Option Addr) (n c : Nat) (v : List Int) (w : World) (hr : Kd.C (Kd.int .u8) w A n v) (hc : n ≤ c) (hb : ∀ x ∈ v, 0 ≤ x ∧ x ≤ 255) (hn : 512 ≤ n) (hn2 : n ≤ 100000) (n0 n1 n2 n4 n5 : Int) (s : Nat) (hns : readNs (v.take 512) = [n0, n1, n2, (s : Int), n4, n5]) (hgood : goodB [n0, n1, n2, (s : Int), n4, n5] (v.take 512) = true) (hs : s ≤ n - 512) (hbl : blocksOf s * 512 = n - 512) (hbk : BlkP.blank ((v.drop 512).drop s) = true) (hcs : ¬ (crcSum ((v.drop 512).take s) : Int) = n5) : Calls Tryd.prog 23 #[.slice A n c] w (OPost w (z6, [], 4)) := by
  have HNS := Aside0.mk hns
  have HGD := Aside0.mk hgood
  have HY := Aside0.mk hb
  have HV := Aside0.mk (C_len hr)
  have HR := Aside0.mk hr
  have hsl := fun W => cut_run_to A c n 512 (by omega) hc 512 rfl W
  have hsl2 := fun W => cut_run_from A c n 512 (by omega) 512 rfl W
  have hread := fun (W : World) (hW : Below w.heap.size w W) => read_calls A c (v.take 512) W (C_firsts (Kd.C_below HR.out hW) (by omega)) (by omega) (fun x hx => HY.out x (List.mem_of_mem_take hx))
  have HRead := Aside0.mk hread
  have hCr := cut_C (c := c) (f := 512) (s := n - 512) hr (by omega) hc
  have epart : Read.part v 512 (n - 512) = v.drop 512 := by unfold Read.part; rw [show 512 + (n - 512) = n by omega, List.take_of_length_le (by rw [HV.out]; exact Nat.le_refl _)]
  rw [epart] at hCr
  have HC := Aside0.mk hCr
  have hbs : blocksOf s ≤ 1000 := by unfold blocksOf; omega
  have hCd := fun (W : World) (hW : Below w.heap.size w W) => cut_C (c := c - 512) (f := s) (s := n - 512 - s) (Kd.C_below HC.out hW) (by omega) (by omega)
  have epart2 : Read.part (v.drop 512) s (n - 512 - s) = (v.drop 512).drop s := by unfold Read.part; rw [show s + (n - 512 - s) = n - 512 by omega, List.take_of_length_le (by rw [List.length_drop, HV.out]; exact Nat.le_refl _)]
  rw [epart2] at hCd
  have HCd := Aside0.mk hCd
  have HBL := Aside0.mk hbk
  clear hCd epart2 hbk
  clear hns hgood hb hr hread hCr epart
  go_enter Tryd.func23, Tryd.ntmps23
  go_wp2_with fail
  have HB0 := Aside0.mk ((Below.refl w.heap.size w).alloc (Nat.le_refl _) (.cells #[.int .i64 0, .int .i64 0, .int .i64 0, .int .i64 0, .int .i64 0, .int .i64 0] 54))
  have HR0 := Aside0.mk (show LabAt (w.alloc (.cells #[.int .i64 0, .int .i64 0, .int .i64 0, .int .i64 0, .int .i64 0, .int .i64 0] 54)) w.heap.size z6 from heap_alloc_new w _)
  generalize w.alloc (.cells #[.int .i64 0, .int .i64 0, .int .i64 0, .int .i64 0, .int .i64 0, .int .i64 0] 54) = wa at HB0 HR0 ⊢
  refine (HRead.out wa HB0.out).mono ?_
  rintro e w2 ⟨rfl, hb2⟩
  rw [HNS.out, HGD.out, show (nums .i64 [n0, n1, n2, (s : Int), n4, n5]).toArray = #[.int .i64 n0, .int .i64 n1, .int .i64 n2, .int .i64 (s : Int), .int .i64 n4, .int .i64 n5] from rfl]
  have HB2 := Aside0.mk (HB0.out.trans (hb2.mono HB0.out.size))
  have HR2 := Aside0.mk (lab_below HR0.out hb2)
  have HB3 := Aside0.mk ((HB2.out).alloc HB2.out.size (.cells #[.int .i64 n0, .int .i64 n1, .int .i64 n2, .int .i64 (s : Int), .int .i64 n4, .int .i64 n5] 54))
  have HR3 := Aside0.mk (lab_below HR2.out ((Below.refl w2.heap.size w2).alloc (Nat.le_refl _) (.cells #[.int .i64 n0, .int .i64 n1, .int .i64 n2, .int .i64 (s : Int), .int .i64 n4, .int .i64 n5] 54)))
  have HL3 := Aside0.mk (show LabAt (w2.alloc (.cells #[.int .i64 n0, .int .i64 n1, .int .i64 n2, .int .i64 (s : Int), .int .i64 n4, .int .i64 n5] 54)) w2.heap.size [n0, n1, n2, (s : Int), n4, n5] from heap_alloc_new w2 _)
  have HLT := Aside0.mk HB2.out.size
  clear hb2 HRead
  go_wp2_with fail
  refine (blocks_calls s (by omega) _).mono ?_
  rintro e w4 ⟨rfl, hb4⟩
  have HB4 := Aside0.mk (HB3.out.trans (hb4.mono HB3.out.size))
  have HR4 := Aside0.mk (lab_below HR3.out hb4)
  have HL4 := Aside0.mk (lab_below HL3.out hb4)
  clear hb4
  have hcell := lab_cell HL4.out 3 (by simp)
  simp only [List.getElem_cons_succ, List.getElem_cons_zero] at hcell
  have hsl3 := fun W => cut_run_from (cutAt A c 512) (c - 512) (n - 512) s hs (s : Int) rfl W
  have HBk := Aside0.mk (blank_calls (cutAt (cutAt A c 512) (c - 512) s) (n - 512 - s) (c - 512 - s) ((v.drop 512).drop s) w4 (HCd.out w4 HB4.out) (by omega) (by omega))
  have hne : ((((blocksOf s : Nat) : Int) * 512) != ((n - 512 : Nat) : Int)) = false := by simp; omega
  go_wp2_with fail
  refine HBk.out.mono ?_
  clear HBk
  rintro e w5 ⟨rfl, hb5⟩
  rw [HBL.out]
  have HB5 := Aside0.mk (HB4.out.trans (hb5.mono HB4.out.size))
  have HR5 := Aside0.mk (lab_below HR4.out hb5)
  have HL5 := Aside0.mk (lab_below HL4.out hb5)
  clear hb5 hcell
  have hcell := lab_cell HL5.out 3 (by simp)
  have hcell5 := lab_cell HL5.out 5 (by simp)
  simp only [List.getElem_cons_succ, List.getElem_cons_zero] at hcell hcell5
  have hsl4 := fun W => cut_run_to (cutAt A c 512) (c - 512) (n - 512) s hs (by omega) (s : Int) rfl W
  have HS5 := Aside0.mk (show Hid (Below w.heap.size w w5.drew ∧ LabAt w5.drew w.heap.size z6 ∧ LabAt w5.drew w2.heap.size [n0, n1, n2, (s : Int), n4, n5]) ∧ w5.drew.cell? ⟨w2.heap.size, 5, none⟩ = some (.int .i64 n5) from ⟨Lib.hid ⟨HB5.out.drew, HR5.out, HL5.out⟩, hcell5⟩)
  have HSm := Aside0.mk (sum_any (cutAt A c 512) s (c - 512) ((v.drop 512).take s) w5.drew (C_firsts (Kd.C_below HC.out HB5.out.drew) hs) (by omega) (fun x hx => HY.out x (List.mem_of_mem_drop (List.mem_of_mem_take hx))))
  go_wp2_with fail
  refine wp_region_held_drew (S := (fun W : World => Hid (Below w.heap.size w W ∧ LabAt W w.heap.size z6 ∧ LabAt W w2.heap.size [n0, n1, n2, (s : Int), n4, n5]) ∧ W.cell? ⟨w2.heap.size, 5, none⟩ = some (.int .i64 n5))) (by kernel_rfl) ?_ (fun hHeld => ?_)
  · exact HS5.out
  refine wpAnyH_take (i := 0) (v := ?_) rfl (by kernel_rfl) (by kernel_rfl) (by kernel_rfl) (fun _ _ _ h => h) (Or.inl ⟨by rfl, ?_⟩) (by assumption) ?_; rotate_left; focus (intro w hSw; (try dsimp only at hSw); simp only [List.getElem_toArray, List.getElem_cons_succ, List.getElem_cons_zero]; go_simp; (try (with_reducible rfl)))
  simp only [List.getElem_toArray, List.getElem_cons_succ, List.getElem_cons_zero, Act.put, List.setIfInBounds_toArray, List.set_cons_zero, List.set_cons_succ]
  refine wpAnyH_take (i := 3) (v := ?_) rfl (by kernel_rfl) (by kernel_rfl) (by kernel_rfl) (fun _ _ _ h => h) (Or.inl ⟨by rfl, ?_⟩) (by assumption) ?_; rotate_left; focus (intro w hSw; (try dsimp only at hSw); simp only [List.getElem_toArray, List.getElem_cons_succ, List.getElem_cons_zero]; go_simp; (try (with_reducible rfl)))
  simp only [List.getElem_toArray, List.getElem_cons_succ, List.getElem_cons_zero, Act.put, List.setIfInBounds_toArray, List.set_cons_zero, List.set_cons_succ]
  refine wpAnyH_take (i := 4) (v := ?_) rfl (by kernel_rfl) (by kernel_rfl) (by kernel_rfl) (fun _ _ _ h => h) (Or.inl ⟨by rfl, ?_⟩) (by assumption) ?_; rotate_left; focus (intro w hSw; (try dsimp only at hSw); simp only [List.getElem_toArray, List.getElem_cons_succ, List.getElem_cons_zero]; go_simp; (try (with_reducible rfl)))
  simp only [List.getElem_toArray, List.getElem_cons_succ, List.getElem_cons_zero, Act.put, List.setIfInBounds_toArray, List.set_cons_zero, List.set_cons_succ]
  refine wpAnyH_ready (rs := [1]) (by kernel_rfl) (by simp) ?_
  refine AllReadyH.cons rfl (fun K hK => ?_) AllReadyH.nil
  go_simp
  (with_reducible refine (HSm.out).mono ?_)
  rintro e w6 ⟨rfl, hb6⟩
  refine hK.out _ _ ⟨Lib.hid ⟨HB5.out.drew.trans (hb6.mono HB5.out.drew.size), lab_below (w := w5.drew) HR5.out hb6, lab_below (w := w5.drew) HL5.out hb6⟩, pw_cell_below hb6 hcell5⟩ (fun hHeld => ?_)
  clear hK K
  try simp only [List.getElem_toArray, List.getElem_cons_succ, List.getElem_cons_zero, Act.put, List.setIfInBounds_toArray, List.set_cons_zero, List.set_cons_succ]
  have hcv : IntKind.i64.wrap ((crcSum ((v.drop 512).take s) : Nat) : Int) = ((crcSum ((v.drop 512).take s) : Nat) : Int) := by rw [IntKind.wrap_i64]; have := crcSum_lt ((v.drop 512).take s) (fun x hx => HY.out x (List.mem_of_mem_drop (List.mem_of_mem_take hx))); omega
  refine wpAnyH_take (i := 2) (v := ?_) rfl (by kernel_rfl) (by kernel_rfl) (by kernel_rfl) (fun _ _ _ h => h) (Or.inl ⟨by rfl, ?_⟩) (by assumption) ?_; rotate_left; focus (intro w hSw; (try dsimp only at hSw); simp only [List.getElem_toArray, List.getElem_cons_succ, List.getElem_cons_zero]; go_simp; (try (with_reducible rfl)))
  simp only [List.getElem_toArray, List.getElem_cons_succ, List.getElem_cons_zero, Act.put, List.setIfInBounds_toArray, List.set_cons_zero, List.set_cons_succ]
  refine wpAnyH_take (i := 5) (v := ?_) rfl (by kernel_rfl) (by kernel_rfl) (by kernel_rfl) (fun _ _ _ h => h) (Or.inl ⟨by rfl, ?_⟩) (by assumption) ?_; rotate_left; focus (intro w hSw; (try dsimp only at hSw); simp only [List.getElem_toArray, List.getElem_cons_succ, List.getElem_cons_zero]; go_simp; (try (with_reducible rfl)))
  simp only [List.getElem_toArray, List.getElem_cons_succ, List.getElem_cons_zero, Act.put, List.setIfInBounds_toArray, List.set_cons_zero, List.set_cons_succ]
  refine wpAnyH_done (by kernel_rfl) ?_ _
  have HB6 := Aside0.mk hHeld.1.out.1
  have HR6 := Aside0.mk hHeld.1.out.2.1
  have HL6 := Aside0.mk hHeld.1.out.2.2
  clear hHeld hb6
  have hcn : (((crcSum ((v.drop 512).take s) : Nat) : Int) != n5) = true := by simpa using hcs
  have HRx := HR6
  have HBx := HB6
  have HF := Aside0.mk (setRow_heap_at w6 w.heap.size #[.int .i64 0, .int .i64 0, .int .i64 0, .int .i64 0, .int .i64 0, .int .i64 0] _ 54 (0, 0) HRx.out)
  have HBF := Aside0.mk (setRow_below HBx.out (Nat.le_refl _) #[.int .i64 0, .int .i64 0, .int .i64 0, .int .i64 0, .int .i64 0, .int .i64 0])
  go_wp2_with (refine wpList_store_row rfl 54 (.tmp 2) (.tmp 58) rfl w.heap.size #[.int .i64 0, .int .i64 0, .int .i64 0, .int .i64 0, .int .i64 0, .int .i64 0] rfl rfl 54 _ HRx.out (by kernel_rfl) rfl (six_one 0 0 0 0 0 0) ?_)
  refine bodyPost_ret (results_open rfl _ _ w.heap.size 54 #[.int .i64 0, .int .i64 0, .int .i64 0, .int .i64 0, .int .i64 0, .int .i64 0] (0, 0) _ rfl HF.out Tryd.underlying54 rfl (by kernel_rfl)) rfl ?_
  exact ⟨none, 0, rfl, Nat.le_refl _, C_none .u8 w, HBF.out⟩
set_option maxHeartbeats 8000000 in
set_option maxRecDepth 100000 in
theorem open_fine (A : Option Addr) (n c : Nat) (v : List Int) (w : World) (hr : Kd.C (Kd.int .u8) w A n v) (hc : n ≤ c) (hb : ∀ x ∈ v, 0 ≤ x ∧ x ≤ 255) (hn : 512 ≤ n) (hn2 : n ≤ 100000) (n0 n1 n2 n4 n5 : Int) (s : Nat) (hns : readNs (v.take 512) = [n0, n1, n2, (s : Int), n4, n5]) (hgood : goodB [n0, n1, n2, (s : Int), n4, n5] (v.take 512) = true) (hs : s ≤ n - 512) (hbl : blocksOf s * 512 = n - 512) (hbk : BlkP.blank ((v.drop 512).drop s) = true) (hcs : (crcSum ((v.drop 512).take s) : Int) = n5) : Calls Tryd.prog 23 #[.slice A n c] w (OPost w ([n0, n1, n2, (s : Int), n4, n5], (v.drop 512).take s, 0)) := by
  have HNS := Aside0.mk hns
  have HGD := Aside0.mk hgood
  have HY := Aside0.mk hb
  have HV := Aside0.mk (C_len hr)
  have HR := Aside0.mk hr
  have hsl := fun W => cut_run_to A c n 512 (by omega) hc 512 rfl W
  have hsl2 := fun W => cut_run_from A c n 512 (by omega) 512 rfl W
  have hread := fun (W : World) (hW : Below w.heap.size w W) => read_calls A c (v.take 512) W (C_firsts (Kd.C_below HR.out hW) (by omega)) (by omega) (fun x hx => HY.out x (List.mem_of_mem_take hx))
  have HRead := Aside0.mk hread
  have hCr := cut_C (c := c) (f := 512) (s := n - 512) hr (by omega) hc
  have epart : Read.part v 512 (n - 512) = v.drop 512 := by unfold Read.part; rw [show 512 + (n - 512) = n by omega, List.take_of_length_le (by rw [HV.out]; exact Nat.le_refl _)]
  rw [epart] at hCr
  have HC := Aside0.mk hCr
  have hbs : blocksOf s ≤ 1000 := by unfold blocksOf; omega
  have hCd := fun (W : World) (hW : Below w.heap.size w W) => cut_C (c := c - 512) (f := s) (s := n - 512 - s) (Kd.C_below HC.out hW) (by omega) (by omega)
  have epart2 : Read.part (v.drop 512) s (n - 512 - s) = (v.drop 512).drop s := by unfold Read.part; rw [show s + (n - 512 - s) = n - 512 by omega, List.take_of_length_le (by rw [List.length_drop, HV.out]; exact Nat.le_refl _)]
  rw [epart2] at hCd
  have HCd := Aside0.mk hCd
  have HBL := Aside0.mk hbk
  clear hCd epart2 hbk
  have hcn : (((crcSum ((v.drop 512).take s) : Nat) : Int) != n5) = false := by simpa using hcs
  clear hcs
  clear hns hgood hb hr hread hCr epart
  go_enter Tryd.func23, Tryd.ntmps23
  go_wp2_with fail
  have HB0 := Aside0.mk ((Below.refl w.heap.size w).alloc (Nat.le_refl _) (.cells #[.int .i64 0, .int .i64 0, .int .i64 0, .int .i64 0, .int .i64 0, .int .i64 0] 54))
  have HR0 := Aside0.mk (show LabAt (w.alloc (.cells #[.int .i64 0, .int .i64 0, .int .i64 0, .int .i64 0, .int .i64 0, .int .i64 0] 54)) w.heap.size z6 from heap_alloc_new w _)
  generalize w.alloc (.cells #[.int .i64 0, .int .i64 0, .int .i64 0, .int .i64 0, .int .i64 0, .int .i64 0] 54) = wa at HB0 HR0 ⊢
  refine (HRead.out wa HB0.out).mono ?_
  rintro e w2 ⟨rfl, hb2⟩
  rw [HNS.out, HGD.out, show (nums .i64 [n0, n1, n2, (s : Int), n4, n5]).toArray = #[.int .i64 n0, .int .i64 n1, .int .i64 n2, .int .i64 (s : Int), .int .i64 n4, .int .i64 n5] from rfl]
  have HB2 := Aside0.mk (HB0.out.trans (hb2.mono HB0.out.size))
  have HR2 := Aside0.mk (lab_below HR0.out hb2)
  have HB3 := Aside0.mk ((HB2.out).alloc HB2.out.size (.cells #[.int .i64 n0, .int .i64 n1, .int .i64 n2, .int .i64 (s : Int), .int .i64 n4, .int .i64 n5] 54))
  have HR3 := Aside0.mk (lab_below HR2.out ((Below.refl w2.heap.size w2).alloc (Nat.le_refl _) (.cells #[.int .i64 n0, .int .i64 n1, .int .i64 n2, .int .i64 (s : Int), .int .i64 n4, .int .i64 n5] 54)))
  have HL3 := Aside0.mk (show LabAt (w2.alloc (.cells #[.int .i64 n0, .int .i64 n1, .int .i64 n2, .int .i64 (s : Int), .int .i64 n4, .int .i64 n5] 54)) w2.heap.size [n0, n1, n2, (s : Int), n4, n5] from heap_alloc_new w2 _)
  have HLT := Aside0.mk HB2.out.size
  clear hb2 HRead
  go_wp2_with fail
  refine (blocks_calls s (by omega) _).mono ?_
  rintro e w4 ⟨rfl, hb4⟩
  have HB4 := Aside0.mk (HB3.out.trans (hb4.mono HB3.out.size))
  have HR4 := Aside0.mk (lab_below HR3.out hb4)
  have HL4 := Aside0.mk (lab_below HL3.out hb4)
  clear hb4
  have hcell := lab_cell HL4.out 3 (by simp)
  simp only [List.getElem_cons_succ, List.getElem_cons_zero] at hcell
  have hsl3 := fun W => cut_run_from (cutAt A c 512) (c - 512) (n - 512) s hs (s : Int) rfl W
  have HBk := Aside0.mk (blank_calls (cutAt (cutAt A c 512) (c - 512) s) (n - 512 - s) (c - 512 - s) ((v.drop 512).drop s) w4 (HCd.out w4 HB4.out) (by omega) (by omega))
  have hne : ((((blocksOf s : Nat) : Int) * 512) != ((n - 512 : Nat) : Int)) = false := by simp; omega
  go_wp2_with fail
  refine HBk.out.mono ?_
  clear HBk
  rintro e w5 ⟨rfl, hb5⟩
  rw [HBL.out]
  have HB5 := Aside0.mk (HB4.out.trans (hb5.mono HB4.out.size))
  have HR5 := Aside0.mk (lab_below HR4.out hb5)
  have HL5 := Aside0.mk (lab_below HL4.out hb5)
  clear hb5 hcell
  have hcell := lab_cell HL5.out 3 (by simp)
  have hcell5 := lab_cell HL5.out 5 (by simp)
  simp only [List.getElem_cons_succ, List.getElem_cons_zero] at hcell hcell5
  have hsl4 := fun W => cut_run_to (cutAt A c 512) (c - 512) (n - 512) s hs (by omega) (s : Int) rfl W
  have HS5 := Aside0.mk (show Hid (Below w.heap.size w w5.drew ∧ LabAt w5.drew w.heap.size z6 ∧ LabAt w5.drew w2.heap.size [n0, n1, n2, (s : Int), n4, n5]) ∧ w5.drew.cell? ⟨w2.heap.size, 5, none⟩ = some (.int .i64 n5) from ⟨Lib.hid ⟨HB5.out.drew, HR5.out, HL5.out⟩, hcell5⟩)
  have HSm := Aside0.mk (sum_any (cutAt A c 512) s (c - 512) ((v.drop 512).take s) w5.drew (C_firsts (Kd.C_below HC.out HB5.out.drew) hs) (by omega) (fun x hx => HY.out x (List.mem_of_mem_drop (List.mem_of_mem_take hx))))
  go_wp2_with fail
  refine wp_region_held_drew (S := (fun W : World => Hid (Below w.heap.size w W ∧ LabAt W w.heap.size z6 ∧ LabAt W w2.heap.size [n0, n1, n2, (s : Int), n4, n5]) ∧ W.cell? ⟨w2.heap.size, 5, none⟩ = some (.int .i64 n5))) (by kernel_rfl) ?_ (fun hHeld => ?_)
  · exact HS5.out
  refine wpAnyH_take (i := 0) (v := ?_) rfl (by kernel_rfl) (by kernel_rfl) (by kernel_rfl) (fun _ _ _ h => h) (Or.inl ⟨by rfl, ?_⟩) (by assumption) ?_; rotate_left; focus (intro w hSw; (try dsimp only at hSw); simp only [List.getElem_toArray, List.getElem_cons_succ, List.getElem_cons_zero]; go_simp; (try (with_reducible rfl)))
  simp only [List.getElem_toArray, List.getElem_cons_succ, List.getElem_cons_zero, Act.put, List.setIfInBounds_toArray, List.set_cons_zero, List.set_cons_succ]
  refine wpAnyH_take (i := 3) (v := ?_) rfl (by kernel_rfl) (by kernel_rfl) (by kernel_rfl) (fun _ _ _ h => h) (Or.inl ⟨by rfl, ?_⟩) (by assumption) ?_; rotate_left; focus (intro w hSw; (try dsimp only at hSw); simp only [List.getElem_toArray, List.getElem_cons_succ, List.getElem_cons_zero]; go_simp; (try (with_reducible rfl)))
  simp only [List.getElem_toArray, List.getElem_cons_succ, List.getElem_cons_zero, Act.put, List.setIfInBounds_toArray, List.set_cons_zero, List.set_cons_succ]
  refine wpAnyH_take (i := 4) (v := ?_) rfl (by kernel_rfl) (by kernel_rfl) (by kernel_rfl) (fun _ _ _ h => h) (Or.inl ⟨by rfl, ?_⟩) (by assumption) ?_; rotate_left; focus (intro w hSw; (try dsimp only at hSw); simp only [List.getElem_toArray, List.getElem_cons_succ, List.getElem_cons_zero]; go_simp; (try (with_reducible rfl)))
  simp only [List.getElem_toArray, List.getElem_cons_succ, List.getElem_cons_zero, Act.put, List.setIfInBounds_toArray, List.set_cons_zero, List.set_cons_succ]
  refine wpAnyH_ready (rs := [1]) (by kernel_rfl) (by simp) ?_
  refine AllReadyH.cons rfl (fun K hK => ?_) AllReadyH.nil
  go_simp
  (with_reducible refine (HSm.out).mono ?_)
  rintro e w6 ⟨rfl, hb6⟩
  refine hK.out _ _ ⟨Lib.hid ⟨HB5.out.drew.trans (hb6.mono HB5.out.drew.size), lab_below (w := w5.drew) HR5.out hb6, lab_below (w := w5.drew) HL5.out hb6⟩, pw_cell_below hb6 hcell5⟩ (fun hHeld => ?_)
  clear hK K
  try simp only [List.getElem_toArray, List.getElem_cons_succ, List.getElem_cons_zero, Act.put, List.setIfInBounds_toArray, List.set_cons_zero, List.set_cons_succ]
  have hcv : IntKind.i64.wrap ((crcSum ((v.drop 512).take s) : Nat) : Int) = ((crcSum ((v.drop 512).take s) : Nat) : Int) := by rw [IntKind.wrap_i64]; have := crcSum_lt ((v.drop 512).take s) (fun x hx => HY.out x (List.mem_of_mem_drop (List.mem_of_mem_take hx))); omega
  refine wpAnyH_take (i := 2) (v := ?_) rfl (by kernel_rfl) (by kernel_rfl) (by kernel_rfl) (fun _ _ _ h => h) (Or.inl ⟨by rfl, ?_⟩) (by assumption) ?_; rotate_left; focus (intro w hSw; (try dsimp only at hSw); simp only [List.getElem_toArray, List.getElem_cons_succ, List.getElem_cons_zero]; go_simp; (try (with_reducible rfl)))
  simp only [List.getElem_toArray, List.getElem_cons_succ, List.getElem_cons_zero, Act.put, List.setIfInBounds_toArray, List.set_cons_zero, List.set_cons_succ]
  refine wpAnyH_take (i := 5) (v := ?_) rfl (by kernel_rfl) (by kernel_rfl) (by kernel_rfl) (fun _ _ _ h => h) (Or.inl ⟨by rfl, ?_⟩) (by assumption) ?_; rotate_left; focus (intro w hSw; (try dsimp only at hSw); simp only [List.getElem_toArray, List.getElem_cons_succ, List.getElem_cons_zero]; go_simp; (try (with_reducible rfl)))
  simp only [List.getElem_toArray, List.getElem_cons_succ, List.getElem_cons_zero, Act.put, List.setIfInBounds_toArray, List.set_cons_zero, List.set_cons_succ]
  refine wpAnyH_done (by kernel_rfl) ?_ _
  have HB6 := Aside0.mk hHeld.1.out.1
  have HR6 := Aside0.mk hHeld.1.out.2.1
  have HL6 := Aside0.mk hHeld.1.out.2.2
  clear hHeld hb6
  have HF := Aside0.mk (setRow_heap_at w6 w.heap.size #[.int .i64 n0, .int .i64 n1, .int .i64 n2, .int .i64 (s : Int), .int .i64 n4, .int .i64 n5] _ 54 (0, 0) HR6.out)
  have HBF := Aside0.mk (setRow_below HB6.out (Nat.le_refl _) #[.int .i64 n0, .int .i64 n1, .int .i64 n2, .int .i64 (s : Int), .int .i64 n4, .int .i64 n5])
  go_wp2_with (first | (refine wpList_load_row rfl 54 (.tmp 5) rfl w2.heap.size rfl 54 #[.int .i64 n0, .int .i64 n1, .int .i64 n2, .int .i64 (s : Int), .int .i64 n4, .int .i64 n5] (0, 0) _ HL6.out Tryd.underlying54 rfl (by kernel_rfl) ?_) | (refine wpList_store_row rfl 54 (.tmp 2) (.tmp 59) rfl w.heap.size #[.int .i64 n0, .int .i64 n1, .int .i64 n2, .int .i64 (s : Int), .int .i64 n4, .int .i64 n5] rfl rfl 54 _ HR6.out (by kernel_rfl) rfl (six_one _ _ _ _ _ _) ?_))
  refine bodyPost_ret (results_open rfl _ _ w.heap.size 54 #[.int .i64 n0, .int .i64 n1, .int .i64 n2, .int .i64 (s : Int), .int .i64 n4, .int .i64 n5] (0, 0) _ rfl HF.out Tryd.underlying54 rfl (by kernel_rfl)) rfl ?_
  have hpl : ((v.drop 512).take s).length = s := by rw [List.length_take, List.length_drop, HV.out]; omega
  refine ⟨cutAt A c 512, c - 512, by show _ = Ending.returned (.tuple #[_, .slice _ ((v.drop 512).take s).length _, _]); rw [hpl]; rfl, by show ((v.drop 512).take s).length ≤ _; omega, ?_, HBF.out⟩
  show Kd.C _ _ _ ((v.drop 512).take s).length _
  rw [hpl]
  exact C_firsts HC.out hs
theorem good_parts {ns l : List Int} (h : goodB ns l = true) : labOk ns = true ∧ l = labOf ns ∧ rd ns 0 < rd ns 1 ∧ rd ns 3 ≤ rd ns 2 := by
  unfold goodB at h
  simpa [and_assoc] using h
theorem six_of (l : List Int) : ∃ n0 n1 n2 n3 n4 n5, readNs l = [n0, n1, n2, n3, n4, n5] := ⟨_, _, _, _, _, _, rfl⟩
theorem open_calls (A : Option Addr) (n c : Nat) (v : List Int) (w : World) (hr : Kd.C (Kd.int .u8) w A n v) (hc : n ≤ c) (hb : ∀ x ∈ v, 0 ≤ x ∧ x ≤ 255) (hn2 : n ≤ 100000) : Calls Tryd.prog 23 #[.slice A n c] w (OPost w (openOf v)) := by
  have hl := C_len hr
  by_cases hn : n < 512
  · have e : openOf v = (z6, [], 15) := by unfold openOf; rw [if_pos (by omega)]
    rw [e]
    exact open_short A n c w hn
  obtain ⟨n0, n1, n2, n3, n4, n5, hns⟩ := six_of (v.take 512)
  have e : openOf v = if (goodB [n0, n1, n2, n3, n4, n5] (v.take 512) && restB n3 (v.drop 512)) = true then (if (crcSum ((v.drop 512).take n3.toNat) : Int) = n5 then ([n0, n1, n2, n3, n4, n5], (v.drop 512).take n3.toNat, 0) else (z6, [], 4)) else (z6, [], 15) := by
    unfold openOf
    rw [if_neg (by omega), hns]
    rfl
  rw [e]
  cases hg : goodB [n0, n1, n2, n3, n4, n5] (v.take 512) with
  | false =>
    rw [Bool.false_and, if_neg (by decide)]
    exact open_bad A n c v w hr hc hb (by omega) hn2 n0 n1 n2 n3 n4 n5 hns hg
  | true =>
    obtain ⟨hok, _, _, _⟩ := good_parts hg
    have h3 : fits12 n3 = true := List.all_eq_true.1 hok n3 (by simp)
    have h30 : 0 ≤ n3 := by unfold fits12 at h3; simp at h3; exact h3.1
    obtain ⟨s, rfl⟩ := Int.eq_ofNat_of_zero_le h30
    rw [Bool.true_and, Int.toNat_natCast]
    have hrl : (v.drop 512).length = n - 512 := by rw [List.length_drop, hl]
    have er : restB (s : Int) (v.drop 512) = (decide (s ≤ n - 512) && decide (blocksOf s * 512 = n - 512) && BlkP.blank ((v.drop 512).drop s)) := by
      unfold restB
      rw [Int.toNat_natCast, hrl]
      have : decide ((s : Int) ≤ ((n - 512 : Nat) : Int)) = decide (s ≤ n - 512) := by
        by_cases h : s ≤ n - 512
        · rw [decide_eq_true h]; exact decide_eq_true (by omega)
        · rw [decide_eq_false h]; exact decide_eq_false (by omega)
      rw [this]
    rw [er]
    by_cases hs : s ≤ n - 512
    · by_cases hbl : blocksOf s * 512 = n - 512
      · cases hbk : BlkP.blank ((v.drop 512).drop s) with
        | false =>
          rw [if_neg (by simp)]
          exact open_full A n c v w hr hc hb (by omega) hn2 n0 n1 n2 n4 n5 s hns hg hs hbl hbk
        | true =>
          rw [if_pos (by simp [hs, hbl])]
          by_cases hcs : (crcSum ((v.drop 512).take s) : Int) = n5
          · rw [if_pos hcs]
            exact open_fine A n c v w hr hc hb (by omega) hn2 n0 n1 n2 n4 n5 s hns hg hs hbl hbk hcs
          · rw [if_neg hcs]
            exact open_sum A n c v w hr hc hb (by omega) hn2 n0 n1 n2 n4 n5 s hns hg hs hbl hbk hcs
      · rw [if_neg (by simp [hbl])]
        exact open_size A n c v w hr hc hb (by omega) hn2 n0 n1 n2 n4 n5 s hns hg hs hbl
    · rw [if_neg (by simp [hs])]
      exact open_over A n c v w hr hc hb (by omega) hn2 n0 n1 n2 n4 n5 s hns hg (by omega)
theorem openOf_six (v : List Int) : ∃ n0 n1 n2 n3 n4 n5, (openOf v).1 = [n0, n1, n2, n3, n4, n5] := by
  unfold openOf
  split
  · exact ⟨_, _, _, _, _, _, rfl⟩
  · split
    · split
      · exact six_of _
      · exact ⟨_, _, _, _, _, _, rfl⟩
    · exact ⟨_, _, _, _, _, _, rfl⟩
/-- What volume.Check tells. -/
def CPost (w : World) (code : Int) (e : Ending) (w' : World) : Prop := e = .returned (.int .u8 code) ∧ Below w.heap.size w w'
set_option maxHeartbeats 4000000 in
theorem check_calls (A : Option Addr) (n c : Nat) (v : List Int) (w : World) (hr : Kd.C (Kd.int .u8) w A n v) (hc : n ≤ c) (hb : ∀ x ∈ v, 0 ≤ x ∧ x ≤ 255) (hn2 : n ≤ 100000) : Calls Tryd.prog 10 #[.slice A n c] w (CPost w (openOf v).2.2) := by
  have HO := Aside0.mk (open_calls A n c v w hr hc hb hn2)
  obtain ⟨n0, n1, n2, n3, n4, n5, h6⟩ := openOf_six v
  have H6 := Aside0.mk h6
  clear h6 hr hb
  go_enter Tryd.func10, Tryd.ntmps10
  go_wp2_with fail
  refine HO.out.mono ?_
  clear HO
  rintro e w1 ⟨A1, c1, rfl, _, _, hb1⟩
  rw [H6.out, show (nums .i64 [n0, n1, n2, n3, n4, n5]).toArray = #[.int .i64 n0, .int .i64 n1, .int .i64 n2, .int .i64 n3, .int .i64 n4, .int .i64 n5] from rfl]
  have HB := Aside0.mk (hb1.alloc hb1.size (.cells #[.int .i64 n0, .int .i64 n1, .int .i64 n2, .int .i64 n3, .int .i64 n4, .int .i64 n5] 54))
  clear hb1
  go_wp2_with fail
  go_ret
  exact ⟨rfl, HB.out⟩
end Go.Proofs.YtkcgioggnbnfkaaDoor.Open
