/- volume.Split: walked once. -/
import Derived.Test.YtkcgioggnbnfkaaDoorZVol
import Derived.Test.YtkcgioggnbnfkaaDoorZKA
set_option linter.unusedVariables false
set_option linter.unusedSimpArgs false
namespace Go.Proofs.YtkcgioggnbnfkaaDoor.Spl
open Go.RowKit Go.Proofs.YtkcgioggnbnfkaaDoorW.PrintWords Go.Proofs.YtkcgioggnbnfkaaDoorW.PrintLast Go.Proofs.YtkcgioggnbnfkaaDoorW.PrintMore Go.Proofs.YtkcgioggnbnfkaaDoorW.Mv Go.Proofs.YtkcgioggnbnfkaaDoorW.HKit Go.Proofs.YtkcgioggnbnfkaaDoorW.But Go.Proofs.YtkcgioggnbnfkaaDoorW.App Go.Proofs.YtkcgioggnbnfkaaDoorW.Rwb Go.Proofs.YtkcgioggnbnfkaaDoor.PVolumeJoins Go.Proofs.YtkcgioggnbnfkaaDoor.CrcA Go.Proofs.YtkcgioggnbnfkaaDoor.Crc Go.Proofs.YtkcgioggnbnfkaaDoor.NumP Go.Proofs.YtkcgioggnbnfkaaDoor.NumG Go.Proofs.YtkcgioggnbnfkaaDoor.Num Go.Proofs.YtkcgioggnbnfkaaDoor.Lab Go.Proofs.YtkcgioggnbnfkaaDoor.Read Go.Proofs.YtkcgioggnbnfkaaDoor.Open Go.Proofs.YtkcgioggnbnfkaaDoor.Vol
attribute [local go_sem] max2_int min2_int max_two min_two   -- for this text's walks alone
/-- How many volumes. -/
def cntOf (n S : Nat) : Nat := max 1 ((n + S - 1) / S)
theorem cnt_pos (n S : Nat) : 1 ≤ cntOf n S := by unfold cntOf; omega
theorem cnt_le (n S : Nat) (hn : n ≤ 8000) (hS : 512 ≤ S) : cntOf n S ≤ 16 := by
  unfold cntOf
  have : (n + S - 1) / S ≤ 16 := by
    have h : (n + S - 1) / S < 17 := (Nat.div_lt_iff_lt_mul (by omega)).2 (by omega)
    omega
  omega
theorem at_le (n S i : Nat) (hS : 512 ≤ S) (h : i < cntOf n S) : i * S ≤ n := by
  unfold cntOf at h
  rcases Nat.eq_zero_or_pos i with h0 | h0
  · subst h0; omega
  · have h1 : i + 1 ≤ (n + S - 1) / S := by omega
    have h2 := (Nat.le_div_iff_mul_le (by omega : 0 < S)).1 h1
    rw [Nat.add_mul, Nat.one_mul] at h2
    omega
/-- The part of a volume. -/
def partAt (b : List Int) (S i : Nat) : List Int := (b.drop (i * S)).take S
def volAt (b : List Int) (S m i : Nat) : List Int := volOf [(i : Int), (m : Int), (b.length : Int), ((partAt b S i).length : Int), ((crcSum b : Nat) : Int), ((crcSum (partAt b S i) : Nat) : Int)] (partAt b S i)
def volsOf (b : List Int) (S : Nat) : List (List Int) := (List.range (cntOf b.length S)).map (volAt b S (cntOf b.length S))
theorem part_at_len (b : List Int) (S i : Nat) (h : i * S ≤ b.length) : (partAt b S i).length = min b.length ((i + 1) * S) - i * S := by
  unfold partAt
  rw [List.length_take, List.length_drop, Nat.add_mul, Nat.one_mul]
  omega
theorem part_at_bd {b : List Int} (hb : ∀ x ∈ b, 0 ≤ x ∧ x ≤ 255) (S i : Nat) : ∀ x ∈ partAt b S i, 0 ≤ x ∧ x ≤ 255 := fun x hx => hb x (List.mem_of_mem_drop (List.mem_of_mem_take hx))
theorem part_cut (b : List Int) (S i h : Nat) (he : h = min b.length ((i + 1) * S)) : Read.part b (i * S) (h - i * S) = partAt b S i := by
  unfold Read.part partAt
  by_cases hle : i * S ≤ h
  · rw [show i * S + (h - i * S) = h by omega, List.drop_take, List.take_eq_take_iff, List.length_drop]
    rw [Nat.add_mul, Nat.one_mul] at he
    omega
  · have h0 : h - i * S = 0 := by omega
    rw [h0, Nat.add_zero]
    have : b.length ≤ i * S := by rw [Nat.add_mul, Nat.one_mul] at he; omega
    rw [List.drop_eq_nil_of_le (by rw [List.length_take]; omega), List.drop_eq_nil_of_le this]
    exact List.take_nil.symm
theorem lab_fits (b : List Int) (S m i : Nat) (hb : ∀ x ∈ b, 0 ≤ x ∧ x ≤ 255) (hn : b.length ≤ 8000) (hm : m ≤ 16) (hi : i ≤ 16) :
    labOk [(i : Int), (m : Int), (b.length : Int), ((partAt b S i).length : Int), ((crcSum b : Nat) : Int), ((crcSum (partAt b S i) : Nat) : Int)] = true := by
  have h1 := crcSum_lt b hb
  have h2 := crcSum_lt (partAt b S i) (part_at_bd hb S i)
  have h3 : (partAt b S i).length ≤ b.length := by unfold partAt; rw [List.length_take, List.length_drop]; omega
  unfold labOk
  simp only [List.all_cons, List.all_nil, fits12, Bool.and_eq_true, decide_eq_true_eq, Bool.and_true]
  omega
theorem own_ne54 {w : World} {B n L : Nat} {v : Value} {cs : List Value} {ns : List Int} (h : w.ownsRow B 22 1 v n cs) (hL : LabAt w L ns) (e : v.ownBlock = some L) : False := by
  obtain ⟨cells, hc⟩ := own_typed h L e
  unfold LabAt at hL
  rw [hc] at hL
  injection hL with hL
  injection hL with _ h3 _
  exact absurd h3 (by decide)
def SRel (w : World) (L : Nat) (b : List Int) (S m : Nat) (n : Nat) (v8 : Value) (wr : World) : Prop := ∃ (i : Nat) (cs : List Value), n + i = m ∧ LabAt wr L [(i : Int), (m : Int), (b.length : Int), 0, ((crcSum b : Nat) : Int), 0] ∧ wr.ownsRow w.heap.size 22 1 v8 i cs ∧ RowsOwn 5 wr w.heap.size cs ((List.range i).map (volAt b S m)) ∧ Below w.heap.size w wr
/-- What Split hands back. -/
def SPost (w : World) (xss : List (List Int)) (code : Int) (e : Ending) (w' : World) : Prop := ∃ A c, e = .returned (.tuple #[.slice A xss.length c, .int .u8 code]) ∧ RowsB w' A c xss ∧ Below w.heap.size w w'
theorem sliceInfo : (Tryd.prog.info? 22).map (fun i => (i.zero, i.size, i.bytes)) = some (some (.slice none 0 0), 1, 24) := by kernel_rfl
set_option maxHeartbeats 4000000 in
set_option maxRecDepth 100000 in
theorem split_no (A : Option Addr) (n c : Nat) (k : Int) (w : World) (hk : k < 1 ∨ 1048576 < k) : Calls Tryd.prog 7 #[.slice A n c, .int .i64 k] w (SPost w [] 2) := by
  have hr : RowsB w none 0 [] := ⟨Nat.le_refl _, by decide, fun h => absurd h (Nat.lt_irrefl _), fun a ha r hr => absurd hr (Nat.not_lt_zero _)⟩
  by_cases h1 : k < 1
  · go_enter Tryd.func7, Tryd.ntmps7
    go_wp2_with fail
    go_ret2
    exact ⟨none, 0, rfl, hr, Below.refl _ _⟩
  · have h2 : 1048576 < k := by omega
    have hd : decide (k < 1) = false := by simpa using h1
    clear hk
    go_enter Tryd.func7, Tryd.ntmps7
    go_wp2_with fail
    go_ret2
    exact ⟨none, 0, rfl, hr, Below.refl _ _⟩
set_option maxHeartbeats 8000000 in
set_option maxRecDepth 100000 in
theorem split_calls (A : Option Addr) (n c : Nat) (b : List Int) (k S : Nat) (w : World) (hr : Kd.C (Kd.int .u8) w A n b) (hc : n ≤ c) (hb : ∀ x ∈ b, 0 ≤ x ∧ x ≤ 255) (hn : n ≤ 8000) (hk1 : 1 ≤ k) (hk2 : k ≤ 1048576) (hS : S = k * 512) : Calls Tryd.prog 7 #[.slice A n c, .int .i64 (k : Int)] w (SPost w (volsOf b S) 0) := by
  have HV := Aside0.mk (C_len hr)
  have HR := Aside0.mk hr
  have HY := Aside0.mk hb
  have hcr := crcSum_lt b hb
  have hcv : IntKind.i64.wrap ((crcSum b : Nat) : Int) = ((crcSum b : Nat) : Int) := by rw [IntKind.wrap_i64]; omega
  have hS1 : 512 ≤ S := by omega
  have hS2 : S ≤ 536870912 := by omega
  have hsz : (k : Int) * 512 = (S : Int) := by omega
  have hd1 : decide ((k : Int) < 1) = false := decide_eq_false (by omega)
  have hd2 : decide (1048576 < (k : Int)) = false := decide_eq_false (by omega)
  have hd1' : decide (k < 1) = false := decide_eq_false (by omega)
  have hd2' : decide (1048576 < k) = false := decide_eq_false (by omega)
  obtain ⟨q, hq0⟩ : ∃ q, q = (n + S - 1) / S := ⟨_, rfl⟩
  obtain ⟨m, hm0⟩ : ∃ m, m = cntOf n S := ⟨_, rfl⟩
  have hq : ((n : Int) + (S : Int) - 1) / (S : Int) = (q : Int) := by
    rw [hq0, Int.natCast_ediv]
    congr 1
    omega
  have hmx : (if (1 : Int) < (q : Int) then (q : Int) else 1) = (m : Int) := by
    have h1 : m = max 1 q := by rw [hm0, hq0]; rfl
    split <;> omega
  have hm16 : m ≤ 16 := by rw [hm0]; exact cnt_le n S hn hS1
  have hm1 : 1 ≤ m := by rw [hm0]; exact cnt_pos n S
  have HM := Aside0.mk hm0
  clear hr hb hS hq0 hm0
  go_enter Tryd.func7, Tryd.ntmps7
  go_wp2_with fail
  refine (sum_any A n c b w HR.out hc HY.out).mono ?_
  rintro e w1 ⟨rfl, hb1⟩
  have HS := Aside0.mk (show SRel w w1.heap.size b S m m (.slice none 0 0) (w1.alloc (.cells #[.int .i64 0, .int .i64 (m : Int), .int .i64 (n : Int), .int .i64 0, .int .i64 ((crcSum b : Nat) : Int), .int .i64 0] 54)) from ⟨0, [], rfl, by
    rw [HV.out]; exact heap_alloc_new w1 _, World.ownsRow_nil _ _ _ _, RowsOwn.nil _ _ _, hb1.alloc hb1.size _⟩)
  have HLW := Aside0.mk hb1.size
  clear hb1
  go_wp2_with fail
  generalize w1.alloc (.cells #[.int .i64 0, .int .i64 (m : Int), .int .i64 (n : Int), .int .i64 0, .int .i64 ((crcSum b : Nat) : Int), .int .i64 0] 54) = wa at HS ⊢
  generalize w1.heap.size = L at HS HLW ⊢
  go_loopg [8] m (fun n' v8 wr => SRel w L b S m n' v8 wr)
  case atStart => exact HS.out
  case round =>
    clear HS hq hmx
    obtain ⟨i, cs, hni, hL, hO, hRO, hB⟩ := hrel
    have hc0 := lab_cell hL 0 (by simp)
    have hc1 := lab_cell hL 1 (by simp)
    have hc2 := lab_cell hL 2 (by simp)
    have hc3 := lab_cell hL 3 (by simp)
    have hc4 := lab_cell hL 4 (by simp)
    have hc5 := lab_cell hL 5 (by simp)
    simp only [List.getElem_cons_succ, List.getElem_cons_zero] at hc0 hc1 hc2 hc3 hc4 hc5
    have HNI := Aside0.mk hni
    have HL := Aside0.mk hL
    have HO := Aside0.mk hO
    have HRO := Aside0.mk hRO
    have HB := Aside0.mk hB
    clear hni hL hO hRO hB
    rw [HV.out] at hc2
    by_cases hlt : i < m
    · have hat := at_le n S i hS1 (by rw [← HM.out]; exact hlt)
      obtain ⟨lo, hlo⟩ : ∃ lo, lo = i * S := ⟨_, rfl⟩
      obtain ⟨hi, hhi⟩ : ∃ hi, hi = (i + 1) * S := ⟨_, rfl⟩
      obtain ⟨h, hh⟩ : ∃ h, h = min n hi := ⟨_, rfl⟩
      have hlh : hi = lo + S := by rw [hhi, hlo, Nat.add_mul, Nat.one_mul]
      have hm1 : (if lo < n then (lo : Int) else (n : Int)) = (lo : Int) := by split <;> omega
      have hm2 : (if hi < n then (hi : Int) else (n : Int)) = (h : Int) := by split <;> omega
      have hlo2 : lo ≤ h := by omega
      have hhn : h ≤ n := by omega
      have hsl := fun W => cut_run A c n lo (h - lo) (by omega) hc (lo : Int) (h : Int) rfl (by omega) W
      have HLO := Aside0.mk hlo
      have HH := Aside0.mk (show h = min b.length ((i + 1) * S) by rw [HV.out, ← hhi]; exact hh)
      have hCp := cut_C (c := c) (f := lo) (s := h - lo) (Kd.C_below HR.out HB.out) (by omega) hc
      have epc := part_cut b S i h HH.out
      rw [← hlo] at epc
      rw [epc] at hCp
      have HC := Aside0.mk hCp
      have he1 : (i : Int) * (S : Int) = (lo : Int) := by rw [hlo, Int.natCast_mul]
      have he2 : ((i : Int) + 1) * (S : Int) = (hi : Int) := by rw [hhi, Int.natCast_mul]; rfl
      have hlob : lo ≤ 8000 := by omega
      have hhib : hi ≤ 600000000 := by omega
      clear hlo hhi hh hlh hCp epc hat
      have hpl := part_at_len b S i (by rw [HV.out, ← HLO.out]; omega)
      have HPL := Aside0.mk (show (partAt b S i).length = h - lo by rw [hpl, ← HH.out, ← HLO.out])
      have HFit := Aside0.mk (show labOk [(i : Int), (m : Int), (n : Int), ((h - lo : Nat) : Int), ((crcSum b : Nat) : Int), ((crcSum (partAt b S i) : Nat) : Int)] = true by
        have := lab_fits b S m i HY.out (by rw [HV.out]; exact hn) hm16 (by omega)
        rw [HPL.out, HV.out] at this
        exact this)
      have HVol := Aside0.mk (volume_calls (cutAt A c lo) (h - lo) (c - lo) (partAt b S i) wr HC.out (by omega) (part_at_bd HY.out S i) (by omega) (i : Int) (m : Int) (n : Int) 0 ((crcSum b : Nat) : Int) 0 HFit.out)
      clear hpl
      go_wp2_with fail
      refine HVol.out.mono ?_
      rintro e w4 ⟨v, rfl, hv, hb4⟩
      have HV4 := Aside0.mk (own_weaken hv HB.out.size)
      have HO4 := Aside0.mk (own_stays HO.out (fun q hq => hb4.block q (own_lt HO.out q hq)))
      have HR4 := Aside0.mk (HRO.out.below hb4)
      have HL4 := Aside0.mk (lab_below HL.out hb4)
      have HB4 := Aside0.mk (HB.out.trans (hb4.mono HB.out.size))
      obtain ⟨A4, c4, hv4, _, _, _, _, _⟩ := own_C (kd := .u8) hv rfl
      subst hv4
      clear hb4 hv HL HO HRO HB HC HVol hc0 hc1 hc2 hc3 hc4 hc5
      go_wp2_with (first | (at_builtin; refine wpList_app_one w4 rfl (.tmp 63) (.tmp 67) 24 rfl w.heap.size 22 (.slice none 0 0) 24 Tryd.underlying24 sliceInfo rfl u8 i cs rfl HO4.out _ rfl rfl (by omega) (by omega) HB4.out.size ?_; intro v5 w5 hown5 hgrow5; have HB5 := Aside0.mk ((HB4.out.alloc HB4.out.size _).grown hgrow5 (Nat.le_trans HB4.out.size (by simp)) (own_base HO4.out)); have HL5 := Aside0.mk (lab_grown (lab_below HL4.out ((Below.refl w4.heap.size w4).alloc (Nat.le_refl _) _)) hgrow5 (fun e => own_ne54 HO4.out HL4.out e)); have HR5 := Aside0.mk ((HR4.out.below ((Below.refl w4.heap.size w4).alloc (Nat.le_refl _) _)).grown (own_stays HO4.out (fun q hq => Below.heap_alloc w4 _ q (own_lt HO4.out q hq))) hgrow5 (by decide)); have HV5 := Aside0.mk ((RowsOwn.nil 5 _ w.heap.size).snoc _ _ HV4.out); have HV6 := Aside0.mk ((HV5.out.below ((Below.refl w4.heap.size w4).alloc (Nat.le_refl _) _)).grown (own_stays HO4.out (fun q hq => Below.heap_alloc w4 _ q (own_lt HO4.out q hq))) hgrow5 (by decide)); have HO5 := Aside0.mk hown5; clear hown5 hgrow5; have hc0 := lab_cell HL5.out 0 (by simp); have hf0 : w5.frozen? ⟨L, 0, none⟩ = false := blk_frozen HL5.out 0; simp only [List.getElem_cons_zero] at hc0))
      have HL6 := Aside0.mk (show LabAt (w5.setCell ⟨L, 0, none⟩ (.int .i64 ((i : Int) + 1))) L [((i + 1 : Nat) : Int), (m : Int), (b.length : Int), 0, ((crcSum b : Nat) : Int), 0] from lab_set HL5.out 0 _)
      have evol : volAt b S m i = volOf [(i : Int), (m : Int), (n : Int), ((h - lo : Nat) : Int), ((crcSum b : Nat) : Int), ((crcSum (partAt b S i) : Nat) : Int)] (partAt b S i) := by
        unfold volAt
        rw [HPL.out, HV.out]
      have HR6 := HV6.out.2 0 (by simp) (by simp)
      have HRall := Aside0.mk (HR5.out.snoc _ _ HR6)
      have hbut : But (fun k => k = L) w5 (w5.setCell ⟨L, 0, none⟩ (.int .i64 ((i : Int) + 1))) := But.setCell _ _ _ rfl
      have HRf := Aside0.mk (show RowsOwn 5 (w5.setCell ⟨L, 0, none⟩ (.int .i64 ((i : Int) + 1))) w.heap.size _ ((List.range (i + 1)).map (volAt b S m)) by
        rw [List.range_succ, List.map_append, List.map_singleton, evol]
        exact HRall.out.but hbut HL5.out (by decide))
      have HOf := Aside0.mk (hbut.own HO5.out (fun q hq e => own_ne54 HO5.out HL5.out (by rw [hq, e])))
      have HBf := Aside0.mk (HB5.out.setCell (p := ⟨L, 0, none⟩) HLW.out (.int .i64 ((i : Int) + 1)))
      obtain ⟨g1, rfl⟩ : ∃ g1, gk = g1 + 1 := ⟨gk - 1, by have := HNI.out; omega⟩
      clear HV4 HV5 HV6 HR5 HO5 HR4 HO4 HL4 HB4 HR6 hbut evol
      go_roundg g1
      case measure => exact Nat.lt_succ_self _
      case rel => exact ⟨i + 1, _, by have := HNI.out; omega, HL6.out, HOf.out, HRf.out, HBf.out⟩
    · obtain ⟨rfl, rfl⟩ : gk = 0 ∧ i = m := by have := HNI.out; omega
      obtain ⟨Ar, Cr, hv, hRB⟩ := rowsB_own (xss := (List.range i).map (volAt b S i)) (by rw [List.length_map, List.length_range]; exact HO.out) HRO.out
      have HRB := Aside0.mk hRB
      have HVE := Aside0.mk hv
      clear hRB hv
      go_wp2_with fail
      go_ret2
      have e1 : volsOf b S = (List.range i).map (volAt b S i) := by unfold volsOf; rw [HV.out, ← HM.out]
      rw [e1]
      exact ⟨Ar, Cr, by rw [← HVE.out]; rfl, HRB.out, HB.out⟩
end Go.Proofs.YtkcgioggnbnfkaaDoor.Spl
