/- A volume's label as bytes: (*label).bytes walked once. -/
import Derived.Test.YtkcgioggnbnfkaaDoorZNum
import Derived.Test.YtkcgioggnbnfkaaDoorZKN
import Derived.Test.YtkcgioggnbnfkaaDoorZKA
set_option linter.unusedVariables false
set_option linter.unusedSimpArgs false
namespace Go.Proofs.YtkcgioggnbnfkaaDoor.Lab
open Go.RowKit Go.Proofs.YtkcgioggnbnfkaaDoorW.PrintWords Go.Proofs.YtkcgioggnbnfkaaDoorW.PrintLast Go.Proofs.YtkcgioggnbnfkaaDoorW.PrintMore Go.Proofs.YtkcgioggnbnfkaaDoorW.Mv Go.Proofs.YtkcgioggnbnfkaaDoorW.HKit Go.Proofs.YtkcgioggnbnfkaaDoorW.But Go.Proofs.YtkcgioggnbnfkaaDoorW.App Go.Proofs.YtkcgioggnbnfkaaDoor.PVolumeJoins Go.Proofs.YtkcgioggnbnfkaaDoor.Crc Go.Proofs.YtkcgioggnbnfkaaDoor.NumP Go.Proofs.YtkcgioggnbnfkaaDoor.NumG Go.Proofs.YtkcgioggnbnfkaaDoor.Num
/-- What a volume begins with. -/
def signL : List Int := [111, 97, 107, 117, 109, 32, 118, 111, 108, 117, 109, 101, 0, 0, 0, 0]
def labOk (ns : List Int) : Bool := ns.all fits12
def labHead (ns : List Int) : List Int := signL ++ ns.flatMap put12
/-- The bytes of a label; none where a number does not fit. -/
def labOf (ns : List Int) : List Int := if labOk ns = true then labHead ns ++ List.replicate 424 0 else []
theorem flat_len : ∀ (ns : List Int), ns.all fits12 = true → (ns.flatMap put12).length = 12 * ns.length
  | [], _ => rfl
  | n :: r, h => by
    simp only [List.all_cons, Bool.and_eq_true] at h
    rw [List.flatMap_cons, List.length_append, put12_len n h.1, flat_len r h.2, List.length_cons]
    omega
theorem head_len (ns : List Int) (h : ns.all fits12 = true) : (labHead ns).length = 16 + 12 * ns.length := by
  unfold labHead
  rw [List.length_append, flat_len ns h]
  rfl
theorem labOf_len (ns : List Int) (h : labOk ns = true) (hl : ns.length = 6) : (labOf ns).length = 512 := by
  unfold labOf
  rw [if_pos h, List.length_append, head_len ns h, hl, List.length_replicate]
theorem head_step (ns : List Int) (i : Nat) (h : i < ns.length) : labHead (ns.take (i + 1)) = labHead (ns.take i) ++ put12 ns[i] := by
  unfold labHead
  rw [List.take_succ_eq_append_getElem h, List.flatMap_append, List.append_assoc]
  simp
theorem ok_step (ns : List Int) (i : Nat) (h : i < ns.length) : (ns.take (i + 1)).all fits12 = ((ns.take i).all fits12 && fits12 ns[i]) := by
  rw [List.take_succ_eq_append_getElem h, List.all_append]
  simp
theorem ok_no (ns : List Int) (i : Nat) (h : i < ns.length) (hf : fits12 ns[i] = false) : labOk ns = false := by
  unfold labOk
  rw [← Bool.not_eq_true, List.all_eq_true]
  intro hall
  have := hall ns[i] (List.getElem_mem h)
  rw [hf] at this
  cases this
theorem lab_bd (ns : List Int) : ∀ x ∈ labOf ns, 0 ≤ x ∧ x ≤ 255 := by
  intro x hx
  unfold labOf at hx
  split at hx
  · rename_i h
    rcases List.mem_append.1 hx with hx | hx
    · unfold labHead at hx
      rcases List.mem_append.1 hx with hx | hx
      · have : ∀ y ∈ signL, 0 ≤ y ∧ y ≤ 255 := by decide
        exact this x hx
      · obtain ⟨n, hn, hx⟩ := List.mem_flatMap.1 hx
        exact put12_bd n (List.all_eq_true.1 h n hn) x hx
    · have := List.eq_of_mem_replicate hx
      omega
  · cases hx
/-- A row of bytes of the call's own. -/
def Own (B : Nat) (w : World) (v : Value) (xs : List Int) : Prop := w.ownsRow B 5 1 v xs.length (nums .u8 xs)
theorem byteInfo : (Tryd.prog.info? 5).map (fun i => (i.zero, i.size, i.bytes)) = some (some (.int .u8 0), 1, 1) := by kernel_rfl
/-- A label in its block. -/
def LabAt (w : World) (g : Nat) (ns : List Int) : Prop := w.heap[g]? = some (.cells (nums .i64 ns).toArray 54 (0, 0))
theorem lab_cell {w : World} {g : Nat} {ns : List Int} (h : LabAt w g ns) (i : Nat) (hi : i < ns.length) : w.cell? ⟨g, i, none⟩ = some (.int .i64 ns[i]) := by
  refine (blk_cell h i).trans ?_
  simp [nums, hi]
theorem lab_below {w w' : World} {g : Nat} {ns : List Int} (h : LabAt w g ns) (hb : Below w.heap.size w w') : LabAt w' g ns := (But.of_below (fun _ => False) hb).heap h (fun h => h)
def BPost (w : World) (ns : List Int) (e : Ending) (w' : World) : Prop := ∃ v, e = .returned (.tuple #[v, .bool (labOk ns)]) ∧ Own w.heap.size w' v (labOf ns) ∧ Below w.heap.size w w'
def BRel (w : World) (ns : List Int) (n : Nat) (v4 v16 : Value) (wr : World) : Prop := ∃ i : Nat, v16 = .int .i64 i ∧ n + i = 6 ∧ Own w.heap.size wr v4 (labHead (ns.take i)) ∧ (ns.take i).all fits12 = true ∧ Below w.heap.size w wr
theorem put_sign : Txt.putOf { data := #[111, 97, 107, 117, 109, 32, 118, 111, 108, 117, 109, 101] } 16 = (signL, 0) := by decide +kernel
set_option maxRecDepth 100000 in
theorem idx_ptr (g i : Nat) (h : i < 6) (W : World) : (Instr.index 83 (.agg (ptrs g)) (.int .i64 (i : Int))).run Tryd.prog W = .ok (.pointer (some ⟨g, i, none⟩)) W := by
  have h0 : ∀ W, (Instr.index 83 (.agg (ptrs g)) (.int .i64 0)).run Tryd.prog W = .ok (.pointer (some ⟨g, 0, none⟩)) W := fun W => rfl
  have h1 : ∀ W, (Instr.index 83 (.agg (ptrs g)) (.int .i64 1)).run Tryd.prog W = .ok (.pointer (some ⟨g, 1, none⟩)) W := fun W => rfl
  have h2 : ∀ W, (Instr.index 83 (.agg (ptrs g)) (.int .i64 2)).run Tryd.prog W = .ok (.pointer (some ⟨g, 2, none⟩)) W := fun W => rfl
  have h3 : ∀ W, (Instr.index 83 (.agg (ptrs g)) (.int .i64 3)).run Tryd.prog W = .ok (.pointer (some ⟨g, 3, none⟩)) W := fun W => rfl
  have h4 : ∀ W, (Instr.index 83 (.agg (ptrs g)) (.int .i64 4)).run Tryd.prog W = .ok (.pointer (some ⟨g, 4, none⟩)) W := fun W => rfl
  have h5 : ∀ W, (Instr.index 83 (.agg (ptrs g)) (.int .i64 5)).run Tryd.prog W = .ok (.pointer (some ⟨g, 5, none⟩)) W := fun W => rfl
  match i, h with
  | 0, _ => exact h0 W
  | 1, _ => exact h1 W
  | 2, _ => exact h2 W
  | 3, _ => exact h3 W
  | 4, _ => exact h4 W
  | 5, _ => exact h5 W
/-- num.Put in a field of twelve. -/
theorem put_yes (n : Int) (w : World) (h : fits12 n = true) : Calls Tryd.prog 41 #[.int .i64 n, .int .i64 12, .bool false] w fun e w' => ∃ v, e = .returned (.tuple #[v, .int .u8 0]) ∧ Own w.heap.size w' v (put12 n) ∧ Below w.heap.size w w' := by
  obtain ⟨k, hk⟩ := (put_ev n 12 false (by decide) (by decide)).rounds
  have hc := put12_code n
  rw [if_pos h] at hc
  refine (num_Put.calls k n 12 false (put12 n) 0 w (hk.trans (by rw [← hc]; rfl))).mono ?_
  rintro e w' ⟨v, rfl, hR, hb⟩
  exact ⟨v, rfl, Kd.own_of_R hR, hb⟩
theorem put_no (n : Int) (w : World) (h : fits12 n = false) : Calls Tryd.prog 41 #[.int .i64 n, .int .i64 12, .bool false] w fun e w' => ∃ v, e = .returned (.tuple #[v, .int .u8 5]) ∧ Below w.heap.size w w' := by
  obtain ⟨k, hk⟩ := (put_ev n 12 false (by decide) (by decide)).rounds
  have hc := put12_code n
  rw [if_neg (by rw [h]; decide)] at hc
  refine (num_Put.calls k n 12 false (put12 n) 5 w (hk.trans (by rw [← hc]; rfl))).mono ?_
  rintro e w' ⟨v, rfl, hR, hb⟩
  exact ⟨v, rfl, hb⟩
set_option maxHeartbeats 4000000 in
set_option maxRecDepth 100000 in
theorem bytes_calls (g : Nat) (ns : List Int) (w : World) (hg : LabAt w g ns) (hl : ns.length = 6) : Calls Tryd.prog 30 #[.pointer (some ⟨g, 0, none⟩)] w (BPost w ns) := by
  have HG := Aside0.mk hg
  have HL := Aside0.mk hl
  clear hg hl
  go_enter Tryd.func30, Tryd.ntmps30
  go_wp2_with fail
  refine (text_Put.calls _ 16 signL 0 w (by unfold text_Put.f; rw [put_sign]; rfl)).mono ?_
  rintro e w1 ⟨v0, rfl, hR, hb1⟩
  have HO := Aside0.mk (show Own w.heap.size w1 v0 signL from Kd.own_of_R hR)
  have HB1 := Aside0.mk hb1
  clear hR hb1
  go_wp2_with fail
  refine (numbers_calls g w1).mono ?_
  rintro e w2 ⟨rfl, hb2⟩
  have HS := Aside0.mk (show BRel w ns 6 v0 (.int .i64 0) w2 from ⟨0, rfl, rfl, by
    have : labHead (ns.take 0) = signL := by simp [labHead]
    rw [this]; exact own_stays HO.out (fun q hq => hb2.block q (own_lt HO.out q hq)), rfl, HB1.out.trans (hb2.mono HB1.out.size)⟩)
  clear hb2 HO HB1
  generalize hP : ptrs g = PT
  have HP := Aside0.mk hP
  clear hP
  go_wp2_with fail
  go_loopg [4, 16] 6 (fun n v4 v16 wr => BRel w ns n v4 v16 wr)
  case atStart => exact HS.out
  case round =>
    clear HS
    obtain ⟨i, rfl, hn, hO, hok, hb⟩ := hrel
    have HN := Aside0.mk hn
    have HO := Aside0.mk hO
    have HK := Aside0.mk hok
    have HB := Aside0.mk hb
    clear hn hO hok hb
    by_cases hlt : i < 6
    · have hll : i < ns.length := by rw [HL.out]; exact hlt
      have hcell := lab_cell (lab_below HG.out HB.out) i hll
      have hix : ∀ W, (Instr.index 83 (.agg PT) (.int .i64 (i : Int))).run Tryd.prog W = .ok (.pointer (some ⟨g, i, none⟩)) W := by
        rw [← HP.out]
        exact fun W => idx_ptr g i hlt W
      obtain ⟨g1, rfl⟩ : ∃ g1, gk = g1 + 1 := ⟨gk - 1, by have := HN.out; omega⟩
      by_cases hf : fits12 ns[i] = true
      · have hp := put_yes ns[i] wr hf
        have HPut := Aside0.mk hp
        have HF := Aside0.mk hf
        clear hp hf
        go_wp2_with fail
        refine HPut.out.mono ?_
        clear HPut
        rintro e w3 ⟨v, rfl, hv, hb3⟩
        have hO3 : Own w.heap.size w3 u4 (labHead (ns.take i)) := own_stays HO.out (fun q hq => hb3.block q (own_lt HO.out q hq))
        have hlen : (labHead (ns.take i)).length ≤ 100 := by
          rw [head_len _ HK.out, List.length_take]; omega
        obtain ⟨A, c, hvs, hcn, hC, _, _, _⟩ := own_C (kd := .u8) hv rfl
        subst hvs
        have hlen2 := put12_len ns[i] HF.out
        have HO3 := Aside0.mk hO3
        have HC := Aside0.mk hC
        have HL2 := Aside0.mk hlen2
        have HB3 := Aside0.mk hb3
        clear hv hO3 hC hlen2 hb3
        go_wp2_with (at_builtin; refine wpList_app_reads w3 rfl _ _ 22 rfl w.heap.size 5 Tryd.underlying22 byteInfo u4 (labHead (ns.take i)) (put12 ns[i]) rfl HO3.out A _ c rfl HC.out (by rw [HL2.out]; omega) (Nat.le_trans HB.out.size HB3.out.size) ?_; intro v5 w5 hown5 hgrow5 hloc5)
        have HB5 := Aside0.mk ((HB.out.trans (HB3.out.mono HB.out.size)).grown hgrow5 (Nat.le_trans HB.out.size HB3.out.size) (own_base HO3.out))
        have HO5 := Aside0.mk (show Own w.heap.size w5 v5 (labHead (ns.take (i + 1))) by rw [head_step ns i hll]; exact hown5)
        clear hgrow5 hown5 hloc5
        go_roundg g1
        case measure => exact Nat.lt_succ_self _
        case rel => exact ⟨i + 1, by go_num, by have := HN.out; omega, HO5.out, by rw [ok_step ns i hll, HK.out, HF.out]; rfl, HB5.out⟩
      · have hf' : fits12 ns[i] = false := by simpa using hf
        have hp := put_no ns[i] wr hf'
        have HPut := Aside0.mk hp
        have HNo := Aside0.mk (ok_no ns i hll hf')
        clear hp hf hf'
        go_wp2_with fail
        refine HPut.out.mono ?_
        clear HPut
        rintro e w3 ⟨v, rfl, hb3⟩
        have HB3 := Aside0.mk hb3
        clear hb3
        go_wp2_with fail
        go_ret2
        refine ⟨.slice none 0 0, by rw [HNo.out]; rfl, ?_, HB.out.trans (HB3.out.mono HB.out.size)⟩
        have : labOf ns = [] := by unfold labOf; rw [if_neg (by rw [HNo.out]; decide)]
        rw [this]
        exact World.ownsRow_nil w3 w.heap.size 5 1
    · obtain ⟨rfl, rfl⟩ : gk = 0 ∧ i = 6 := by have := HN.out; omega
      have htk : ns.take 6 = ns := List.take_of_length_le (by rw [HL.out]; omega)
      have hok : labOk ns = true := by have := HK.out; rw [htk] at this; exact this
      have h88 : (labHead ns).length = 88 := by rw [head_len ns hok, HL.out]
      have HO2 := Aside0.mk (show Own w.heap.size wr u4 (labHead ns) by have := HO.out; rw [htk] at this; exact this)
      have hlen : (labHead ns).length ≤ 88 := by omega
      obtain ⟨A, c, hvs, hcn, hC, _, _, _⟩ := own_C (kd := .u8) HO2.out rfl
      subst hvs
      have H88 := Aside0.mk h88
      have HOK := Aside0.mk hok
      clear h88 hok htk hC HO HK
      go_wp2_with (at_builtin; refine wpList_app_zeros wr rfl _ _ 22 3 rfl w.heap.size 5 .i64 .i64 Tryd.underlying22 Tryd.underlying3 byteInfo _ (labHead ns) rfl HO2.out 424 (by show Value.int .i64 _ = _; rw [H88.out]; rfl) (by omega) HB.out.size ?_; intro v5 w5 hown5 hgrow5 hloc5)
      go_ret2
      refine ⟨v5, by rw [HOK.out]; rfl, ?_, HB.out.grown hgrow5 HB.out.size (own_base HO2.out)⟩
      unfold labOf
      rw [if_pos HOK.out]
      exact hown5
end Go.Proofs.YtkcgioggnbnfkaaDoor.Lab
