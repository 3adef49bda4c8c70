/- The document's bytes of a label: walked once. -/
import Derived.Test.YtkcgioggnbnfkaaDoorZSpl
import Derived.Test.YtkcgioggnbnfkaaDoorZKA
import Derived.Test.YtkcgioggnbnfkaaDoorZKN
set_option linter.unusedVariables false
set_option linter.unusedSimpArgs false
namespace Go.Proofs.YtkcgioggnbnfkaaDoor.RB
open Go.RowKit Go.Proofs.YtkcgioggnbnfkaaDoorW.PrintWords Go.Proofs.YtkcgioggnbnfkaaDoorW.PrintLast Go.Proofs.YtkcgioggnbnfkaaDoorW.PrintMore Go.Proofs.YtkcgioggnbnfkaaDoorW.Mv Go.Proofs.YtkcgioggnbnfkaaDoorW.HKit Go.Proofs.YtkcgioggnbnfkaaDoorW.But Go.Proofs.YtkcgioggnbnfkaaDoorW.App Go.Proofs.YtkcgioggnbnfkaaDoorW.Rwb Go.Proofs.YtkcgioggnbnfkaaDoorW.Live Go.Proofs.YtkcgioggnbnfkaaDoor.PVolumeJoins Go.Proofs.YtkcgioggnbnfkaaDoor.CrcA Go.Proofs.YtkcgioggnbnfkaaDoor.Crc Go.Proofs.YtkcgioggnbnfkaaDoor.NumP Go.Proofs.YtkcgioggnbnfkaaDoor.NumG Go.Proofs.YtkcgioggnbnfkaaDoor.PutN Go.Proofs.YtkcgioggnbnfkaaDoor.Num Go.Proofs.YtkcgioggnbnfkaaDoor.Lab Go.Proofs.YtkcgioggnbnfkaaDoor.Read Go.Proofs.YtkcgioggnbnfkaaDoor.Open Go.Proofs.YtkcgioggnbnfkaaDoor.Vol Go.Proofs.YtkcgioggnbnfkaaDoor.Spl
set_option maxHeartbeats 1000000 in
theorem pad_live (s : ByteArray) (n : Int) (w : World) (hs : s.size ≤ 1000000) (hn : n ≤ 1000000) :
    Calls Tryd.prog 32 #[.string s, .int .i64 n] w fun e w' => ∃ v0_ : Value, e = .returned v0_ ∧ Live 5 w' w.heap.size v0_ (Txt.padOf s n) ∧ Below w.heap.size w w' := by
  have kb := fun W => print_bytes (P := Tryd.prog) 9 22 5 Tryd.underlying9 Tryd.underlying22 Tryd.underlying5 s W
  have hL := live_conv w 5 s (by omega)
  have hb0 : Below w.heap.size w (Lib.bytesWorld w 5 s) := bytes_below (Below.refl w.heap.size w) (Nat.le_refl _) 5 s
  have HL := Lib.hid hL
  have HB := Lib.hid hb0
  clear hL hb0
  go_enter Tryd.func32, Tryd.ntmps32
  go_wp2_with fail
  go_loopw [5] (fun v wr => ∃ j : Nat, j ≤ n.toNat - s.size ∧ Live 5 wr w.heap.size v (bytesOf s ++ List.replicate j 0) ∧ Below w.heap.size w wr ∧ ∃ g cap, v = .slice (some ⟨g, 0, none⟩) (s.size + j) cap) (fun v _ => n.toNat - (match v with | .slice _ k _ => k | _ => 0))
  case atStart => exact ⟨0, Nat.zero_le _, by simpa using HL.out, HB.out, _, _, rfl⟩
  case round =>
    obtain ⟨j, hj, hL, hb, g, cap, rfl⟩ := hrel
    have hln : (bytesOf s ++ List.replicate j (0 : Int)).length = s.size + j := by rw [List.length_append, bytesOf_length, List.length_replicate]
    have HN := Lib.hid hln
    clear hln
    have hz := hb.size
    by_cases hlt : ((s.size + j : Nat) : Int) < n
    · go_wp2_with (at_builtin; refine live_append (W := wr) (B := w.heap.size) rfl (.tmp 12) (.tmp 13) rfl Tryd.underlying22 Lab.byteInfo (.slice (some ⟨g, 0, none⟩) (s.size + j) cap) (bytesOf s ++ List.replicate j 0) 0 rfl rfl hL hz (by rw [HN.out]; omega) (fun v1 w1 hL1 hb1 => ?_))
      rw [Txt.padOf_step] at hL1
      obtain ⟨g1, cap1, cells1, fr1, hv1, hr1⟩ := id hL1
      have hl1 : (bytesOf s ++ List.replicate (j + 1) (0 : Int)).length = s.size + (j + 1) := by rw [List.length_append, bytesOf_length, List.length_replicate]
      rw [hl1] at hv1
      have HV := Lib.hid (show v1 = .slice (some ⟨g1, 0, none⟩) (s.size + (j + 1)) cap1 from hv1)
      clear hr1 hl1 hv1
      go_wp2
      go_roundw
      case rel => exact ⟨j + 1, by omega, hL1, hb.trans hb1, g1, cap1, HV.out⟩
      case measure => rw [HV.out]; simp; omega
    · go_wp2
      go_ret
      have hj' : j = n.toNat - s.size := by omega
      subst hj'
      exact ⟨_, rfl, hL, hb⟩
/-- The document's Put in a field of twelve. -/
theorem rput_yes (n : Int) (w : World) (h : fits12 n = true) : Calls Tryd.prog 33 #[.int .i64 n, .int .i64 12, .bool false] w fun e w' => ∃ v, e = .returned (.tuple #[v, .int .i64 0]) ∧ Own w.heap.size w' v (put12 n) ∧ Below w.heap.size w w' := by
  have h' := h
  unfold fits12 at h'
  simp at h'
  obtain ⟨k, hk⟩ := (rput_ev n 12 false (by decide) (by decide) (by omega) (by omega)).rounds
  have hc := put12_code n
  rw [if_pos h] at hc
  refine (oakumref01_Put.calls k n 12 false (put12 n) 0 w (hk.trans (by rw [← hc]; rfl))).mono ?_
  rintro e w' ⟨v, rfl, hR, hb⟩
  exact ⟨v, rfl, Kd.own_of_R hR, hb⟩
theorem rput_no (n : Int) (w : World) (h : fits12 n = false) (h0 : -9223372036854775808 ≤ n) (h1 : n ≤ 9223372036854775807) : Calls Tryd.prog 33 #[.int .i64 n, .int .i64 12, .bool false] w fun e w' => ∃ v, e = .returned (.tuple #[v, .int .i64 5]) ∧ Below w.heap.size w w' := by
  obtain ⟨k, hk⟩ := (rput_ev n 12 false (by decide) (by decide) h0 h1).rounds
  have hc := put12_code n
  rw [if_neg (by rw [h]; decide)] at hc
  refine (oakumref01_Put.calls k n 12 false (put12 n) 5 w (hk.trans (by rw [← hc]; rfl))).mono ?_
  rintro e w' ⟨v, rfl, hR, hb⟩
  exact ⟨v, rfl, hb⟩
/-- A label in its block, as the document has it. -/
def RLabAt (w : World) (g : Nat) (ns : List Int) : Prop := w.heap[g]? = some (.cells (nums .i64 ns).toArray 35 (0, 0))
theorem rlab_cell {w : World} {g : Nat} {ns : List Int} (h : RLabAt w g ns) (i : Nat) (hi : i < ns.length) : w.cell? ⟨g, i, none⟩ = some (.int .i64 ns[i]) := by
  refine (blk_cell h i).trans ?_
  simp [nums, hi]
theorem rlab_below {w w' : World} {g : Nat} {ns : List Int} (h : RLabAt w g ns) (hb : Below w.heap.size w w') : RLabAt w' g ns := (But.of_below (fun _ => False) hb).heap h (fun h => h)
theorem rlab_grown {w w' : World} {g : Nat} {ns : List Int} {row : Option Nat} (h : RLabAt w g ns) (hg : w.grownBy w' row) (hr : row ≠ some g) : RLabAt w' g ns :=
  (hg.block g (Array.getElem?_eq_some_iff.1 h).1 (fun e => hr e.symm)).trans h
theorem live_ne35 {w : World} {B L : Nat} {v : Value} {xs : List Int} {ns : List Int} (h : Live 5 w B v xs) (hL : RLabAt w L ns) (e : v.ownBlock = some L) : False := by
  obtain ⟨_, cells, fr, hc⟩ := live_typed h L e
  unfold RLabAt at hL
  rw [hc] at hL
  injection hL with hL
  injection hL with _ h3 _
  exact absurd h3 (by decide)
def RBPost (w : World) (ns : List Int) (e : Ending) (w' : World) : Prop := ∃ v, e = .returned (.tuple #[v, .bool (labOk ns)]) ∧ ((labOk ns = true ∧ Live 5 w' w.heap.size v (labOf ns)) ∨ (labOk ns = false ∧ v = .slice none 0 0)) ∧ Below w.heap.size w w'
def ARel (w : World) (ns : List Int) (n : Nat) (v4 v5 : Value) (wr : World) : Prop := ∃ i : Nat, v5 = .int .i64 i ∧ n + i = 6 ∧ Live 5 wr w.heap.size v4 (labHead (ns.take i)) ∧ (ns.take i).all fits12 = true ∧ Below w.heap.size w wr ∧ RLabAt wr w.heap.size ns
def ZRel (w : World) (ns : List Int) (n : Nat) (v4 : Value) (wr : World) : Prop := ∃ j : Nat, n + j = 424 ∧ Live 5 wr w.heap.size v4 (labHead ns ++ List.replicate j 0) ∧ Below w.heap.size w wr
theorem pad_sign : Txt.padOf { data := #[111, 97, 107, 117, 109, 32, 118, 111, 108, 117, 109, 101] } 16 = signL := by decide +kernel
set_option maxHeartbeats 8000000 in
set_option maxRecDepth 100000 in
theorem rbytes_calls (n0 n1 n2 n3 n4 n5 : Int) (w : World) (hbd : ∀ x ∈ [n0, n1, n2, n3, n4, n5], -9223372036854775808 ≤ x ∧ x ≤ 9223372036854775807) : Calls Tryd.prog 20 #[.agg #[.int .i64 n0, .int .i64 n1, .int .i64 n2, .int .i64 n3, .int .i64 n4, .int .i64 n5]] w (RBPost w [n0, n1, n2, n3, n4, n5]) := by
  have HBD := Aside0.mk hbd
  clear hbd
  go_enter Tryd.func20, Tryd.ntmps20
  go_wp2_with fail
  have HB0 := Aside0.mk ((Below.refl w.heap.size w).alloc (Nat.le_refl _) (.cells #[.int .i64 n0, .int .i64 n1, .int .i64 n2, .int .i64 n3, .int .i64 n4, .int .i64 n5] 35))
  have HL0 := Aside0.mk (show RLabAt (w.alloc (.cells #[.int .i64 n0, .int .i64 n1, .int .i64 n2, .int .i64 n3, .int .i64 n4, .int .i64 n5] 35)) w.heap.size [n0, n1, n2, n3, n4, n5] from heap_alloc_new w _)
  generalize w.alloc (.cells #[.int .i64 n0, .int .i64 n1, .int .i64 n2, .int .i64 n3, .int .i64 n4, .int .i64 n5] 35) = wa at HB0 HL0 ⊢
  obtain ⟨ns, hns⟩ : ∃ ns, ns = [n0, n1, n2, n3, n4, n5] := ⟨_, rfl⟩
  have HNS := Aside0.mk (show ns.length = 6 by rw [hns]; rfl)
  have HEQ := Aside0.mk hns
  rw [← hns] at HL0 HBD
  clear hns
  refine (pad_live _ 16 wa (by decide) (by decide)).mono ?_
  rintro e w1 ⟨v0, rfl, hL, hb1⟩
  rw [pad_sign] at hL
  obtain ⟨g, cap, cells, fr, hB', hg', r'⟩ := id hL
  have HS := Aside0.mk (show ARel w ns 6 v0 (.int .i64 0) w1 from ⟨0, rfl, rfl, by
    have : labHead (ns.take 0) = signL := by simp [labHead]
    rw [this]
    exact ⟨g, cap, cells, fr, hB', Nat.le_trans HB0.out.size hg', r'⟩, rfl, HB0.out.trans (hb1.mono HB0.out.size), rlab_below HL0.out hb1⟩)
  clear hb1 hL r' hB' hg' HB0 HL0
  go_wp2_with fail
  go_loopg [4, 5] 6 (fun n v4 v5 wr => ARel w ns n v4 v5 wr)
  case atStart => exact HS.out
  case round =>
    clear HS
    obtain ⟨i, rfl, hn, hO, hok, hb, hlb⟩ := hrel
    have HN := Aside0.mk hn
    have HO := Aside0.mk hO
    have HK := Aside0.mk hok
    have HB := Aside0.mk hb
    have HL := Aside0.mk hlb
    clear hn hO hok hb hlb
    by_cases hlt : i < 6
    · have hll : i < ns.length := by rw [HNS.out]; exact hlt
      have hcell := rlab_cell HL.out i hll
      obtain ⟨g1, rfl⟩ : ∃ g1, gk = g1 + 1 := ⟨gk - 1, by have := HN.out; omega⟩
      by_cases hf : fits12 ns[i] = true
      · have HPut := Aside0.mk (rput_yes ns[i] wr hf)
        have HF := Aside0.mk hf
        clear hf
        go_wp2_with fail
        refine HPut.out.mono ?_
        clear HPut
        rintro e w3 ⟨v, rfl, hv, hb3⟩
        have HO3 := Aside0.mk (live_moves HO.out hb3)
        have hlen : (labHead (ns.take i)).length ≤ 100 := by rw [head_len _ HK.out, List.length_take]; omega
        obtain ⟨A, c, hvs, hcn, hC, _, _, _⟩ := own_C (kd := .u8) hv rfl
        subst hvs
        have HC := Aside0.mk hC
        have HL2 := Aside0.mk (put12_len ns[i] HF.out)
        have HB3 := Aside0.mk (HB.out.trans (hb3.mono HB.out.size))
        have HL3 := Aside0.mk (rlab_below HL.out hb3)
        clear hv hC hb3 hcell
        go_wp2_with (at_builtin; refine live_app (W := w3) (B := w.heap.size) rfl (.tmp 22) (.tmp 23) rfl Tryd.underlying22 Lab.byteInfo u4 (labHead (ns.take i)) (put12 ns[i]) rfl A _ c rfl (by rw [HL2.out]; decide) HC.out HO3.out HB3.out.size (by rw [HL2.out]; omega) ?_; intro v5 w5 hlive5 hb5; have HO5 := Aside0.mk hlive5; have HB5 := Aside0.mk (HB3.out.grown hb5 HB3.out.size (fun k hk => (live_typed HO3.out k hk).1)); have HL5 := Aside0.mk (rlab_grown HL3.out hb5 (fun e => live_ne35 HO3.out HL3.out e)); clear hlive5 hb5)
        have HO6 := Aside0.mk (show Live 5 w5 w.heap.size v5 (labHead (ns.take (i + 1))) by rw [head_step ns i hll]; exact HO5.out)
        go_roundg g1
        case measure => exact Nat.lt_succ_self _
        case rel => exact ⟨i + 1, by go_num, by have := HN.out; omega, HO6.out, by rw [ok_step ns i hll, HK.out, HF.out]; rfl, HB5.out, HL5.out⟩
      · have hf' : fits12 ns[i] = false := by simpa using hf
        have hbd := HBD.out ns[i] (List.getElem_mem hll)
        have HPut := Aside0.mk (rput_no ns[i] wr hf' hbd.1 hbd.2)
        have HNo := Aside0.mk (ok_no ns i hll hf')
        clear hf hf' hbd
        go_wp2_with fail
        refine HPut.out.mono ?_
        clear HPut
        rintro e w3 ⟨v, rfl, hb3⟩
        have HB3 := Aside0.mk (HB.out.trans (hb3.mono HB.out.size))
        clear hb3 hcell
        go_wp2_with fail
        go_ret2
        rw [← HEQ.out]
        exact ⟨.slice none 0 0, by rw [HNo.out]; rfl, .inr ⟨HNo.out, rfl⟩, HB3.out⟩
    · obtain ⟨rfl, rfl⟩ : gk = 0 ∧ i = 6 := by have := HN.out; omega
      have htk : ns.take 6 = ns := List.take_of_length_le (by rw [HNS.out]; omega)
      have hok : labOk ns = true := by have := HK.out; rw [htk] at this; exact this
      have HOK := Aside0.mk hok
      have H88 := Aside0.mk (show (labHead ns).length = 88 by rw [head_len ns hok, HNS.out])
      have HZ := Aside0.mk (show ZRel w ns 424 u4 wr from ⟨0, rfl, by have := HO.out; rw [htk] at this; simpa using this, HB.out⟩)
      clear hok htk HO HK HB HL
      go_wp2_with fail
      obtain ⟨wz, hwz⟩ : ∃ wz, wz = wr := ⟨_, rfl⟩
      subst hwz
      go_loopg [4] 424 (fun n v4 wr' => ZRel w ns n v4 wr')
      case atStart => exact HZ.out
      case round =>
        clear HZ
        obtain ⟨j, hnj, hO, hb⟩ := hrel
        have hlen : (labHead ns ++ List.replicate j (0 : Int)).length = 88 + j := by rw [List.length_append, H88.out, List.length_replicate]
        obtain ⟨g, cap, cells, fr, hv4, hg'⟩ := id hO
        rw [hlen] at hv4
        have HV4 := Aside0.mk hv4
        have HNJ := Aside0.mk hnj
        have HO := Aside0.mk hO
        have HB := Aside0.mk hb
        have HLN := Aside0.mk hlen
        subst hv4
        clear hnj hO hb hlen hg'
        by_cases hlt : j < 424
        · obtain ⟨g1, rfl⟩ : ∃ g1, gk = g1 + 1 := ⟨gk - 1, by have := HNJ.out; omega⟩
          go_wp2_with (at_builtin; refine live_append (W := wr) (B := w.heap.size) rfl (.tmp 28) (.tmp 29) rfl Tryd.underlying22 Lab.byteInfo (.slice (some ⟨g, 0, none⟩) (88 + j) cap) (labHead ns ++ List.replicate j 0) 0 rfl rfl HO.out HB.out.size (by rw [HLN.out]; omega) (fun v1 w1 hL1 hb1 => ?_); have HL1 := Aside0.mk (show Live 5 w1 w.heap.size v1 (labHead ns ++ List.replicate (j + 1) 0) by rw [List.replicate_succ', ← List.append_assoc]; exact hL1); have HB1 := Aside0.mk (HB.out.trans hb1); clear hL1 hb1)
          go_roundg g1
          case measure => exact Nat.lt_succ_self _
          case rel => exact ⟨j + 1, by have := HNJ.out; omega, HL1.out, HB1.out⟩
        · obtain ⟨rfl, rfl⟩ : gk = 0 ∧ j = 424 := by have := HNJ.out; omega
          go_wp2_with fail
          go_ret2
          rw [← HEQ.out]
          refine ⟨.slice (some ⟨g, 0, none⟩) (88 + 424) cap, by rw [HOK.out]; rfl, .inl ⟨HOK.out, ?_⟩, HB.out⟩
          unfold labOf
          rw [if_pos HOK.out]
          exact HO.out
end Go.Proofs.YtkcgioggnbnfkaaDoor.RB
