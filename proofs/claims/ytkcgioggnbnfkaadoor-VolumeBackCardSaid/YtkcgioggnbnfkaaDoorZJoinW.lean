/- volume.Join and Missing over volumes that fit together: walked once. -/
import Derived.Test.YtkcgioggnbnfkaaDoorZSetW
set_option linter.unusedVariables false
set_option linter.unusedSimpArgs false
namespace Go.Proofs.YtkcgioggnbnfkaaDoor.JoinW
open Go Go.RowKit Go.Proofs.YtkcgioggnbnfkaaDoorW.PrintWords Go.Proofs.YtkcgioggnbnfkaaDoorW.PrintLast Go.Proofs.YtkcgioggnbnfkaaDoorW.PrintMore Go.Proofs.YtkcgioggnbnfkaaDoorW.Mv Go.Proofs.YtkcgioggnbnfkaaDoorW.HKit Go.Proofs.YtkcgioggnbnfkaaDoorW.But Go.Proofs.YtkcgioggnbnfkaaDoorW.App Go.Proofs.YtkcgioggnbnfkaaDoorW.Rwb Go.Proofs.YtkcgioggnbnfkaaDoorW.Mps Go.Proofs.YtkcgioggnbnfkaaDoor.PVolumeJoins Go.Proofs.YtkcgioggnbnfkaaDoor.CrcA Go.Proofs.YtkcgioggnbnfkaaDoor.Crc Go.Proofs.YtkcgioggnbnfkaaDoor.NumP Go.Proofs.YtkcgioggnbnfkaaDoor.NumG Go.Proofs.YtkcgioggnbnfkaaDoor.Num Go.Proofs.YtkcgioggnbnfkaaDoor.Lab Go.Proofs.YtkcgioggnbnfkaaDoor.Read Go.Proofs.YtkcgioggnbnfkaaDoor.Open Go.Proofs.YtkcgioggnbnfkaaDoor.Vol Go.Proofs.YtkcgioggnbnfkaaDoor.Spl Go.Proofs.YtkcgioggnbnfkaaDoor.SetW
set_option maxRecDepth 100000 in
theorem clone_any (A : Option Addr) (n c : Nat) (xs : List Int) (w : World) (hr : Kd.C (Kd.int .u8) w A n xs) (hnil : A = none → n = 0 ∧ c = 0) (hlen : n * 1 ≤ 140737488355328) :
    Calls Tryd.prog 28 #[.slice A n c] w fun e w' => ∃ v1, e = .returned v1 ∧ w'.ownsRow w.heap.size 5 1 v1 xs.length (nums .u8 xs) ∧ Below w.heap.size w w' := by
  have hn : xs.length = n := C_len hr
  rcases A with _ | ad
  · obtain ⟨rfl, rfl⟩ := hnil rfl
    obtain rfl : xs = [] := List.eq_nil_of_length_eq_zero hn
    have heq : ∀ W : World, (binOp .eql 22 (.slice none 0 0) (.slice none 0 0)).run Tryd.prog W = .ok (.bool true) W := fun W => Lib.run_eql_slice_nil W 22 5 none 0 0 0 0 Tryd.underlying22
    clear hr hnil hn
    go_enter Tryd.func28, Tryd.ntmps28
    go_wp2_with fail
    go_ret
    exact ⟨_, rfl, ⟨rfl, .inl ⟨rfl, rfl⟩⟩, Below.refl _ _⟩
  · have hrd : ReadsInt w .u8 (some ad) n xs := Kd.reads_of_C (enc := Value.int .u8) (d := (0 : Int)) (h1 := fun _ => rfl) hr
    have HR := Aside0.mk hrd
    clear hr hrd hnil
    have heq : ∀ W : World, (binOp .eql 22 (.slice (some ad) n c) (.slice none 0 0)).run Tryd.prog W = .ok (.bool false) W := fun W => Lib.run_eql_slice_nil W 22 5 (some ad) n c 0 0 Tryd.underlying22
    have how : (w.alloc (.cells #[] 5)).ownsRow w.heap.size 5 1 (.slice (some ⟨w.heap.size, 0, none⟩) 0 0) ([] : List Int).length (nums .u8 []) := ⟨rfl, .inr ⟨w.heap.size, 0, #[], rfl, Nat.le_refl _, heap_alloc_new w _, Nat.le_refl _, Nat.zero_le _, rfl, rfl⟩⟩
    have hba : Below w.heap.size w (w.alloc (.cells #[] 5)) := (Below.refl _ _).alloc (Nat.le_refl _) _
    have HO := Aside0.mk how
    have HB := Aside0.mk hba
    clear how hba
    go_enter Tryd.func28, Tryd.ntmps28
    go_wp2_with (at_builtin; refine print_append_row (w0 := w) (W := w.alloc (.cells #[] 5)) w.heap.size rfl (.tmp 5) (.tmp 6) 22 5 .u8 1 rfl Tryd.underlying22 Lab.byteInfo (by decide) (.slice (some ⟨w.heap.size, 0, none⟩) 0 0) [] xs (some ad) n c rfl rfl HO.out (ReadsInt.below HR.out HB.out) HB.out (by simp) (by simp; omega) (fun v1 w1 h1 hb _ _ => ?_))
    go_ret
    exact ⟨_, rfl, by simpa using h1, hb⟩
/-- The part of a volume. -/
noncomputable def partOf (x : List Int) : List Int := (openOf x).2.1
/-- What Join hands back. -/
def JPost (w : World) (xs : List Int) (code : Int) (e : Ending) (w' : World) : Prop := ∃ v, e = .returned (.tuple #[v, .int .i64 0, .int .u8 code]) ∧ Own w.heap.size w' v xs ∧ Below w.heap.size w w'
set_option maxHeartbeats 8000000 in
set_option maxRecDepth 100000 in
theorem join_none (A : Option Addr) (c : Nat) (L : List (List Int)) (cnt whole all : Int) (w : World) (hR : RowsB w A c L) (hF : Fit L cnt whole all) (hno : L.length = 0 ∨ ((dd (L.map num)).length : Int) < cnt) : Calls Tryd.prog 13 #[.slice A L.length c] w (JPost w [] 16) := by
  have HSet := Aside0.mk (set_ok A c L cnt whole all w hR hF)
  have HNo := Aside0.mk hno
  obtain ⟨n, hn⟩ : ∃ n, n = L.length := ⟨_, rfl⟩
  have HN := Aside0.mk hn
  rw [← hn] at HSet ⊢
  clear hR hF hno hn
  by_cases h0 : n = 0
  · subst h0
    go_enter Tryd.func13, Tryd.ntmps13
    go_wp2_with fail
    refine HSet.out.mono ?_
    clear HSet
    rintro e w1 ⟨bm, D, f0, f1, f2, f3, f4, f5, rfl, _, _, _, _, hb1⟩
    have HB := Aside0.mk (hb1.alloc hb1.size (.cells #[.int .i64 f0, .int .i64 f1, .int .i64 f2, .int .i64 f3, .int .i64 f4, .int .i64 f5] 54))
    clear hb1
    go_wp2_with fail
    go_ret3
    exact ⟨.slice none 0 0, rfl, World.ownsRow_nil _ _ _ _, HB.out⟩
  · have hn0 : ((n : Int) == 0) = false := by simp; omega
    go_enter Tryd.func13, Tryd.ntmps13
    go_wp2_with fail
    refine HSet.out.mono ?_
    clear HSet
    rintro e w1 ⟨bm, D, f0, f1, f2, f3, f4, f5, rfl, hf, _, hM, hG, hb1⟩
    have HB := Aside0.mk (hb1.alloc hb1.size (.cells #[.int .i64 f0, .int .i64 f1, .int .i64 f2, .int .i64 f3, .int .i64 f4, .int .i64 f5] 54))
    have HM := Aside0.mk (map_below hM ((Below.refl w1.heap.size w1).alloc (Nat.le_refl _) (.cells #[.int .i64 f0, .int .i64 f1, .int .i64 f2, .int .i64 f3, .int .i64 f4, .int .i64 f5] 54)))
    have hlt : ((Go.Maps.size D : Nat) : Int) < f1 := by
      have h1 := (hf (by rw [← HN.out]; omega)).1
      rw [hG.size, h1]
      rcases HNo.out with h | h
      · rw [← HN.out] at h; exact absurd h h0
      · exact h
    clear hb1 hf hM hG
    have hmlen := HM.out.len Tryd.underlying65 3
    go_wp2_with fail
    go_ret3
    exact ⟨.slice none 0 0, rfl, World.ownsRow_nil _ _ _ _, HB.out⟩
/-- The volume of a number. -/
noncomputable def byNum (L : List (List Int)) (k : Nat) : List Int := (L.find? (fun x => decide (num x = (k : Int)))).getD []
theorem byNum_of {L : List (List Int)} {k : Nat} (h : ∃ x ∈ L, num x = (k : Int)) : byNum L k ∈ L ∧ num (byNum L k) = (k : Int) := by
  obtain ⟨x, hx, hn⟩ := h
  unfold byNum
  cases hf : L.find? (fun x => decide (num x = (k : Int))) with
  | none =>
    have := List.find?_eq_none.1 hf x hx
    simp [hn] at this
  | some y =>
    exact ⟨List.mem_of_find?_eq_some hf, by have := List.find?_some hf; simpa using this⟩
noncomputable def outOf (L : List (List Int)) (k : Nat) : List Int := (List.range k).flatMap (fun j => partOf (byNum L j))
theorem outOf_succ (L : List (List Int)) (k : Nat) : outOf L (k + 1) = outOf L k ++ partOf (byNum L k) := by
  unfold outOf
  rw [List.range_succ, List.flatMap_append]
  simp
theorem own_ne5 {w : World} {B n L : Nat} {v : Value} {cs : List Value} {ns : List Int} (h : w.ownsRow B 5 1 v n cs) (hL : LabAt w L ns) (e : v.ownBlock = some L) : False := by
  obtain ⟨cells, hc⟩ := own_typed h L e
  unfold LabAt at hL
  rw [hc] at hL
  injection hL with hL
  injection hL with _ h3 _
  exact absurd h3 (by decide)
def JRel (w w1 : World) (L : List (List Int)) (bm F m : Nat) (D : DataW Value) (fs : List Int) (n' : Nat) (v9 v37 : Value) (wr : World) : Prop := ∃ k : Nat, v37 = .int .i64 k ∧ n' + k = m ∧ Own w.heap.size wr v9 (outOf L k) ∧ wr.ownsMap Tryd.prog 2 heldR bm L.length D ∧ LabAt wr F fs ∧ Below w.heap.size w wr
theorem part_small (x : List Int) (h : x.length ≤ 100000) : (partOf x).length ≤ 100000 := by
  unfold partOf openOf
  split
  · simp
  · split
    · split
      · show (((x.drop 512).take _).length ≤ _)
        rw [List.length_take, List.length_drop]; omega
      · simp
    · simp
theorem part_bd2 (x : List Int) (h : ∀ z ∈ x, 0 ≤ z ∧ z ≤ 255) : ∀ z ∈ partOf x, 0 ≤ z ∧ z ≤ 255 := by
  intro z hz
  unfold partOf openOf at hz
  split at hz
  · cases hz
  · split at hz
    · split at hz
      · exact h z (List.mem_of_mem_drop (List.mem_of_mem_take hz))
      · cases hz
    · cases hz
set_option maxHeartbeats 8000000 in
set_option maxRecDepth 100000 in
theorem join_fine (A : Option Addr) (c m : Nat) (L : List (List Int)) (whole all : Int) (w : World) (hR : RowsB w A c L) (hF : Fit L (m : Int) whole all) (hm : m ≤ 100) (h0 : 0 < L.length) (hall : ∀ k, k < m → ∃ x ∈ L, num x = (k : Int)) (hbig : m ≤ (dd (L.map num)).length)
    (hwh : ((outOf L m).length : Int) = whole) (hcr : ((crcSum (outOf L m) : Nat) : Int) = all) (hsm : ∀ k, k ≤ m → (outOf L k).length ≤ 1000000) : Calls Tryd.prog 13 #[.slice A L.length c] w (JPost w (outOf L m) 0) := by
  have HSet := Aside0.mk (set_ok A c L m whole all w hR hF)
  have HAll := Aside0.mk hall
  have HF := Aside0.mk hF
  have HWH := Aside0.mk hwh
  have HCR := Aside0.mk hcr
  have HSM := Aside0.mk hsm
  have HBG := Aside0.mk hbig
  have HOB := Aside0.mk (show ∀ k, k ≤ m → ∀ z ∈ outOf L k, 0 ≤ z ∧ z ≤ 255 from fun k hk z hz => by
    unfold outOf at hz
    obtain ⟨j, hj, hz⟩ := List.mem_flatMap.1 hz
    have hjk : j < k := List.mem_range.1 hj
    exact part_bd2 _ (hF.bytes _ (byNum_of (hall j (by omega))).1) z hz)
  obtain ⟨n, hn⟩ : ∃ n, n = L.length := ⟨_, rfl⟩
  have HN := Aside0.mk hn
  rw [← hn] at HSet h0 ⊢
  clear hR hF hall hwh hcr hsm hbig hn
  have hn0 : ((n : Int) == 0) = false := by simp; omega
  go_enter Tryd.func13, Tryd.ntmps13
  go_wp2_with fail
  refine HSet.out.mono ?_
  clear HSet
  rintro e w1 ⟨bm, D, f0, f1, f2, f3, f4, f5, rfl, hf, _, hM, hG, hb1⟩
  obtain ⟨e1, e2, e4⟩ := hf (by rw [← HN.out]; omega)
  subst e1
  have HB := Aside0.mk (hb1.alloc hb1.size (.cells #[.int .i64 f0, .int .i64 (m : Int), .int .i64 f2, .int .i64 f3, .int .i64 f4, .int .i64 f5] 54))
  have HM := Aside0.mk (map_below hM ((Below.refl w1.heap.size w1).alloc (Nat.le_refl _) (.cells #[.int .i64 f0, .int .i64 (m : Int), .int .i64 f2, .int .i64 f3, .int .i64 f4, .int .i64 f5] 54)))
  have HL := Aside0.mk (show LabAt (w1.alloc (.cells #[.int .i64 f0, .int .i64 (m : Int), .int .i64 f2, .int .i64 f3, .int .i64 f4, .int .i64 f5] 54)) w1.heap.size [f0, (m : Int), f2, f3, f4, f5] from heap_alloc_new w1 _)
  have HG := Aside0.mk hG
  have HF2 := Aside0.mk e2
  have HF4 := Aside0.mk e4
  have HFW := Aside0.mk hb1.size
  have hlt : ¬ ((Go.Maps.size D : Nat) : Int) < (m : Int) := by
    rw [hG.size]
    have := HBG.out
    omega
  have hltd : decide (((Go.Maps.size D : Nat) : Int) < (m : Int)) = false := decide_eq_false hlt
  have hltd2 : decide (Go.Maps.size D < m) = false := decide_eq_false (by omega)
  clear hb1 hf hM hG e2 e4
  have hmlen := HM.out.len Tryd.underlying65 3
  go_wp2_with fail
  generalize w1.alloc (.cells #[.int .i64 f0, .int .i64 (m : Int), .int .i64 f2, .int .i64 f3, .int .i64 f4, .int .i64 f5] 54) = wa at HB HM HL hmlen ⊢
  generalize w1.heap.size = F at HL HFW ⊢
  have HS := Aside0.mk (show JRel w w L bm F m D [f0, (m : Int), f2, f3, f4, f5] m (.slice none 0 0) (.int .i64 0) wa from ⟨0, rfl, rfl, World.ownsRow_nil _ _ _ _, HM.out, HL.out, HB.out⟩)
  clear HM HL HB hmlen
  go_loopg [9, 37] m (fun n' v9 v37 wr => JRel w w L bm F m D [f0, (m : Int), f2, f3, f4, f5] n' v9 v37 wr)
  case atStart => exact HS.out
  case round =>
    clear HS
    obtain ⟨k, rfl, hnk, hO, hM, hL, hB⟩ := hrel
    have HNK := Aside0.mk hnk
    have HO := Aside0.mk hO
    have HM := Aside0.mk hM
    have HL := Aside0.mk hL
    have HB := Aside0.mk hB
    clear hnk hO hM hL hB
    by_cases hlt2 : k < m
    · obtain ⟨hxm, hxn⟩ := byNum_of (HAll.out k hlt2)
      obtain ⟨x, hx⟩ : ∃ x, x = byNum L k := ⟨_, rfl⟩
      rw [← hx] at hxm hxn
      obtain ⟨y, hy, hyn, Ax, cx, hxc, hCx, hat⟩ := HG.out.some x hxm
      have hyx : x = y := (HF.out.one y hy x hxm hyn).symm
      subst hyx
      have HKey := Aside0.mk (show keyOf Tryd.prog 2 (.int .i64 (k : Int)) = some (.int .i64 (k : Int)) by have := HF.out.key x hxm; rw [hxn] at this; exact Go.Maps.keyOf_int_mk Tryd.underlying2 this)
      have HAt := Aside0.mk (by have := hat (.held (.slice none 0 0)); rw [hxn] at this; exact this)
      have HOp := Aside0.mk (open_calls Ax x.length cx x wr (Kd.C_below hCx HB.out) hxc (HF.out.bytes x hxm) (HF.out.size x hxm))
      have HPs := Aside0.mk (part_small x (HF.out.size x hxm))
      have HSk := Aside0.mk (HSM.out k (by omega))
      have HX := Aside0.mk (show outOf L (k + 1) = outOf L k ++ partOf x by rw [outOf_succ, hx])
      obtain ⟨n0, n1, n2, n3, n4, n5, h6⟩ := openOf_six x
      have H6 := Aside0.mk h6
      clear hx hxm hxn hy hyn hat hCx h6
      go_wp2_with (at_lookup; refine wpList_look wr rfl (.tmp 41) (.tmp 42) 65 rfl 2 22 law Tryd.underlying65 (zeroE _) bm L.length D rfl HM.out _ (.int .i64 (k : Int)) rfl HKey.out (.slice Ax x.length cx) HAt.out ?_)
      refine HOp.out.mono ?_
      clear HOp
      rintro e w2 ⟨A1, c1, rfl, hlc1, hC1, hb2⟩
      rw [H6.out, show (nums .i64 [n0, n1, n2, n3, n4, n5]).toArray = #[.int .i64 n0, .int .i64 n1, .int .i64 n2, .int .i64 n3, .int .i64 n4, .int .i64 n5] from rfl]
      have hb3 := hb2.trans ((Below.refl w2.heap.size w2).alloc (Nat.le_refl _) (.cells #[.int .i64 n0, .int .i64 n1, .int .i64 n2, .int .i64 n3, .int .i64 n4, .int .i64 n5] 54) |>.mono hb2.size)
      have HO3 := Aside0.mk (own_stays HO.out (fun q hq => hb3.block q (own_lt HO.out q hq)))
      have HM3 := Aside0.mk (map_below HM.out hb3)
      have HL3 := Aside0.mk (lab_below HL.out hb3)
      have HB3 := Aside0.mk (HB.out.trans (hb3.mono HB.out.size))
      have HC3 := Aside0.mk (Kd.C_below hC1 hb3)
      clear hb2 hb3 hC1 HO HM HL
      generalize hpt : (openOf x).2.1 = pt at HC3 hlc1 ⊢
      have HPT := Aside0.mk (show partOf x = pt from hpt)
      have hptl : pt.length ≤ 100000 := by rw [← HPT.out]; exact HPs.out
      have hskl := HSk.out
      clear hpt
      go_wp2_with (at_builtin; refine wpList_app_reads (w2.alloc (.cells #[.int .i64 n0, .int .i64 n1, .int .i64 n2, .int .i64 n3, .int .i64 n4, .int .i64 n5] 54)) rfl (.tmp 48) (.tmp 49) 22 rfl w.heap.size 5 Tryd.underlying22 Lab.byteInfo u9 (outOf L k) pt rfl HO3.out A1 pt.length c1 rfl HC3.out (by omega) HB3.out.size ?_; intro v4 w4 hown4 hgrow4 hloc4)
      have HO4 := Aside0.mk (show Own w.heap.size w4 v4 (outOf L (k + 1)) by rw [HX.out, HPT.out]; exact hown4)
      have HM4 := Aside0.mk (map_other HM3.out (hgrow4.block bm HM3.out.lt (fun e => by obtain ⟨cells, hc⟩ := own_typed HO3.out bm e.symm; exact map_ne HM3.out hc rfl)))
      have HL4 := Aside0.mk (lab_grown HL3.out hgrow4 (fun e => own_ne5 HO3.out HL3.out e))
      have HB4 := Aside0.mk (HB3.out.grown hgrow4 HB3.out.size (own_base HO3.out))
      clear hown4 hgrow4 hloc4
      obtain ⟨gg, rfl⟩ : ∃ gg, gk = gg + 1 := ⟨gk - 1, by have := HNK.out; omega⟩
      go_roundg gg
      case measure => exact Nat.lt_succ_self _
      case rel => exact ⟨k + 1, by go_num, by have := HNK.out; omega, HO4.out, HM4.out, HL4.out, HB4.out⟩
    · obtain ⟨rfl, rfl⟩ : gk = 0 ∧ k = m := by have := HNK.out; omega
      have hc2 := lab_cell HL.out 2 (by simp)
      have hc4 := lab_cell HL.out 4 (by simp)
      simp only [List.getElem_cons_succ, List.getElem_cons_zero] at hc2 hc4
      obtain ⟨A9, c9, hv9, hlc9, hC9, _, hnil9, _⟩ := own_C (kd := .u8) HO.out rfl
      subst hv9
      have hob := HOB.out k (Nat.le_refl _)
      obtain ⟨out, hout⟩ : ∃ out, out = outOf L k := ⟨_, rfl⟩
      have HOut := Aside0.mk hout
      rw [← hout] at hlc9 hC9 hnil9 hob ⊢
      have HWH2 := Aside0.mk (show ((out.length : Int) != f2) = false by rw [hout, HWH.out, HF2.out]; simp)
      have HCR2 := Aside0.mk (show (((crcSum out : Nat) : Int) != f4) = false by rw [hout, HCR.out, HF4.out]; simp)
      have hsl : out.length ≤ 1000000 := by rw [hout]; exact HSM.out k (Nat.le_refl _)
      have HCl := Aside0.mk hC9
      have HNil := Aside0.mk hnil9
      have HOB2 := Aside0.mk hob
      clear hout hC9 hnil9 hob
      have hwh := HWH2.out
      go_upto_region 15 with (fail)
      have HS5 := Aside0.mk (show Hid (Below wr.heap.size wr wr.drew) ∧ wr.drew.cell? ⟨F, 4, none⟩ = some (.int .i64 f4) from ⟨Lib.hid (Below.refl _ wr).drew, hc4⟩)
      have HSm := Aside0.mk (sum_any A9 out.length c9 out wr.drew (Kd.C_below HCl.out (Below.refl _ wr).drew) hlc9 HOB2.out)
      have hcv : IntKind.i64.wrap ((crcSum out : Nat) : Int) = ((crcSum out : Nat) : Int) := by rw [IntKind.wrap_i64]; have := crcSum_lt out HOB2.out; omega
      have hcn := HCR2.out
      refine wp_region_held_drew (S := (fun W : World => Hid (Below wr.heap.size wr W) ∧ W.cell? ⟨F, 4, none⟩ = some (.int .i64 f4))) (by kernel_rfl) ?_ (fun hHeld => ?_)
      · exact HS5.out
      refine wpAnyH_take (i := 0) (v := ?_) rfl (by kernel_rfl) (by kernel_rfl) (by kernel_rfl) (fun _ _ _ h => h) (Or.inl ⟨by rfl, ?_⟩) (by assumption) ?_; rotate_left; focus (intro w hSw; (try dsimp only at hSw); simp only [List.getElem_toArray, List.getElem_cons_succ, List.getElem_cons_zero]; go_simp; (try (with_reducible rfl)))
      simp only [List.getElem_toArray, List.getElem_cons_succ, List.getElem_cons_zero, Act.put, List.setIfInBounds_toArray, List.set_cons_zero, List.set_cons_succ]
      refine wpAnyH_take (i := 3) (v := ?_) rfl (by kernel_rfl) (by kernel_rfl) (by kernel_rfl) (fun _ _ _ h => h) (Or.inl ⟨by rfl, ?_⟩) (by assumption) ?_; rotate_left; focus (intro w hSw; (try dsimp only at hSw); simp only [List.getElem_toArray, List.getElem_cons_succ, List.getElem_cons_zero]; go_simp; (try (with_reducible rfl)))
      simp only [List.getElem_toArray, List.getElem_cons_succ, List.getElem_cons_zero, Act.put, List.setIfInBounds_toArray, List.set_cons_zero, List.set_cons_succ]
      refine wpAnyH_take (i := 4) (v := ?_) rfl (by kernel_rfl) (by kernel_rfl) (by kernel_rfl) (fun _ _ _ h => h) (Or.inl ⟨by rfl, ?_⟩) (by assumption) ?_; rotate_left; focus (intro w hSw; (try dsimp only at hSw); simp only [List.getElem_toArray, List.getElem_cons_succ, List.getElem_cons_zero]; go_simp; (try (with_reducible rfl)))
      simp only [List.getElem_toArray, List.getElem_cons_succ, List.getElem_cons_zero, Act.put, List.setIfInBounds_toArray, List.set_cons_zero, List.set_cons_succ]
      refine wpAnyH_ready (rs := [1]) (by kernel_rfl) (by simp) ?_
      refine AllReadyH.cons rfl (fun K hK => ?_) AllReadyH.nil
      go_simp
      (with_reducible refine (HSm.out).mono ?_)
      rintro e w6 ⟨rfl, hb6⟩
      refine hK.out _ _ ⟨Lib.hid ((Below.refl _ wr).drew.trans hb6), pw_cell_below (w := wr.drew) hb6 hc4⟩ (fun hHeld => ?_)
      clear hK K
      try simp only [List.getElem_toArray, List.getElem_cons_succ, List.getElem_cons_zero, Act.put, List.setIfInBounds_toArray, List.set_cons_zero, List.set_cons_succ]
      refine wpAnyH_take (i := 2) (v := ?_) rfl (by kernel_rfl) (by kernel_rfl) (by kernel_rfl) (fun _ _ _ h => h) (Or.inl ⟨by rfl, ?_⟩) (by assumption) ?_; rotate_left; focus (intro w hSw; (try dsimp only at hSw); simp only [List.getElem_toArray, List.getElem_cons_succ, List.getElem_cons_zero]; go_simp; (try (with_reducible rfl)))
      simp only [List.getElem_toArray, List.getElem_cons_succ, List.getElem_cons_zero, Act.put, List.setIfInBounds_toArray, List.set_cons_zero, List.set_cons_succ]
      refine wpAnyH_take (i := 5) (v := ?_) rfl (by kernel_rfl) (by kernel_rfl) (by kernel_rfl) (fun _ _ _ h => h) (Or.inl ⟨by rfl, ?_⟩) (by assumption) ?_; rotate_left; focus (intro w hSw; (try dsimp only at hSw); simp only [List.getElem_toArray, List.getElem_cons_succ, List.getElem_cons_zero]; go_simp; (try (with_reducible rfl)))
      simp only [List.getElem_toArray, List.getElem_cons_succ, List.getElem_cons_zero, Act.put, List.setIfInBounds_toArray, List.set_cons_zero, List.set_cons_succ]
      refine wpAnyH_take (i := 6) (v := ?_) rfl (by kernel_rfl) (by kernel_rfl) (by kernel_rfl) (fun _ _ _ h => h) (Or.inl ⟨by rfl, ?_⟩) (by assumption) ?_; rotate_left; focus (intro w hSw; (try dsimp only at hSw); simp only [List.getElem_toArray, List.getElem_cons_succ, List.getElem_cons_zero]; go_simp; (try (with_reducible rfl)))
      simp only [List.getElem_toArray, List.getElem_cons_succ, List.getElem_cons_zero, Act.put, List.setIfInBounds_toArray, List.set_cons_zero, List.set_cons_succ]
      refine wpAnyH_done (by kernel_rfl) ?_ _
      have HB6 := Aside0.mk hHeld.1.out
      clear hHeld hb6
      go_wp2_with fail
      refine (clone_any A9 out.length c9 out w6 (Kd.C_below HCl.out HB6.out) HNil.out (by omega)).mono ?_
      rintro e w7 ⟨v7, rfl, hO7, hb7⟩
      have HO7 := Aside0.mk (own_weaken hO7 (Nat.le_trans HB.out.size HB6.out.size))
      have HB7 := Aside0.mk (HB.out.trans ((HB6.out.trans (hb7.mono HB6.out.size)).mono HB.out.size))
      clear hO7 hb7
      go_wp2_with fail
      go_ret3
      rw [← HOut.out]
      exact ⟨v7, rfl, HO7.out, HB7.out⟩
/-- Which numbers below so many no volume bears. -/
noncomputable def missOf (L : List (List Int)) (k : Nat) : List Int := (List.range k).filterMap (fun (j : Nat) => if (j : Int) ∈ L.map num then none else some (j : Int))
theorem missOf_succ (L : List (List Int)) (k : Nat) : missOf L (k + 1) = missOf L k ++ (if (k : Int) ∈ L.map num then [] else [(k : Int)]) := by
  unfold missOf
  rw [List.range_succ, List.filterMap_append]
  congr 1
  by_cases h : (k : Int) ∈ L.map num
  · simp only [List.filterMap_cons, List.filterMap_nil, if_pos h]
  · simp only [List.filterMap_cons, List.filterMap_nil, if_neg h]
theorem missOf_len (L : List (List Int)) (k : Nat) : (missOf L k).length ≤ k := by
  unfold missOf
  have := List.length_filterMap_le (fun (j : Nat) => if (j : Int) ∈ L.map num then none else some (j : Int)) (List.range k)
  rwa [List.length_range] at this
/-- What Missing hands back. -/
def MPost (w : World) (ms : List Int) (e : Ending) (w' : World) : Prop := ∃ v, e = .returned (.tuple #[v, .int .u8 0]) ∧ w'.ownsRow w.heap.size 2 1 v ms.length (nums .i64 ms) ∧ Below w.heap.size w w'
theorem intInfo : (Tryd.prog.info? 2).map (fun i => (i.zero, i.size, i.bytes)) = some (some (.int .i64 0), 1, 8) := by kernel_rfl
theorem fine_long (x : List Int) (h : (openOf x).2.2 = 0) : 512 ≤ x.length := by
  unfold openOf at h
  by_cases hl : x.length < 512
  · rw [if_pos hl] at h; exact absurd h (by decide)
  · omega
theorem own_ne2 {w : World} {B n L : Nat} {v : Value} {cs : List Value} {ns : List Int} (h : w.ownsRow B 2 1 v n cs) (hL : LabAt w L ns) (e : v.ownBlock = some L) : False := by
  obtain ⟨cells, hc⟩ := own_typed h L e
  unfold LabAt at hL
  rw [hc] at hL
  injection hL with hL
  injection hL with _ h3 _
  exact absurd h3 (by decide)
def MRel (w : World) (L : List (List Int)) (bm F m : Nat) (D : DataW Value) (fs : List Int) (n' : Nat) (v8 v9 : Value) (wr : World) : Prop := ∃ k : Nat, v9 = .int .i64 k ∧ n' + k = m ∧ wr.ownsRow w.heap.size 2 1 v8 (missOf L k).length (nums .i64 (missOf L k)) ∧ wr.ownsMap Tryd.prog 2 heldR bm L.length D ∧ LabAt wr F fs ∧ Below w.heap.size w wr
theorem own_slice {w : World} {B e s n : Nat} {v : Value} {xs : List Value} (h : w.ownsRow B e s v n xs) : ∃ A c, v = .slice A n c ∧ n ≤ c := by
  rcases h.2 with ⟨rfl, rfl⟩ | ⟨g, cap, cur, rfl, _, _, hnc, _⟩
  · exact ⟨none, 0, rfl, Nat.le_refl _⟩
  · exact ⟨_, _, rfl, hnc⟩
set_option maxHeartbeats 8000000 in
set_option maxRecDepth 100000 in
theorem missing_ok (A : Option Addr) (c m : Nat) (L : List (List Int)) (whole all : Int) (w : World) (hR : RowsB w A c L) (hF : Fit L (m : Int) whole all) (hm : m ≤ 100) (h0 : L.length = 0 → m = 0) : Calls Tryd.prog 16 #[.slice A L.length c] w (MPost w (missOf L m)) := by
  have HSet := Aside0.mk (set_ok A c L m whole all w hR hF)
  have HF := Aside0.mk hF
  have H0 := Aside0.mk h0
  obtain ⟨n, hn⟩ : ∃ n, n = L.length := ⟨_, rfl⟩
  have HN := Aside0.mk hn
  rw [← hn] at HSet ⊢
  clear hR hF h0 hn
  go_enter Tryd.func16, Tryd.ntmps16
  go_wp2_with fail
  refine HSet.out.mono ?_
  clear HSet
  rintro e w1 ⟨bm, D, f0, f1, f2, f3, f4, f5, rfl, hf, hz, hM, hG, hb1⟩
  have e1 : f1 = (m : Int) := by
    by_cases hl : L.length = 0
    · rw [hz hl, H0.out hl]; rfl
    · exact (hf (by omega)).1
  subst e1
  have HB := Aside0.mk (hb1.alloc hb1.size (.cells #[.int .i64 f0, .int .i64 (m : Int), .int .i64 f2, .int .i64 f3, .int .i64 f4, .int .i64 f5] 54))
  have HM := Aside0.mk (map_below hM ((Below.refl w1.heap.size w1).alloc (Nat.le_refl _) (.cells #[.int .i64 f0, .int .i64 (m : Int), .int .i64 f2, .int .i64 f3, .int .i64 f4, .int .i64 f5] 54)))
  have HL := Aside0.mk (show LabAt (w1.alloc (.cells #[.int .i64 f0, .int .i64 (m : Int), .int .i64 f2, .int .i64 f3, .int .i64 f4, .int .i64 f5] 54)) w1.heap.size [f0, (m : Int), f2, f3, f4, f5] from heap_alloc_new w1 _)
  have HG := Aside0.mk hG
  have HFW := Aside0.mk hb1.size
  clear hb1 hf hz hM hG
  go_wp2_with fail
  generalize w1.alloc (.cells #[.int .i64 f0, .int .i64 (m : Int), .int .i64 f2, .int .i64 f3, .int .i64 f4, .int .i64 f5] 54) = wa at HB HM HL ⊢
  generalize w1.heap.size = F at HL HFW ⊢
  have HS := Aside0.mk (show MRel w L bm F m D [f0, (m : Int), f2, f3, f4, f5] m (.slice none 0 0) (.int .i64 0) wa from ⟨0, rfl, rfl, World.ownsRow_nil _ _ _ _, HM.out, HL.out, HB.out⟩)
  clear HM HL HB
  go_loopg [8, 9] m (fun n' v8 v9 wr => MRel w L bm F m D [f0, (m : Int), f2, f3, f4, f5] n' v8 v9 wr)
  case atStart => exact HS.out
  case round =>
    clear HS
    obtain ⟨k, rfl, hnk, hO, hM, hL, hB⟩ := hrel
    have HNK := Aside0.mk hnk
    have HO := Aside0.mk hO
    have HM := Aside0.mk hM
    have HL := Aside0.mk hL
    have HB := Aside0.mk hB
    have hc1 := lab_cell hL 1 (by simp)
    simp only [List.getElem_cons_succ, List.getElem_cons_zero] at hc1
    obtain ⟨A8, c8, hv8, _⟩ := own_slice hO
    subst hv8
    have hml := missOf_len L k
    clear hnk hO hM hL hB
    by_cases hlt2 : k < m
    · have hd1 : decide ((k : Int) < (m : Int)) = true := decide_eq_true (by omega)
      have hd1' : decide (k < m) = true := decide_eq_true hlt2
      have hd2 : decide (((missOf L k).length : Int) < 4096) = true := decide_eq_true (by omega)
      have hd2' : decide ((missOf L k).length < 4096) = true := decide_eq_true (by omega)
      have HKey := Aside0.mk (show keyOf Tryd.prog 2 (.int .i64 (k : Int)) = some (.int .i64 (k : Int)) from Go.Maps.keyOf_int_mk Tryd.underlying2 (WalkArith.wf_i64 (by omega)))
      have HS1 := Aside0.mk (missOf_succ L k)
      by_cases hin : (k : Int) ∈ L.map num
      · obtain ⟨x, hxm, hxn⟩ := List.mem_map.1 hin
        obtain ⟨y, hy, hyn, Ax, cx, hxc, hCx, hat⟩ := HG.out.some x hxm
        have hyx : x = y := (HF.out.one y hy x hxm hyn).symm
        subst hyx
        have h512 := fine_long x (HF.out.fine x hxm)
        obtain ⟨ad, hA, _⟩ := Kd.at_int hCx 0 (by omega) (by omega)
        subst hA
        have HAt := Aside0.mk (by have := hat (.held (.slice none 0 0)); rw [hxn] at this; exact this)
        have heq : ∀ W : World, (binOp .eql 22 (.slice (some ad) x.length cx) (.slice none 0 0)).run Tryd.prog W = .ok (.bool false) W := fun W => Lib.run_eql_slice_nil W 22 5 (some ad) x.length cx 0 0 Tryd.underlying22
        have HX := Aside0.mk (show missOf L (k + 1) = missOf L k by rw [HS1.out, if_pos hin, List.append_nil])
        clear hin hxm hxn hy hyn hat hCx h512 hxc
        go_wp2_with (at_lookup; refine wpList_look wr rfl (.tmp 31) (.tmp 32) 65 rfl 2 22 law Tryd.underlying65 (zeroE _) bm L.length D rfl HM.out _ (.int .i64 (k : Int)) rfl HKey.out (.slice (some ad) x.length cx) HAt.out ?_)
        have HO4 := Aside0.mk (show wr.ownsRow w.heap.size 2 1 (.slice A8 (missOf L k).length c8) (missOf L (k + 1)).length (nums .i64 (missOf L (k + 1))) by rw [HX.out]; exact HO.out)
        obtain ⟨gg, rfl⟩ : ∃ gg, gk = gg + 1 := ⟨gk - 1, by have := HNK.out; omega⟩
        go_roundg gg
        case measure => exact Nat.lt_succ_self _
        case rel => exact ⟨k + 1, by go_num, by have := HNK.out; omega, HO4.out, HM.out, HL.out, HB.out⟩
      · have HAt := Aside0.mk (show D.atKey (.int .i64 (k : Int)) (.held (.slice none 0 0)) = .held (.slice none 0 0) from HG.out.none (k : Int) (fun z hz e => hin (List.mem_map.2 ⟨z, hz, e⟩)) _)
        have heq : ∀ W : World, (binOp .eql 22 (.slice none 0 0) (.slice none 0 0)).run Tryd.prog W = .ok (.bool true) W := fun W => Lib.run_eql_slice_nil W 22 5 none 0 0 0 0 Tryd.underlying22
        have HX := Aside0.mk (show missOf L (k + 1) = missOf L k ++ [(k : Int)] by rw [HS1.out, if_neg hin])
        clear hin
        go_wp2_with (first | (at_lookup; refine wpList_look wr rfl (.tmp 31) (.tmp 32) 65 rfl 2 22 law Tryd.underlying65 (zeroE _) bm L.length D rfl HM.out _ (.int .i64 (k : Int)) rfl HKey.out (.slice none 0 0) HAt.out ?_) | (at_builtin; refine wpList_app_one wr rfl (.tmp 35) (.tmp 37) 45 rfl w.heap.size 2 (.int .i64 0) 8 Tryd.underlying45 intInfo rfl (.slice A8 (missOf L k).length c8) (missOf L k).length (nums .i64 (missOf L k)) rfl HO.out (.int .i64 (k : Int)) rfl rfl (by omega) (by omega) HB.out.size ?_; intro v4 w4 hown4 hgrow4))
        have HO4 := Aside0.mk (show w4.ownsRow w.heap.size 2 1 v4 (missOf L (k + 1)).length (nums .i64 (missOf L (k + 1))) by rw [HX.out, List.length_append, nums_append]; exact hown4)
        have hba := (Below.refl wr.heap.size wr).alloc (Nat.le_refl _) (.cells #[.int .i64 (k : Int)] 2)
        have HO3 := own_stays HO.out (fun q hq => hba.block q (own_lt HO.out q hq))
        have HM3 := map_below HM.out hba
        have HL3 := lab_below HL.out hba
        have HB3 := HB.out.alloc HB.out.size (.cells #[.int .i64 (k : Int)] 2)
        have HM4 := Aside0.mk (map_other HM3 (hgrow4.block bm HM3.lt (fun e => by obtain ⟨cells, hc⟩ := own_typed HO3 bm e.symm; exact map_ne HM3 hc rfl)))
        have HL4 := Aside0.mk (lab_grown HL3 hgrow4 (fun e => own_ne2 HO3 HL3 e))
        have HB4 := Aside0.mk (HB3.grown hgrow4 (Nat.le_trans HB.out.size (by simp)) (own_base HO.out))
        clear hown4 hgrow4 hba HO3 HM3 HL3 HB3
        obtain ⟨gg, rfl⟩ : ∃ gg, gk = gg + 1 := ⟨gk - 1, by have := HNK.out; omega⟩
        go_roundg gg
        case measure => exact Nat.lt_succ_self _
        case rel => exact ⟨k + 1, by go_num, by have := HNK.out; omega, HO4.out, HM4.out, HL4.out, HB4.out⟩
    · obtain ⟨rfl, rfl⟩ : gk = 0 ∧ k = m := by have := HNK.out; omega
      have hd1 : decide ((k : Int) < (k : Int)) = false := decide_eq_false (by omega)
      have hd1' : decide (k < k) = false := decide_eq_false (by omega)
      go_wp2_with fail
      go_ret2
      exact ⟨.slice A8 (missOf L k).length c8, rfl, HO.out, HB.out⟩
end Go.Proofs.YtkcgioggnbnfkaaDoor.JoinW
