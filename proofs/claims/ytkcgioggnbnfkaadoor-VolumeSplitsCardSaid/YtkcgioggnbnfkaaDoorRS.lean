/- The document's Split: walked once. -/
import Derived.Test.YtkcgioggnbnfkaaDoorRB
import Derived.Test.YtkcgioggnbnfkaaDoorKN
set_option linter.unusedVariables false
set_option linter.unusedSimpArgs false
namespace Go.Proofs.YtkcgioggnbnfkaaDoor.RS
open Go.RowKit Go.Proofs.YtkcgioggnbnfkaaDoorW.PrintWords Go.Proofs.YtkcgioggnbnfkaaDoorW.PrintLast Go.Proofs.YtkcgioggnbnfkaaDoorW.PrintMore Go.Proofs.YtkcgioggnbnfkaaDoorW.Mv Go.Proofs.YtkcgioggnbnfkaaDoorW.HKit Go.Proofs.YtkcgioggnbnfkaaDoorW.But Go.Proofs.YtkcgioggnbnfkaaDoorW.App Go.Proofs.YtkcgioggnbnfkaaDoorW.Rwb Go.Proofs.YtkcgioggnbnfkaaDoorW.Live Go.Proofs.YtkcgioggnbnfkaaDoor.PVolumeJoins Go.Proofs.YtkcgioggnbnfkaaDoor.CrcA Go.Proofs.YtkcgioggnbnfkaaDoor.Crc Go.Proofs.YtkcgioggnbnfkaaDoor.NumP Go.Proofs.YtkcgioggnbnfkaaDoor.NumG Go.Proofs.YtkcgioggnbnfkaaDoor.PutN Go.Proofs.YtkcgioggnbnfkaaDoor.Num Go.Proofs.YtkcgioggnbnfkaaDoor.Lab Go.Proofs.YtkcgioggnbnfkaaDoor.Read Go.Proofs.YtkcgioggnbnfkaaDoor.Open Go.Proofs.YtkcgioggnbnfkaaDoor.Vol Go.Proofs.YtkcgioggnbnfkaaDoor.Spl Go.Proofs.YtkcgioggnbnfkaaDoor.RB
attribute [local go_sem] max2_int min2_int max_two min_two   -- for this text's walks alone
/-- Rows of bytes, each perhaps with a mark behind its last cell. -/
def RowsLive (W : World) (B : Nat) (cs : List Value) (xss : List (List Int)) : Prop := cs.length = xss.length ∧ ∀ r, ∀ h : r < cs.length, ∀ h2 : r < xss.length, Live 5 W B cs[r] xss[r]
theorem RowsLive.nil (W : World) (B : Nat) : RowsLive W B [] [] := ⟨rfl, fun r h => absurd h (Nat.not_lt_zero _)⟩
theorem RowsLive.below {W W' : World} {B : Nat} {cs : List Value} {xss : List (List Int)} (h : RowsLive W B cs xss) (hb : Below W.heap.size W W') : RowsLive W' B cs xss :=
  ⟨h.1, fun r hr h2 => live_moves (h.2 r hr h2) hb⟩
theorem live_but {W W' : World} {B g t : Nat} {v : Value} {xs : List Int} (h : Live 5 W B v xs) (hb : But (fun k => k = g) W W') {cells : Array Value} {fr : Nat × Nat} (hg : W.heap[g]? = some (.cells cells t fr)) (ht : 5 ≠ t) : Live 5 W' B v xs := by
  obtain ⟨g1, cap, cells1, fr1, hv, hB, hg1, r⟩ := h
  refine ⟨g1, cap, cells1, fr1, hv, hB, (hb.block g1 (Array.getElem?_eq_some_iff.1 hg1).1 fun e => ?_).trans hg1, r⟩
  subst e
  rw [hg1] at hg
  injection hg with hg
  injection hg with _ h3 _
  exact ht h3
theorem RowsLive.grown {t : Nat} {W W' : World} {B b s n : Nat} {cs ds : List Value} {xss : List (List Int)} {v : Value} (h : RowsLive W B cs xss) (hv : W.ownsRow b t s v n ds) (hg : W.grownBy W' v.ownBlock) (ht : 5 ≠ t) : RowsLive W' B cs xss := by
  cases hq : v.ownBlock with
  | none => rw [hq] at hg; exact h.below (below_of_grown_none hg)
  | some g =>
    rw [hq] at hg
    obtain ⟨cells, hc⟩ := own_typed hv g hq
    exact ⟨h.1, fun r hr h2 => live_but (h.2 r hr h2) (But.of_grown hg) hc ht⟩
theorem RowsLive.snoc {W : World} {B : Nat} {cs : List Value} {xss : List (List Int)} (h : RowsLive W B cs xss) (u : Value) (xs : List Int) (hu : Live 5 W B u xs) : RowsLive W B (cs ++ [u]) (xss ++ [xs]) := by
  refine ⟨by simp [h.1], fun r hr h2 => ?_⟩
  by_cases hlt : r < cs.length
  · have h3 : r < xss.length := by rw [← h.1]; exact hlt
    rw [List.getElem_append_left hlt, List.getElem_append_left h3]
    exact h.2 r hlt h3
  · have h1 : r = cs.length := by simp at hr; omega
    subst h1
    have h4 : (cs ++ [u])[cs.length] = u := by simp
    have h5 : (xss ++ [xs])[cs.length]'h2 = xs := by
      rw [List.getElem_append_right (by rw [h.1]; exact Nat.le_refl _)]
      simp [h.1]
    rw [h4, h5]
    exact hu
theorem rowsB_live {t : Nat} {W : World} {B b : Nat} {v : Value} {cs : List Value} {xss : List (List Int)} (hv : W.ownsRow b t 1 v xss.length cs) (h : RowsLive W B cs xss) : ∃ A c, v = .slice A xss.length c ∧ RowsB W A c xss := by
  rcases hv.2 with ⟨rfl, h0⟩ | ⟨g, cap, cur, rfl, hg, hh, hnc, hcm, _⟩
  · obtain rfl : xss = [] := List.eq_nil_of_length_eq_zero h0
    exact ⟨none, 0, rfl, Nat.le_refl _, by decide, fun h => absurd h (Nat.lt_irrefl _), fun a ha r hr => absurd hr (Nat.not_lt_zero _)⟩
  · refine ⟨some ⟨g, 0, none⟩, cap, rfl, hnc, hcm, fun _ => ⟨_, rfl⟩, fun a ha r hr => ?_⟩
    injection ha with ha
    subst ha
    have hr1 : r < cs.length := by rw [h.1]; exact hr
    obtain ⟨Ar, Cr, h1, h2, h3, _⟩ := live_reads (h.2 r hr1 hr)
    exact ⟨Ar, Cr, by have := hv.cells (g := g) rfl r cs[r] (List.getElem?_eq_getElem hr1); rw [this, h1], h2, h3⟩
/-- Rows of bytes that are read in an elder world. -/
def RowsRd (w : World) (cs : List Value) (xss : List (List Int)) : Prop := cs.length = xss.length ∧ ∀ r, ∀ h : r < cs.length, ∀ h2 : r < xss.length, ∃ Ar Cr, cs[r] = .slice Ar xss[r].length Cr ∧ xss[r].length ≤ Cr ∧ Kd.C (Kd.int .u8) w Ar xss[r].length xss[r]
theorem RowsRd.nil (w : World) : RowsRd w [] [] := ⟨rfl, fun r h => absurd h (Nat.not_lt_zero _)⟩
theorem RowsRd.snoc {w : World} {cs : List Value} {xss : List (List Int)} (h : RowsRd w cs xss) (A : Option Addr) (n c : Nat) (xs : List Int) (hc : n ≤ c) (hr : Kd.C (Kd.int .u8) w A n xs) : RowsRd w (cs ++ [.slice A n c]) (xss ++ [xs]) := by
  have hl := C_len hr
  refine ⟨by simp [h.1], fun r hr' h2 => ?_⟩
  by_cases hlt : r < cs.length
  · have h3 : r < xss.length := by rw [← h.1]; exact hlt
    rw [List.getElem_append_left hlt, List.getElem_append_left h3]
    exact h.2 r hlt h3
  · have h1 : r = cs.length := by simp at hr'; omega
    subst h1
    have h4 : (cs ++ [Value.slice A n c])[cs.length] = .slice A n c := by simp
    have h5 : (xss ++ [xs])[cs.length]'h2 = xs := by
      rw [List.getElem_append_right (by rw [h.1]; exact Nat.le_refl _)]
      simp [h.1]
    rw [h4, h5]
    exact ⟨A, c, by rw [hl], by rw [hl]; exact hc, by rw [hl]; exact hr⟩
theorem rowsB_rd {t : Nat} {w W : World} {b : Nat} {v : Value} {cs : List Value} {xss : List (List Int)} (hv : W.ownsRow b t 1 v xss.length cs) (h : RowsRd w cs xss) (hb : Below w.heap.size w W) : ∃ A c, v = .slice A xss.length c ∧ RowsB W A c xss := by
  rcases hv.2 with ⟨rfl, h0⟩ | ⟨g, cap, cur, rfl, hg, hh, hnc, hcm, _⟩
  · obtain rfl : xss = [] := List.eq_nil_of_length_eq_zero h0
    exact ⟨none, 0, rfl, Nat.le_refl _, by decide, fun h => absurd h (Nat.lt_irrefl _), fun a ha r hr => absurd hr (Nat.not_lt_zero _)⟩
  · refine ⟨some ⟨g, 0, none⟩, cap, rfl, hnc, hcm, fun _ => ⟨_, rfl⟩, fun a ha r hr => ?_⟩
    injection ha with ha
    subst ha
    have hr1 : r < cs.length := by rw [h.1]; exact hr
    obtain ⟨Ar, Cr, h1, h2, h3⟩ := h.2 r hr1 hr
    exact ⟨Ar, Cr, by have := hv.cells (g := g) rfl r cs[r] (List.getElem?_eq_getElem hr1); rw [this, h1], h2, Kd.C_below h3 hb⟩
theorem own_slice {w : World} {B e s n : Nat} {v : Value} {xs : List Value} (h : w.ownsRow B e s v n xs) : ∃ A c, v = .slice A n c ∧ n ≤ c := by
  rcases h.2 with ⟨rfl, rfl⟩ | ⟨g, cap, cur, rfl, _, _, hnc, _⟩
  · exact ⟨none, 0, rfl, Nat.le_refl _⟩
  · exact ⟨_, _, rfl, hnc⟩
theorem rest_of (n : Nat) (h : n ≤ 1000000) (w : World) : Calls Tryd.prog 22 #[.int .i64 (n : Int)] w fun e w' => e = .returned (.int .i64 (restOf n : Nat)) ∧ w = w' := by
  have hm : Int.tmod (n : Int) 512 = ((n % 512 : Nat) : Int) := by rw [Int.tmod_eq_emod_of_nonneg (by omega)]; omega
  by_cases h0 : n % 512 = 0
  · have e : restOf n = 0 := by unfold restOf; omega
    have h0' : (n : Int) % 512 = 0 := by omega
    rw [e]
    go_enter Tryd.func22, Tryd.ntmps22
    go_wp2_with fail
    go_ret
    exact ⟨rfl, rfl⟩
  · have e : ((restOf n : Nat) : Int) = 512 - (n : Int) % 512 := by unfold restOf; omega
    have h0' : ((n : Int) % 512 == 0) = false := by simp; omega
    rw [e]
    clear e
    go_enter Tryd.func22, Tryd.ntmps22
    go_wp2_with fail
    go_ret
    exact ⟨rfl, rfl⟩
theorem rsum_any (A : Option Addr) (n c : Nat) (l : List Int) (w : World) (hr : Kd.C (Kd.int .u8) w A n l) (hc : n ≤ c) (hn : n ≤ 100000) (hb : ∀ y ∈ l, 0 ≤ y ∧ y ≤ 255) :
    Calls Tryd.prog 21 #[.int .u32 0, .slice A n c] w (SumPost w l) := by
  have hl := C_len hr
  subst hl
  obtain ⟨k, hk⟩ := (CrcP.more_ev l hn hb).rounds
  refine (oakumref32_More.calls k 0 A c l _ w hr hc hk).mono ?_
  rintro e w' ⟨rfl, hd⟩
  exact ⟨rfl, hd.below⟩
/-- What the document's Split hands back. -/
def RSPost (w : World) (xss : List (List Int)) (code : Int) (e : Ending) (w' : World) : Prop := ∃ A c, e = .returned (.tuple #[.slice A xss.length c, .int .i64 code]) ∧ RowsB w' A c xss ∧ Below w.heap.size w w'
set_option maxHeartbeats 4000000 in
set_option maxRecDepth 100000 in
theorem rsplit_no (A : Option Addr) (n c : Nat) (k : Int) (w : World) (hk : k < 1 ∨ 1048576 < k) : Calls Tryd.prog 8 #[.slice A n c, .int .i64 k] w (RSPost w [] 2) := by
  have hr : RowsB w none 0 [] := ⟨Nat.le_refl _, by decide, fun h => absurd h (Nat.lt_irrefl _), fun a ha r hr => absurd hr (Nat.not_lt_zero _)⟩
  by_cases h1 : k < 1
  · go_enter Tryd.func8, Tryd.ntmps8
    go_wp2_with fail
    go_ret2
    exact ⟨none, 0, rfl, hr, Below.refl _ _⟩
  · have h2 : 1048576 < k := by omega
    have hd : decide (k < 1) = false := by simpa using h1
    clear hk
    go_enter Tryd.func8, Tryd.ntmps8
    go_wp2_with fail
    go_ret2
    exact ⟨none, 0, rfl, hr, Below.refl _ _⟩
def partsOf (b : List Int) (S : Nat) : List (List Int) := (List.range (cntOf b.length S)).map (Spl.partAt b S)
def PRel (w : World) (b : List Int) (S : Nat) (n' : Nat) (v6 v7 : Value) (wr : World) : Prop := ∃ (i at_ : Nat) (cs : List Value), n' + i = 17 ∧ v7 = .int .i64 at_ ∧ at_ = i * S ∧ i ≤ 16 ∧ (i = 0 ∨ (i - 1) * S < b.length) ∧ wr.ownsRow w.heap.size 22 1 v6 i cs ∧ RowsRd w cs ((List.range i).map (Spl.partAt b S)) ∧ Below w.heap.size w wr
def QRel (w wx : World) (b : List Int) (S m : Nat) (n' : Nat) (v8 v9 : Value) (wr : World) : Prop := ∃ (i : Nat) (cs : List Value), n' + i = m ∧ v9 = .int .i64 i ∧ wr.ownsRow wx.heap.size 22 1 v8 i cs ∧ RowsLive wr wx.heap.size cs ((List.range i).map (volAt b S m)) ∧ Below wx.heap.size wx wr
theorem live_lower {e : Nat} {w : World} {B B' : Nat} {v : Value} {xs : List Int} (h : Live e w B v xs) (hb : B' ≤ B) : Live e w B' v xs := by
  obtain ⟨g, cap, cells, fr, hv, hB, r⟩ := h
  exact ⟨g, cap, cells, fr, hv, Nat.le_trans hb hB, r⟩
theorem live_ne22 {w : World} {B B' n : Nat} {v u : Value} {cs : List Value} {xs : List Int} (h : w.ownsRow B 22 1 v n cs) (hL : Live 5 w B' u xs) : ∀ q, v.ownBlock = some q → u.ownBlock = some q → False := by
  intro q hq hu
  obtain ⟨_, cells, fr, hc⟩ := live_typed hL q hu
  obtain ⟨cells2, hc2⟩ := own_typed h q hq
  rw [hc2] at hc
  injection hc with hc
  injection hc with _ h3 _
  exact absurd h3 (by decide)
def PQ (w : World) (b : List Int) (S i : Nat) (v6 : Value) (wr : World) : Prop := ∃ cs, wr.ownsRow w.heap.size 22 1 v6 i cs ∧ RowsRd w cs ((List.range i).map (Spl.partAt b S)) ∧ Below w.heap.size w wr
theorem cnt_is (n S i : Nat) (hS : 512 ≤ S) (h0 : 0 < n) (h1 : n ≤ i * S) (h2 : i = 0 ∨ (i - 1) * S < n) : i = cntOf n S := by
  rcases h2 with h2 | h2
  · subst h2; omega
  · have hi : 0 < i := by rcases Nat.eq_zero_or_pos i with h | h; (subst h; omega); exact h
    obtain ⟨j, rfl⟩ : ∃ j, i = j + 1 := ⟨i - 1, by omega⟩
    simp only [Nat.add_sub_cancel] at h2
    rw [Nat.add_mul, Nat.one_mul] at h1
    have e : (n + S - 1) / S = j + 1 := by
      apply Nat.div_eq_of_lt_le
      · rw [Nat.add_mul, Nat.one_mul]; omega
      · rw [Nat.add_mul, Nat.add_mul, Nat.one_mul]; omega
    unfold cntOf
    rw [e]
    omega
set_option maxHeartbeats 8000000 in
set_option maxRecDepth 100000 in
theorem rsplit_calls (A : Option Addr) (n c : Nat) (b : List Int) (k S : Nat) (w : World) (hr : Kd.C (Kd.int .u8) w A n b) (hc : n ≤ c) (hb : ∀ x ∈ b, 0 ≤ x ∧ x ≤ 255) (hn : n ≤ 8000) (hk1 : 1 ≤ k) (hk2 : k ≤ 1048576) (hS : S = k * 512) : Calls Tryd.prog 8 #[.slice A n c, .int .i64 (k : Int)] w (RSPost w (volsOf b S) 0) := by
  have HV := Aside0.mk (C_len hr)
  have HR := Aside0.mk hr
  have HY := Aside0.mk hb
  have hS1 : 512 ≤ S := by omega
  have hS2 : S ≤ 536870912 := by omega
  have hsz : 512 * (k : Int) = (S : Int) := by omega
  have hd1 : decide ((k : Int) < 1) = false := decide_eq_false (by omega)
  have hd2 : decide (1048576 < (k : Int)) = false := decide_eq_false (by omega)
  have hd1' : decide (k < 1) = false := decide_eq_false (by omega)
  have hd2' : decide (1048576 < k) = false := decide_eq_false (by omega)
  clear hr hb hS
  go_enter Tryd.func8, Tryd.ntmps8
  go_wp2_with fail
  go_loopg [6, 7] 17 (fun n' v6 v7 wr => PRel w b S n' v6 v7 wr)
  case atStart => exact ⟨0, 0, [], rfl, rfl, by omega, by omega, .inl rfl, World.ownsRow_nil _ _ _ _, RowsRd.nil _, Below.refl _ _⟩
  case round =>
    obtain ⟨i, at_, cs, hni, rfl, hat, hi16, hlast, hO, hRd, hB⟩ := hrel
    have HNI := Aside0.mk hni
    have HAT := Aside0.mk hat
    have HLA := Aside0.mk hlast
    have HO := Aside0.mk hO
    have HRd := Aside0.mk hRd
    have HB := Aside0.mk hB
    clear hni hat hlast hO hRd hB
    by_cases hlt : at_ < n
    · obtain ⟨h, hh⟩ : ∃ h, h = min n (at_ + S) := ⟨_, rfl⟩
      have hm2 : (if (n : Int) < (at_ : Int) + (S : Int) then (n : Int) else (at_ : Int) + (S : Int)) = (h : Int) := by split <;> omega
      have hlo2 : at_ ≤ h := by omega
      have hhn : h ≤ n := by omega
      have hsl := fun W => cut_run A c n at_ (h - at_) (by omega) hc (at_ : Int) (h : Int) rfl (by omega) W
      have HH := Aside0.mk (show h = min b.length ((i + 1) * S) by rw [HV.out, Nat.add_mul, Nat.one_mul, ← HAT.out]; exact hh)
      have hCp := cut_C (c := c) (f := at_) (s := h - at_) HR.out (by omega) hc
      have epc := part_cut b S i h HH.out
      rw [← HAT.out] at epc
      rw [epc] at hCp
      have HC := Aside0.mk hCp
      have hi15 : i ≤ 15 := by
        have := HAT.out
        have h16 : 16 * S ≤ i * S ∨ i < 16 := by
          rcases Nat.lt_or_ge i 16 with h | h
          · exact .inr h
          · exact .inl (Nat.mul_le_mul_right _ h)
        omega
      clear hh hCp epc
      go_wp2_with (first | (at_builtin; refine wpList_app_one wr rfl (.tmp 27) (.tmp 38) 24 rfl w.heap.size 22 (.slice none 0 0) 24 Tryd.underlying24 sliceInfo rfl u6 i cs rfl HO.out _ rfl rfl (by omega) (by omega) HB.out.size ?_; intro v5 w5 hown5 hgrow5; obtain ⟨A5, c5, hv5, _⟩ := own_slice hown5; subst hv5; have HB5 := Aside0.mk ((HB.out.alloc HB.out.size _).grown hgrow5 (Nat.le_trans HB.out.size (by simp)) (own_base HO.out)); have HO5 := Aside0.mk hown5; clear hown5 hgrow5))
      have HLEN := Aside0.mk (show (Spl.partAt b S i).length = h - at_ by rw [part_at_len b S i (by rw [HV.out, ← HAT.out]; omega), ← HH.out, ← HAT.out])
      have HR5 := Aside0.mk (show RowsRd w (cs ++ [.slice (cutAt A c at_) (h - at_) (c - at_)]) ((List.range (i + 1)).map (Spl.partAt b S)) by
        rw [List.range_succ, List.map_append, List.map_singleton]
        exact HRd.out.snoc _ _ _ _ (by omega) HC.out)
      obtain ⟨g1, rfl⟩ : ∃ g1, gk = g1 + 1 := ⟨gk - 1, by have := HNI.out; omega⟩
      clear HRd HO HB HC HH HLEN hm2
      go_roundg g1
      case measure => exact Nat.lt_succ_self _
      case rel => exact ⟨i + 1, at_ + S, _, by have := HNI.out; omega, by go_num, by rw [Nat.add_mul, Nat.one_mul, ← HAT.out], by omega, .inr (by rw [Nat.add_sub_cancel, HV.out, ← HAT.out]; exact hlt), HO5.out, HR5.out, HB5.out⟩
    · have HP := Aside0.mk (show PQ w b S i u6 wr from ⟨cs, HO.out, HRd.out, HB.out⟩)
      have HM16 := Aside0.mk (cnt_le n S hn hS1)
      have HM1 := Aside0.mk (cnt_pos n S)
      by_cases hn0 : n = 0
      · have HN0 := Aside0.mk hn0
        have hi0 : i = 0 := by
          rcases HLA.out with h | h
          · exact h
          · have := HV.out; omega
        subst hi0
        have hbn : b = [] := List.eq_nil_of_length_eq_zero (HV.out.trans hn0)
        have hc1 : cntOf n S = 1 := by unfold cntOf; rw [hn0, Nat.zero_add, Nat.div_eq_of_lt (by omega)]; rfl
        have hic := hc1
        obtain ⟨A6', c6', hv6, _⟩ := own_slice HO.out
        have hcs0 : cs = [] := List.eq_nil_of_length_eq_zero HRd.out.1
        have HO' := Aside0.mk (show wr.ownsRow w.heap.size 22 1 u6 0 [] by rw [← hcs0]; exact HO.out)
        subst hv6
        clear hcs0 hc1 hn0
        obtain ⟨m, hmd⟩ : ∃ m, cntOf n S = m := ⟨_, rfl⟩
        have HMD := Aside0.mk hmd
        clear hmd
        have HCN := Aside0.mk hic
        have HBN := Aside0.mk hbn
        clear hic hbn HP HRd HO
        go_wp2_with (at_builtin; refine wpList_app_one wr rfl (.tmp 46) (.tmp 47) 24 rfl w.heap.size 22 (.slice none 0 0) 24 Tryd.underlying24 sliceInfo rfl (.slice A6' 0 c6') 0 [] rfl HO'.out (.slice none 0 0) rfl rfl (by omega) (by omega) HB.out.size ?_; intro v6 wx hown6 hg6; obtain ⟨A6, c6, hv6, hRB⟩ := rowsB_rd (xss := [[]]) hown6 ((RowsRd.nil w).snoc none 0 0 [] (Nat.le_refl _) (C_none .u8 w)) ((HB.out.alloc HB.out.size _).grown hg6 (Nat.le_trans HB.out.size (by simp)) (own_base HO'.out)); have HRB := Aside0.mk (show RowsB wx A6 c6 (partsOf b S) by rw [HBN.out]; unfold partsOf; rw [show cntOf ([] : List Int).length S = 1 by rw [List.length_nil, ← HN0.out]; exact HCN.out, show (List.range 1).map (Spl.partAt [] S) = [[]] by simp [Spl.partAt]]; exact hRB); have HBX := Aside0.mk ((HB.out.alloc HB.out.size _).grown hg6 (Nat.le_trans HB.out.size (by simp)) (own_base HO'.out)); have hv7 : v6 = .slice A6 m c6 := (by have h1 := HMD.out; rw [HCN.out] at h1; rw [← h1]; exact hv6); clear hv6; subst hv7; clear hown6 hg6 hRB)
        have HM := HMD
        rw [HM.out] at HM16 HM1
        go_loopg [8, 9] m (fun n' v8 v9 wr' => QRel w wx b S m n' v8 v9 wr')
        case atStart => exact ⟨0, [], by omega, rfl, World.ownsRow_nil _ _ _ _, RowsLive.nil _ _, Below.refl _ _⟩
        case round =>
          obtain ⟨i, cs, hni, rfl, hO, hRL, hB⟩ := hrel
          have HNI := Aside0.mk hni
          have HO := Aside0.mk hO
          have HRL := Aside0.mk hRL
          have HB := Aside0.mk hB
          clear hni hO hRL hB
          have HBw := Aside0.mk (HBX.out.trans (HB.out.mono HBX.out.size))
          by_cases hlt : i < m
          · have hm16 := HM16.out
            have hplen : (partsOf b S).length = m := by unfold partsOf; rw [List.length_map, List.length_range, HV.out, HM.out]
            obtain ⟨a, Ar, Cr, hA6, hcl, hlc, hCr⟩ := (HRB.out.below HB.out).at_ i (by rw [hplen]; exact hlt)
            have hpi : (partsOf b S)[i]'(by rw [hplen]; exact hlt) = Spl.partAt b S i := by unfold partsOf; simp
            rw [hpi] at hcl hlc hCr
            obtain ⟨p, hp⟩ : ∃ p, p = Spl.partAt b S i := ⟨_, rfl⟩
            rw [← hp] at hcl hlc hCr
            have hpb : p.length ≤ n := by rw [hp]; unfold Spl.partAt; rw [List.length_take, List.length_drop, HV.out]; omega
            have HP := Aside0.mk hp
            have HPY := Aside0.mk (show ∀ x ∈ p, 0 ≤ x ∧ x ≤ 255 by rw [hp]; exact part_at_bd HY.out S i)
            have HCr := Aside0.mk hCr
            have hcb := crcSum_lt b HY.out
            have hcp := crcSum_lt p HPY.out
            have hcv : IntKind.i64.wrap ((crcSum b : Nat) : Int) = ((crcSum b : Nat) : Int) := by rw [IntKind.wrap_i64]; omega
            have hcv2 : IntKind.i64.wrap ((crcSum p : Nat) : Int) = ((crcSum p : Nat) : Int) := by rw [IntKind.wrap_i64]; omega
            have HFit := Aside0.mk (show labOk [(i : Int), (m : Int), (n : Int), (p.length : Int), ((crcSum b : Nat) : Int), ((crcSum p : Nat) : Int)] = true by
              have := lab_fits b S m i HY.out (by rw [HV.out]; exact hn) hm16 (by omega)
              rw [← HP.out, HV.out] at this
              exact this)
            have HBds := Aside0.mk (show ∀ x ∈ [(i : Int), (m : Int), (n : Int), (p.length : Int), ((crcSum b : Nat) : Int), ((crcSum p : Nat) : Int)], -9223372036854775808 ≤ x ∧ x ≤ 9223372036854775807 by
              intro x hx
              have := List.all_eq_true.1 HFit.out x hx
              unfold fits12 at this
              simp at this
              omega)
            subst hA6
            clear hplen hpi hp hCr hcb hcp
            go_wp2_with fail
            refine (rsum_any A n c b wr (Kd.C_below HR.out HBw.out) hc (by omega) HY.out).mono ?_
            rintro e w3 ⟨rfl, hb3⟩
            have HB3 := Aside0.mk hb3
            clear hb3
            go_wp2_with fail
            refine (rsum_any Ar p.length Cr p w3 (Kd.C_below HCr.out HB3.out) hlc (by omega) HPY.out).mono ?_
            rintro e w4 ⟨rfl, hb4⟩
            have HB4 := Aside0.mk (HB3.out.trans (hb4.mono HB3.out.size))
            clear hb4
            go_wp2_with fail
            refine (rbytes_calls _ _ _ _ _ _ w4 HBds.out).mono ?_
            rintro e w5 ⟨v, rfl, hor, hb5⟩
            rw [HFit.out]
            rcases hor with ⟨_, hv⟩ | ⟨hno, _⟩
            case inr => rw [HFit.out] at hno; cases hno
            have HB5 := Aside0.mk (HB4.out.trans (hb5.mono HB4.out.size))
            have HLl := Aside0.mk (labOf_len _ HFit.out rfl)
            have HLv := Aside0.mk (live_lower hv HB4.out.size)
            clear hb5 hv hcl
            obtain ⟨Av, cv, hvs, hvc, _, _⟩ := live_reads HLv.out
            rw [HLl.out] at hvs
            subst hvs
            go_wp2_with (at_builtin; refine live_app_any (W := w5) (B := wr.heap.size) rfl (.tmp 77) (.tmp 78) rfl Tryd.underlying22 Lab.byteInfo (.slice Av 512 cv) (labOf [(i : Int), (m : Int), (n : Int), (p.length : Int), ((crcSum b : Nat) : Int), ((crcSum p : Nat) : Int)]) p rfl Ar _ Cr rfl (Kd.C_below HCr.out HB5.out) HLv.out HB5.out.size (by rw [HLl.out]; omega) ?_; intro v6 w6 hl6 hg6; have HL6 := Aside0.mk hl6; have HB6 := Aside0.mk (HB5.out.grown hg6 HB5.out.size (fun k hk => (live_typed HLv.out k hk).1)); clear hl6 hg6)
            refine (rest_of p.length (by omega) w6).mono ?_
            rintro e w7 ⟨rfl, rfl⟩
            go_wp2_with (first | (at_builtin; refine wpList_live_zeros w6 rfl (.tmp 81) (.tmp 84) 22 2 rfl wr.heap.size 5 .i64 .i64 Tryd.underlying22 Tryd.underlying2 Lab.byteInfo v6 _ rfl HL6.out (restOf p.length) rfl (by rw [List.length_append, HLl.out]; unfold restOf; omega) HB6.out.size ?_; intro v7 w7 hl7 hg7; obtain ⟨A7, c7, hv7, _, _, _⟩ := live_reads hl7; subst hv7; have HL7 := Aside0.mk hl7; have HB7 := Aside0.mk (HB6.out.grown hg7 HB6.out.size (fun k hk => (live_typed HL6.out k hk).1)); have HO7 := Aside0.mk (own_stays HO.out (fun q hq => HB7.out.block q (own_lt HO.out q hq))); have HR7 := Aside0.mk (HRL.out.below HB7.out); have HBx7 := Aside0.mk (HB.out.trans (HB7.out.mono HB.out.size)); clear hl7 hg7) | (at_builtin; refine wpList_app_one w7 rfl (.tmp 80) (.tmp 86) 24 rfl wx.heap.size 22 (.slice none 0 0) 24 Tryd.underlying24 sliceInfo rfl u8 i cs rfl HO7.out _ rfl rfl (by omega) (by omega) HBx7.out.size ?_; intro v8 w8 hown8 hg8; have HO8 := Aside0.mk hown8; have HB8 := Aside0.mk ((HBx7.out.alloc HBx7.out.size _).grown hg8 (Nat.le_trans HBx7.out.size (by simp)) (own_base HO7.out)); have HRn := Aside0.mk (HR7.out.snoc _ _ (live_lower HL7.out HB.out.size)); have HR8 := Aside0.mk ((HRn.out.below ((Below.refl w7.heap.size w7).alloc (Nat.le_refl _) _)).grown (own_stays HO7.out (fun q hq => Below.heap_alloc w7 _ q (own_lt HO7.out q hq))) hg8 (by decide)); clear hown8 hg8))
            have el : (labOf [(i : Int), (m : Int), (n : Int), (p.length : Int), ((crcSum b : Nat) : Int), ((crcSum p : Nat) : Int)] ++ p ++ List.replicate (restOf p.length) (0 : Int)).length = (labOf [(i : Int), (m : Int), (n : Int), (p.length : Int), ((crcSum b : Nat) : Int), ((crcSum p : Nat) : Int)]).length + (p.length + restOf p.length) := by
              rw [List.length_append, List.length_append, List.length_replicate, Nat.add_assoc]
            have evol : volAt b S m i = labOf [(i : Int), (m : Int), (n : Int), (p.length : Int), ((crcSum b : Nat) : Int), ((crcSum p : Nat) : Int)] ++ p ++ List.replicate (restOf p.length) 0 := by
              unfold volAt volOf
              rw [← HP.out, HV.out]
            have HR9 := Aside0.mk (show RowsLive w8 wx.heap.size (cs ++ [.slice A7 ((labOf [(i : Int), (m : Int), (n : Int), (p.length : Int), ((crcSum b : Nat) : Int), ((crcSum p : Nat) : Int)]).length + (p.length + restOf p.length)) c7]) ((List.range (i + 1)).map (volAt b S m)) by
              have := HR8.out
              rw [el] at this
              rw [List.range_succ, List.map_append, List.map_singleton, evol]
              exact this)
            obtain ⟨g1, rfl⟩ : ∃ g1, gk = g1 + 1 := ⟨gk - 1, by have := HNI.out; omega⟩
            clear el evol
            go_roundg g1
            case measure => exact Nat.lt_succ_self _
            case rel => exact ⟨i + 1, _, by have := HNI.out; omega, by go_num, HO8.out, HR9.out, HB8.out⟩
          · obtain ⟨rfl, rfl⟩ : gk = 0 ∧ i = m := by have := HNI.out; omega
            obtain ⟨A8, c8, hv8, hRB8⟩ := rowsB_live (xss := (List.range i).map (volAt b S i)) (by rw [List.length_map, List.length_range]; exact HO.out) HRL.out
            have HRB8 := Aside0.mk hRB8
            rw [List.length_map, List.length_range] at hv8
            subst hv8
            clear hRB8
            go_wp2_with fail
            go_ret2
            have e1 : volsOf b S = (List.range i).map (volAt b S i) := by unfold volsOf; rw [HV.out, HM.out]
            rw [e1]
            exact ⟨A8, c8, by rw [List.length_map, List.length_range]; rfl, HRB8.out, HBw.out⟩
      · have hic : i = cntOf n S := cnt_is n S i hS1 (by omega) (by have := HAT.out; omega) (by have := HLA.out; rw [HV.out] at this; exact this)
        obtain ⟨A6, c6, hv6, hRB⟩ := rowsB_rd (xss := (List.range i).map (Spl.partAt b S)) (by rw [List.length_map, List.length_range]; exact HO.out) HRd.out HB.out
        have HRB := Aside0.mk (show RowsB wr A6 c6 (partsOf b S) by unfold partsOf; rw [HV.out, ← hic]; exact hRB)
        have HBX := HB
        rw [List.length_map, List.length_range] at hv6
        subst hv6
        have hi0 : ((i : Int) == 0) = false := by have := HM1.out; simp; omega
        subst hic
        clear hRB HP HO HRd HB
        obtain ⟨wx, hwx⟩ : ∃ wx, wx = wr := ⟨_, rfl⟩
        subst hwx
        go_wp2_with fail
        generalize hmm : cntOf n S = m at HRB HM16 HM1
        have HM := Aside0.mk hmm
        clear hmm
        go_loopg [8, 9] m (fun n' v8 v9 wr' => QRel w wx b S m n' v8 v9 wr')
        case atStart => exact ⟨0, [], by omega, rfl, World.ownsRow_nil _ _ _ _, RowsLive.nil _ _, Below.refl _ _⟩
        case round =>
          obtain ⟨i, cs, hni, rfl, hO, hRL, hB⟩ := hrel
          have HNI := Aside0.mk hni
          have HO := Aside0.mk hO
          have HRL := Aside0.mk hRL
          have HB := Aside0.mk hB
          clear hni hO hRL hB
          have HBw := Aside0.mk (HBX.out.trans (HB.out.mono HBX.out.size))
          by_cases hlt : i < m
          · have hm16 := HM16.out
            have hplen : (partsOf b S).length = m := by unfold partsOf; rw [List.length_map, List.length_range, HV.out, HM.out]
            obtain ⟨a, Ar, Cr, hA6, hcl, hlc, hCr⟩ := (HRB.out.below HB.out).at_ i (by rw [hplen]; exact hlt)
            have hpi : (partsOf b S)[i]'(by rw [hplen]; exact hlt) = Spl.partAt b S i := by unfold partsOf; simp
            rw [hpi] at hcl hlc hCr
            obtain ⟨p, hp⟩ : ∃ p, p = Spl.partAt b S i := ⟨_, rfl⟩
            rw [← hp] at hcl hlc hCr
            have hpb : p.length ≤ n := by rw [hp]; unfold Spl.partAt; rw [List.length_take, List.length_drop, HV.out]; omega
            have HP := Aside0.mk hp
            have HPY := Aside0.mk (show ∀ x ∈ p, 0 ≤ x ∧ x ≤ 255 by rw [hp]; exact part_at_bd HY.out S i)
            have HCr := Aside0.mk hCr
            have hcb := crcSum_lt b HY.out
            have hcp := crcSum_lt p HPY.out
            have hcv : IntKind.i64.wrap ((crcSum b : Nat) : Int) = ((crcSum b : Nat) : Int) := by rw [IntKind.wrap_i64]; omega
            have hcv2 : IntKind.i64.wrap ((crcSum p : Nat) : Int) = ((crcSum p : Nat) : Int) := by rw [IntKind.wrap_i64]; omega
            have HFit := Aside0.mk (show labOk [(i : Int), (m : Int), (n : Int), (p.length : Int), ((crcSum b : Nat) : Int), ((crcSum p : Nat) : Int)] = true by
              have := lab_fits b S m i HY.out (by rw [HV.out]; exact hn) hm16 (by omega)
              rw [← HP.out, HV.out] at this
              exact this)
            have HBds := Aside0.mk (show ∀ x ∈ [(i : Int), (m : Int), (n : Int), (p.length : Int), ((crcSum b : Nat) : Int), ((crcSum p : Nat) : Int)], -9223372036854775808 ≤ x ∧ x ≤ 9223372036854775807 by
              intro x hx
              have := List.all_eq_true.1 HFit.out x hx
              unfold fits12 at this
              simp at this
              omega)
            subst hA6
            clear hplen hpi hp hCr hcb hcp
            go_wp2_with fail
            refine (rsum_any A n c b wr (Kd.C_below HR.out HBw.out) hc (by omega) HY.out).mono ?_
            rintro e w3 ⟨rfl, hb3⟩
            have HB3 := Aside0.mk hb3
            clear hb3
            go_wp2_with fail
            refine (rsum_any Ar p.length Cr p w3 (Kd.C_below HCr.out HB3.out) hlc (by omega) HPY.out).mono ?_
            rintro e w4 ⟨rfl, hb4⟩
            have HB4 := Aside0.mk (HB3.out.trans (hb4.mono HB3.out.size))
            clear hb4
            go_wp2_with fail
            refine (rbytes_calls _ _ _ _ _ _ w4 HBds.out).mono ?_
            rintro e w5 ⟨v, rfl, hor, hb5⟩
            rw [HFit.out]
            rcases hor with ⟨_, hv⟩ | ⟨hno, _⟩
            case inr => rw [HFit.out] at hno; cases hno
            have HB5 := Aside0.mk (HB4.out.trans (hb5.mono HB4.out.size))
            have HLl := Aside0.mk (labOf_len _ HFit.out rfl)
            have HLv := Aside0.mk (live_lower hv HB4.out.size)
            clear hb5 hv hcl
            obtain ⟨Av, cv, hvs, hvc, _, _⟩ := live_reads HLv.out
            rw [HLl.out] at hvs
            subst hvs
            go_wp2_with (at_builtin; refine live_app_any (W := w5) (B := wr.heap.size) rfl (.tmp 77) (.tmp 78) rfl Tryd.underlying22 Lab.byteInfo (.slice Av 512 cv) (labOf [(i : Int), (m : Int), (n : Int), (p.length : Int), ((crcSum b : Nat) : Int), ((crcSum p : Nat) : Int)]) p rfl Ar _ Cr rfl (Kd.C_below HCr.out HB5.out) HLv.out HB5.out.size (by rw [HLl.out]; omega) ?_; intro v6 w6 hl6 hg6; have HL6 := Aside0.mk hl6; have HB6 := Aside0.mk (HB5.out.grown hg6 HB5.out.size (fun k hk => (live_typed HLv.out k hk).1)); clear hl6 hg6)
            refine (rest_of p.length (by omega) w6).mono ?_
            rintro e w7 ⟨rfl, rfl⟩
            go_wp2_with (first | (at_builtin; refine wpList_live_zeros w6 rfl (.tmp 81) (.tmp 84) 22 2 rfl wr.heap.size 5 .i64 .i64 Tryd.underlying22 Tryd.underlying2 Lab.byteInfo v6 _ rfl HL6.out (restOf p.length) rfl (by rw [List.length_append, HLl.out]; unfold restOf; omega) HB6.out.size ?_; intro v7 w7 hl7 hg7; obtain ⟨A7, c7, hv7, _, _, _⟩ := live_reads hl7; subst hv7; have HL7 := Aside0.mk hl7; have HB7 := Aside0.mk (HB6.out.grown hg7 HB6.out.size (fun k hk => (live_typed HL6.out k hk).1)); have HO7 := Aside0.mk (own_stays HO.out (fun q hq => HB7.out.block q (own_lt HO.out q hq))); have HR7 := Aside0.mk (HRL.out.below HB7.out); have HBx7 := Aside0.mk (HB.out.trans (HB7.out.mono HB.out.size)); clear hl7 hg7) | (at_builtin; refine wpList_app_one w7 rfl (.tmp 80) (.tmp 86) 24 rfl wx.heap.size 22 (.slice none 0 0) 24 Tryd.underlying24 sliceInfo rfl u8 i cs rfl HO7.out _ rfl rfl (by omega) (by omega) HBx7.out.size ?_; intro v8 w8 hown8 hg8; have HO8 := Aside0.mk hown8; have HB8 := Aside0.mk ((HBx7.out.alloc HBx7.out.size _).grown hg8 (Nat.le_trans HBx7.out.size (by simp)) (own_base HO7.out)); have HRn := Aside0.mk (HR7.out.snoc _ _ (live_lower HL7.out HB.out.size)); have HR8 := Aside0.mk ((HRn.out.below ((Below.refl w7.heap.size w7).alloc (Nat.le_refl _) _)).grown (own_stays HO7.out (fun q hq => Below.heap_alloc w7 _ q (own_lt HO7.out q hq))) hg8 (by decide)); clear hown8 hg8))
            have el : (labOf [(i : Int), (m : Int), (n : Int), (p.length : Int), ((crcSum b : Nat) : Int), ((crcSum p : Nat) : Int)] ++ p ++ List.replicate (restOf p.length) (0 : Int)).length = (labOf [(i : Int), (m : Int), (n : Int), (p.length : Int), ((crcSum b : Nat) : Int), ((crcSum p : Nat) : Int)]).length + (p.length + restOf p.length) := by
              rw [List.length_append, List.length_append, List.length_replicate, Nat.add_assoc]
            have evol : volAt b S m i = labOf [(i : Int), (m : Int), (n : Int), (p.length : Int), ((crcSum b : Nat) : Int), ((crcSum p : Nat) : Int)] ++ p ++ List.replicate (restOf p.length) 0 := by
              unfold volAt volOf
              rw [← HP.out, HV.out]
            have HR9 := Aside0.mk (show RowsLive w8 wx.heap.size (cs ++ [.slice A7 ((labOf [(i : Int), (m : Int), (n : Int), (p.length : Int), ((crcSum b : Nat) : Int), ((crcSum p : Nat) : Int)]).length + (p.length + restOf p.length)) c7]) ((List.range (i + 1)).map (volAt b S m)) by
              have := HR8.out
              rw [el] at this
              rw [List.range_succ, List.map_append, List.map_singleton, evol]
              exact this)
            obtain ⟨g1, rfl⟩ : ∃ g1, gk = g1 + 1 := ⟨gk - 1, by have := HNI.out; omega⟩
            clear el evol
            go_roundg g1
            case measure => exact Nat.lt_succ_self _
            case rel => exact ⟨i + 1, _, by have := HNI.out; omega, by go_num, HO8.out, HR9.out, HB8.out⟩
          · obtain ⟨rfl, rfl⟩ : gk = 0 ∧ i = m := by have := HNI.out; omega
            obtain ⟨A8, c8, hv8, hRB8⟩ := rowsB_live (xss := (List.range i).map (volAt b S i)) (by rw [List.length_map, List.length_range]; exact HO.out) HRL.out
            have HRB8 := Aside0.mk hRB8
            rw [List.length_map, List.length_range] at hv8
            subst hv8
            clear hRB8
            go_wp2_with fail
            go_ret2
            have e1 : volsOf b S = (List.range i).map (volAt b S i) := by unfold volsOf; rw [HV.out, HM.out]
            rw [e1]
            exact ⟨A8, c8, by rw [List.length_map, List.length_range]; rfl, HRB8.out, HBw.out⟩
end Go.Proofs.YtkcgioggnbnfkaaDoor.RS
