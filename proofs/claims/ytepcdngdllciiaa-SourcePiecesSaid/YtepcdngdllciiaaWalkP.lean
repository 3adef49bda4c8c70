/- SourcePieces: its walk. -/
import Derived.Test.YtepcdngdllciiaaWalkB
set_option linter.unusedVariables false
set_option linter.unusedSimpArgs false
namespace Go.Proofs.Ytepcdngdllciiaa.Hand
open Go.RowKit Go.Proofs.YtepcdngdllciiaaW.PrintWords Go.Proofs.YtepcdngdllciiaaW.PrintLast Go.Proofs.YtepcdngdllciiaaW.PrintMore Go.Proofs.YtepcdngdllciiaaW.HKit Go.Proofs.Ytepcdngdllciiaa.PSourceBlocks
theorem left_is (g : Nat) (S : Nat → Prop) (bs szs : List Int) (a k B : Nat) (w : World) (ha : a ≤ bs.length) (hS : SrcAt w B g S (bs.drop a) szs k) : Calls Try.prog 11 #[.pointer (some ⟨g, 0, none⟩)] w fun e w' => e = .returned (.int .i64 ((bs.length : Int) - (a : Int))) ∧ w = w' := by
  have := left_calls g S _ szs k B w hS
  rwa [List.length_drop, Int.natCast_sub ha] at this
/-- What a piece hands over, and leaves. -/
def PieceSays (w : World) (B g : Nat) (S : Nat → Prop) (bs szs : List Int) (a j : Nat) (e : Ending) (w' : World) : Prop :=
  ∃ v1, e = .returned (.tuple #[v1, .bool true]) ∧ w'.ownsRow w.heap.size 5 1 v1 ((bs.take (a + plen szs bs.length a j)).drop a).length (nums .u8 ((bs.take (a + plen szs bs.length a j)).drop a)) ∧
      SrcAt w' B g S (bs.drop (a + plen szs bs.length a j)) szs (min (j + 1) szs.length) ∧ KeepBut w w' g none ∧ Below B w w'
theorem piece_is (g : Nat) (S : Nat → Prop) (bs szs : List Int) (a j B : Nat) (w : World) (ha : a < bs.length) (hn : bs.length ≤ 1000000) (hS : SrcAt w B g S (bs.drop a) szs (min j szs.length)) :
    Calls Try.prog 12 #[.pointer (some ⟨g, 0, none⟩)] w (PieceSays w B g S bs szs a j) := by
  have hl : (bs.drop a).length = bs.length - a := List.length_drop
  refine (piece_calls g S (bs.drop a) szs (min j szs.length) B w hS (by omega) (by omega)).mono ?_
  rintro e w' ⟨v1, rfl, ho, hs, hk, hb⟩
  have hp := plen_pos szs j ha
  rw [pieceLen_plen (bs.drop a) szs bs.length a j hl, pieceNext_min] at *
  have e1 : (bs.take (a + plen szs bs.length a j)).drop a = (bs.drop a).take (plen szs bs.length a j) := by rw [List.take_drop]
  unfold PieceSays
  rw [e1]
  rw [List.drop_drop] at hs
  exact ⟨v1, rfl, ho, hs, hk, hb⟩
def PieceRel (w wL : World) (B g : Nat) (S : Nat → Prop) (vL : Value) (L bs szs : List Int) (n : Nat) (v7 v8 : Value) (wr : World) : Prop :=
  ∃ (i a F : Nat) (pre : List Int), v7 = .int .i64 (a : Int) ∧ v8 = .int .i64 (i : Int) ∧ L = pre ++ ends szs bs.length F a i ∧ pre.length = i ∧ bs.length - a ≤ F ∧ a ≤ bs.length ∧ bs.length - a = n ∧ i ≤ a ∧
    SrcAt wr B g S (bs.drop a) szs (min i szs.length) ∧ Below w.heap.size w wr ∧ (∀ q, vL.ownBlock = some q → wr.heap[q]? = wL.heap[q]?) ∧ wL.heap.size ≤ wr.heap.size
theorem ends_nil {szs : List Int} {n F a i : Nat} (h : ends szs n F a i = []) (hF : n - a ≤ F) (ha : a ≤ n) : a = n := by
  cases F with
  | zero => omega
  | succ F =>
    unfold ends at h
    split at h
    · simp at h
    · omega
theorem ends_cons {szs : List Int} {n F a i : Nat} (ha : a < n) (hF : n - a ≤ F) : ∃ F', F = F' + 1 ∧ ends szs n F a i = ((a + plen szs n a i : Nat) : Int) :: ends szs n F' (a + plen szs n a i) (i + 1) := by
  obtain ⟨F, rfl⟩ : ∃ m, F = m + 1 := ⟨F - 1, by omega⟩
  refine ⟨F, rfl, ?_⟩
  conv => lhs; unfold ends
  rw [if_pos ha]
set_option maxHeartbeats 8000000 in
set_option maxRecDepth 100000 in
theorem sourcePieces_calls (w : World) (A0 : Option Addr) (c0 : Nat) (l0 : List Int) (hr0 : Kd.C (Kd.int .u8) w A0 l0.length l0) (hn0 : A0 = none → l0.length = 0 ∧ c0 = 0) (hc0 : l0.length ≤ c0) (y0 : l0.length * 1 ≤ 140737488351232) (hw0 : ∀ x ∈ l0, (Lit.int .u8 x).wf = true)
    (A1 : Option Addr) (c1 : Nat) (l1 : List Int) (hr1 : Kd.C (Kd.int .i64) w A1 l1.length l1) (hn1 : A1 = none → l1.length = 0 ∧ c1 = 0) (hc1 : l1.length ≤ c1) (y1 : l1.length * 8 ≤ 140737488351232) (hw1 : ∀ x ∈ l1, (Lit.int .i64 x).wf = true) :
    Calls Try.prog 3 #[.slice A0 l0.length c0, .slice A1 l1.length c1] w fun e w' => e = .returned (.bool true) ∧ Below w.heap.size w w' := by
  have HR0 := Aside0.mk hr0
  have HR1 := Aside0.mk hr1
  clear hr0 hr1 hw0 hw1
  by_cases hm : 4000 < l0.length ∨ 200 < l1.length
  · have HM := Aside0.mk (many_t hm)
    clear hm hn0 hn1
    go_enter Try.func3, Try.ntmps3
    go_wp2_with fail
    refine (alive_calls w).mono ?_
    rintro e w1 ⟨rfl, hb1⟩
    have HB := Aside0.mk hb1
    clear hb1
    go_wp2_with fail
    refine (oakumlaw13_many.calls A0 c0 l0 A1 c1 l1 true w1 (Kd.C_below HR0.out HB.out) hc0 (Kd.C_below HR1.out HB.out) hc1 HM.out).mono ?_
    rintro e w2 ⟨rfl, hd⟩
    have HB2 := Aside0.mk (below_step HB.out hd.below)
    clear hd
    go_wp2_with fail
    go_ret
    exact ⟨rfl, HB2.out⟩
  · have hm0 : l0.length ≤ 4000 := by omega
    have hm1 : l1.length ≤ 200 := by omega
    have HM := Aside0.mk (many_f ⟨hm0, hm1⟩)
    have HN0 := Aside0.mk hn0
    have HN1 := Aside0.mk hn1
    have HE := Aside0.mk (ends_f l1 l0.length (by omega) (by omega) (l0.length + 1) (Nat.lt_succ_self _))
    clear hm hn0 hn1
    go_enter Try.func3, Try.ntmps3
    go_wp2_with fail
    refine (alive_calls w).mono ?_
    rintro e w1 ⟨rfl, hb1⟩
    have HB := Aside0.mk hb1
    clear hb1
    go_wp2_with fail
    refine (oakumlaw13_many.calls A0 c0 l0 A1 c1 l1 false w1 (Kd.C_below HR0.out HB.out) hc0 (Kd.C_below HR1.out HB.out) hc1 HM.out).mono ?_
    rintro e w2 ⟨rfl, hd⟩
    have HB2 := Aside0.mk (below_step HB.out hd.below)
    clear hd
    go_wp2_with fail
    refine (new_calls A0 l0.length c0 l0 A1 l1.length c1 l1 w2 (Kd.C_below HR0.out HB2.out) HN0.out (by omega) (Kd.C_below HR1.out HB2.out) HN1.out (by omega)).mono ?_
    rintro e w3 ⟨g, S, rfl, hS, hb3⟩
    have HB3 := Aside0.mk (below_step HB2.out hb3)
    have HS := Aside0.mk hS
    have HLE := Aside0.mk HB2.out.size
    generalize w2.heap.size = BB at HS HLE
    clear hS hb3
    go_wp2_with fail
    refine (oakumref13_Ends.calls _ _ A1 c1 l1 _ w3 (Kd.C_below HR1.out HB3.out) hc1 HE.out).mono ?_
    rintro e wL ⟨vL, rfl, hRL, hbL⟩
    have hbase := Kd.R_base hRL
    have hltL := Kd.R_lt hRL
    obtain ⟨AL, cL, rfl, hcL, hCL0⟩ := Kd.R_reads hRL
    clear hCL0
    have hst : ∀ W : World, (∀ q, (Value.slice AL (ends l1 l0.length l0.length 0 0).length cL).ownBlock = some q → W.heap[q]? = wL.heap[q]?) → Kd.C (Kd.int .i64) W AL (ends l1 l0.length l0.length 0 0).length (ends l1 l0.length l0.length 0 0) := by
      intro W hW
      exact (Kd.R_reads' (Kd.R_step (Kd.R_tight rfl hRL) fun k hk _ => hW k hk.symm)).2.2
    have HST := Aside0.mk hst
    have HBL := Aside0.mk (below_step HB3.out hbL)
    have hgL := HS.out.lt
    have HSL := Aside0.mk (HS.out.move hbL.size (hbL.block g hgL) fun q hq => hbL.block q (by obtain ⟨_, _, _, _, _, _, _, _, _, f, _⟩ := HS.out; exact (f q hq).2))
    have HQ := Aside0.mk (show ∀ q, (Value.slice AL (ends l1 l0.length l0.length 0 0).length cL).ownBlock = some q → q ≠ g ∧ q < wL.heap.size from fun q hq => ⟨by have := hbase q hq; omega, hltL q hq⟩)
    have hLl : (ends l1 l0.length l0.length 0 0).length ≤ l0.length := ends_length _ _ _ _ _
    generalize hLL : ends l1 l0.length l0.length 0 0 = L at HST HQ hcL hLl ⊢
    have HLL := Aside0.mk hLL
    clear hRL hbL hbase hltL hst hgL HB HB2 HB3 HM HS HE hLL
    go_wp2_with fail
    go_loopg [7, 8] l0.length (fun n v7 v8 wr => PieceRel w wL BB g S (.slice AL L.length cL) L l0 l1 n v7 v8 wr)
    case atStart => exact ⟨0, 0, l0.length, [], rfl, rfl, by rw [← HLL.out]; rfl, rfl, Nat.sub_le _ _, Nat.zero_le _, by simp, Nat.le_refl _, by simpa using HSL.out, HBL.out, fun _ _ => rfl, Nat.le_refl _⟩
    case round =>
      clear HSL HBL HLL
      obtain ⟨i, a, Fu, pre, rfl, rfl, hL, hpre, hFu, ha, hgk, hia, hS, hb, hq, hzz⟩ := hrel
      have HS := Aside0.mk hS
      have HB := Aside0.mk hb
      have HQ2 := Aside0.mk hq
      have HFU := Aside0.mk (And.intro hL (And.intro hpre (And.intro hFu (And.intro hgk hzz))))
      have hil : i ≤ L.length := by rw [hL, List.length_append, hpre]; omega
      have hlt : i < L.length ↔ a < l0.length := by
        constructor
        · intro h
          rcases Nat.lt_or_ge a l0.length with h' | h'
          · exact h'
          · have : ends l1 l0.length Fu a i = [] := by
              cases Fu with
              | zero => rfl
              | succ F => unfold ends; rw [if_neg (by omega)]
            rw [hL, this] at h
            simp [hpre] at h
        · intro h
          obtain ⟨F', _, e⟩ := ends_cons (szs := l1) (i := i) h hFu
          rw [hL, e, List.length_append, hpre]
          simp
      clear hL hpre hFu hgk hS hb hq hzz
      by_cases h : i < L.length
      · have hd : decide ((i : Int) < (L.length : Int)) = true := decide_eq_true (by omega)
        have hd' : decide (i < L.length) = true := decide_eq_true h
        have hal := hlt.1 h
        clear hlt
        go_wp2_with fail
        refine (left_is g S l0 l1 a _ BB wr ha HS.out).mono ?_
        rintro e w' ⟨rfl, rfl⟩
        go_wp2_with fail
        refine (piece_is g S l0 l1 a i BB wr hal (by omega) HS.out).mono ?_
        rintro e w5 ⟨v5, rfl, ho5, hs5, hk5, hb5⟩
        obtain ⟨A5, d5, rfl, hd5, hC5, _, _⟩ := own_C ho5 rfl
        obtain ⟨hL, hpre, hFu, hgk, hzz⟩ := HFU.out
        obtain ⟨F', hF', e1⟩ := ends_cons (szs := l1) (i := i) hal hFu
        have hp := plen_pos l1 i hal
        have hz5 := hk5.1
        have hq5 : ∀ q, (Value.slice AL L.length cL).ownBlock = some q → w5.heap[q]? = wL.heap[q]? := fun q hq => (hk5.2 q (Nat.lt_of_lt_of_le (HQ.out q hq).2 hzz) (HQ.out q hq).1 (by simp)).trans (HQ2.out q hq)
        obtain ⟨ad, hAL, hcell⟩ := Kd.at_int (HST.out w5 hq5) (i : Int) (by omega) (by omega)
        have hrd : rd L (i : Int) = ((a + plen l1 l0.length a i : Nat) : Int) := by rw [hL, e1, ← hpre]; exact rd_at _ _ _
        rw [hrd, Int.toNat_natCast] at hcell
        obtain ⟨i0, hi0, hz0, hz1, hz2⟩ := info_parts byteInfo
        have hB5 := HB.out.trans (Below.mono hb5 HLE.out)
        generalize hm2 : a + plen l1 l0.length a i = m2 at hcell e1 hp ho5 hs5 hC5 hd5 ⊢
        have hmid := Kd.C_mid (lo := a) (hi := m2) (c := c0) (Kd.C_below HR0.out hB5) (by omega) hp.2 hc0
        have hlm : ((l0.take m2).drop a).length = m2 - a := by rw [List.length_drop, List.length_take]; omega
        have hsl := cut_mid (P := Try.prog) 22 5 .i64 .i64 Try.underlying22 hi0 1 hz1 A0 l0.length c0 (a : Int) (m2 : Int) (by omega) (by omega) (by omega) hc0
        rw [Int.toNat_natCast, Int.toNat_natCast] at hsl
        change Kd.C (Kd.int .u8) w5 (if c0 = a then A0 else A0.map (·.add (a * 1))) _ _ at hmid
        generalize (if c0 = a then A0 else A0.map (fun x => x.add (a * 1))) = A6 at hsl hmid
        have hXc : m2 - a ≤ c0 - a := by omega
        rw [hlm] at hmid hd5 hC5 ⊢
        generalize hX : (l0.take m2).drop a = X at hmid hC5 hlm
        have hil2 : (i : Int) < (L.length : Int) := by omega
        have hpn : (a : Int) ≤ (m2 : Int) := by omega
        have hmn : (m2 : Int) ≤ (l0.length : Int) := by omega
        have hadd : ad.add i = ad.add i := rfl
        subst hAL
        have HC5 := Aside0.mk hC5
        have HMid := Aside0.mk hmid
        have hsame := oakumref01_Same.calls A5 d5 X A6 (c0 - a) X true w5 (by rw [hlm]; exact hC5) (by rw [hlm]; exact hd5) (by rw [hlm]; exact hmid) (by rw [hlm]; exact hXc) (same_t X)
        rw [hlm] at hsame
        have HSame := Aside0.mk hsame
        clear hsame
        have HB5 := Aside0.mk hB5
        have HS5 := Aside0.mk hs5
        have HQ5 := Aside0.mk hq5
        have HP := Aside0.mk (And.intro hp (And.intro hm2 (And.intro e1 (And.intro hL (And.intro hpre (And.intro hFu (And.intro hgk (And.intro hzz (And.intro hz5 hF')))))))))
        have HLm := Aside0.mk hlm
        clear hrd hp hm2 e1 hL hpre hFu hgk hzz hz5 hF' hC5 hmid hB5 hs5 hq5 ho5 hk5 hb5 hi0 hz0 hz1 hz2 hX hlm
        go_wp2_with fail
        refine HSame.out.mono ?_
        rintro e w7 ⟨rfl, hdr⟩
        have HB7 := Aside0.mk (below_step HB5.out hdr.below)
        have HS7 := Aside0.mk (HS5.out.move hdr.below.size (hdr.below.block g HS5.out.lt) fun q hq => hdr.below.block q (by obtain ⟨_, _, _, _, _, _, _, _, _, f, _⟩ := HS5.out; exact (f q hq).2))
        have hcell7 := pw_cell_below hdr.below hcell
        obtain ⟨hp, hm2, e1, hL, hpre, hFu, hgk, hzz, hz5, hF'⟩ := HP.out
        have hrel : PieceRel w wL BB g S (.slice (some ad) L.length cL) L l0 l1 (l0.length - m2) (.int .i64 (m2 : Int)) (.int .i64 (((i + 1 : Nat) : Nat) : Int)) w7 :=
          ⟨i + 1, m2, F', pre ++ [(m2 : Int)], rfl, rfl, by rw [hL, e1]; simp, by simp [hpre], by omega, hp.2, rfl, by omega, HS7.out, HB7.out, fun q hq => (hdr.below.block q (Nat.lt_of_lt_of_le (HQ.out q hq).2 (Nat.le_trans hzz hz5))).trans (HQ5.out q hq), Nat.le_trans hzz (Nat.le_trans hz5 hdr.below.size)⟩
        have HRel := Aside0.mk hrel
        have HLt := Aside0.mk (show l0.length - m2 < gk by omega)
        clear hdr hcell hp hm2 e1 hL hpre hFu hgk hzz hz5 hF' hrel hsl
        go_wp2_with fail
        go_roundg (l0.length - m2)
        case rel => exact HRel.out
        case measure => exact HLt.out
      · have hd : decide ((i : Int) < (L.length : Int)) = false := decide_eq_false (by omega)
        have hd' : decide (i < L.length) = false := decide_eq_false h
        have haln : a = l0.length := by
          rcases Nat.lt_or_ge a l0.length with h' | h'
          · exact absurd (hlt.2 h') h
          · omega
        subst haln
        have hs0 := HS.out
        rw [List.drop_length] at hs0
        have HS0 := Aside0.mk hs0
        clear hs0 hlt HFU
        go_wp2_with fail
        refine (piece_none g S l1 _ BB wr HS0.out).mono ?_
        rintro e w' ⟨rfl, rfl⟩
        go_wp2_with fail
        refine (left_calls g S [] l1 _ BB wr HS0.out).mono ?_
        rintro e w' ⟨rfl, rfl⟩
        go_wp2_with fail
        go_ret
        exact ⟨rfl, HB.out⟩
end Go.Proofs.Ytepcdngdllciiaa.Hand
