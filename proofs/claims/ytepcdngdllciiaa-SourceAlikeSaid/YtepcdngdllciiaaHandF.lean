/- Blocks.Next on a true source: its walk. -/
import Derived.Test.YtepcdngdllciiaaHandE
set_option linter.unusedVariables false
set_option linter.unusedSimpArgs false
namespace Go.Proofs.Ytepcdngdllciiaa.Hand
open Go.RowKit Go.Proofs.YtepcdngdllciiaaW.PrintWords Go.Proofs.YtepcdngdllciiaaW.PrintLast Go.Proofs.YtepcdngdllciiaaW.PrintMore Go.Proofs.YtepcdngdllciiaaW.HKit
set_option maxHeartbeats 8000000 in
set_option maxRecDepth 100000 in
theorem next_calls (w : World) (B : Nat) (F : Nat → Prop) (gb : Nat) (H bs szs : List Int) (k : Nat) (index : Int) (hR : ReaderIs w B F gb H bs szs k index) (hN : H.length + bs.length ≤ 140737488350000) (hi0 : 0 ≤ index) (hi1 : index ≤ 4611686018427387904) :
    Calls Try.prog 18 #[.pointer (some ⟨gb, 0, none⟩)] w (NextEnd w B gb F (gather szs bs.length H bs k) szs index) := by
  obtain ⟨g, S, vh, hRA, f1, f2, f3, f4, f5⟩ := hR
  have HI := Aside0.mk (next_start hRA f1 f2 f3 f4 f5)
  generalize gather szs bs.length H bs k = r at HI ⊢
  generalize hNN : H.length + bs.length = N at HI hN
  clear hRA f1 f2 f3 f4 f5 hNN
  go_enter Try.func18, Try.ntmps18
  go_wp2_with fail
  go_loopg [4, 5] bs.length (fun n v4 v5 wr => NextRel w B gb g S F r szs index N n wr)
  case atStart => exact HI.out
  case round =>
    clear HI
    obtain ⟨F', vh', H', bs', k', hR', f1, f2, f3, f4, f5, hM, hb, hgat, hNl, hn⟩ := hrel
    obtain ⟨A, c, rfl, hcap, hC0, _, _⟩ := own_C hR'.2.2.1 rfl
    have HC0 := Aside0.mk hC0
    clear hC0
    have hle : H'.length ≤ N := by omega
    have hle2 : bs'.length ≤ N := by omega
    have c0 : wr.cell? ⟨gb, 0, none⟩ = some (.pointer (some ⟨g, 0, none⟩)) := by rw [blk_cell hR'.1]; rfl
    have c1 : wr.cell? ⟨gb, 1, none⟩ = some (.slice A H'.length c) := by rw [blk_cell hR'.1]; rfl
    have HS := Aside0.mk hR'.2.2.2.1
    have HOwn := Aside0.mk hR'.2.2.1
    have HBl := Aside0.mk hR'.1
    have HBgb := Aside0.mk hR'.2.1
    have HEnd := Aside0.mk (fun (hbs : bs' = []) code hc => next_few (code := code) hR' f1 f2 f3 f4 f5 hM hb hgat hbs hc)
    have HR := Aside0.mk hR'
    have HF := Aside0.mk (And.intro f1 (And.intro f2 (And.intro f3 (And.intro f4 f5))))
    have HM := Aside0.mk hM
    have HB := Aside0.mk hb
    have HG := Aside0.mk hgat
    have HN := Aside0.mk hNl
    have HNn := Aside0.mk hn
    clear hR' f1 f2 f3 f4 f5 hM hb hgat hNl hn
    by_cases hlt : H'.length < 512
    · have hd : decide ((H'.length : Int) < 512) = true := decide_eq_true (by omega)
      have hd' : decide (H'.length < 512) = true := decide_eq_true hlt
      by_cases h0 : 0 < bs'.length
      · go_wp2_with fail
        refine (piece_calls g S bs' szs k' B wr HS.out h0 (by omega)).mono ?_
        rintro e w1 ⟨v1, rfl, ho1, hs1, hk1, hb1⟩
        obtain ⟨A1, d1, rfl, hcap1, hC1, _, _⟩ := own_C ho1 rfl
        have hml : (bs'.take (pieceLen bs' szs k')).length ≤ bs'.length := by rw [List.length_take]; omega
        have hBlk1 : BlocksAt w1 gb (some ⟨g, 0, none⟩) (.slice A H'.length c) index := hk1.blk HBl.out (reader_ne HR.out) (by simp)
        have c0' : w1.cell? ⟨gb, 0, none⟩ = some (.pointer (some ⟨g, 0, none⟩)) := by rw [blk_cell hBlk1]; rfl
        have c1' : w1.cell? ⟨gb, 1, none⟩ = some (.slice A H'.length c) := by rw [blk_cell hBlk1]; rfl
        have f1' : w1.frozen? ⟨gb, 1, none⟩ = false := blk_frozen hBlk1 1
        have hOwn1 : w1.ownsRow B 5 1 (.slice A H'.length c) H'.length (nums .u8 H') := own_move HOwn.out fun q hq => hk1.2 q (own_lt HOwn.out q hq) (fun e => by
          obtain ⟨_, _, _, _, hg, _⟩ := HS.out
          exact own_ne HOwn.out hg (by decide) (by rw [hq, e])) (by simp)
        have hsz1 : B ≤ w1.heap.size := Nat.le_trans (Nat.le_of_lt (Nat.lt_of_le_of_lt HBgb.out (blk_lt HBl.out))) hk1.1
        have HO1 := Aside0.mk hOwn1
        have HC1 := Aside0.mk hC1
        have HB1 := Aside0.mk hBlk1
        have HS1 := Aside0.mk hs1
        have HK1 := Aside0.mk hk1
        have HBb1 := Aside0.mk hb1
        generalize hX : bs'.take (pieceLen bs' szs k') = X at HC1 hml HO1
        have HX := Aside0.mk hX
        clear ho1 hC1 hs1 hk1 hb1 hBlk1 hOwn1 hX
        go_wp2_with (at_builtin; refine print_append_row (w0 := wr) (W := w1) B rfl (.tmp 29) (.tmp 30) 22 5 .u8 1 rfl Try.underlying22 byteInfo (by decide) (.slice A H'.length c) H' X A1 X.length d1 rfl rfl HO1.out (Kd.reads_of_C (enc := Value.int .u8) (d := (0 : Int)) (h1 := fun _ => rfl) HC1.out) HBb1.out hsz1 (by omega) (fun v2 w2 h1 hb hgr hat => ?_); have hg1 := blk_grown HB1.out hgr (own_ne HO1.out HB1.out (by decide)); obtain ⟨A2, c2', rfl⟩ := own_slice h1; have d0 := blk_cell hg1 0; have dd1 := blk_cell hg1 1; have e1 := blk_frozen hg1 1; have HW1 := Aside0.mk h1; have HG1 := Aside0.mk hg1; have HBB1 := Aside0.mk hb; have HGR := Aside0.mk hgr; have HAT := Aside0.mk hat; clear h1 hg1 hb hgr hat c0 c1 c0' c1' f1'; simp only [List.getElem?_toArray, List.getElem?_cons_zero, List.getElem?_cons_succ] at d0 dd1)
        obtain ⟨n2, hn2, hrel2⟩ := next_round HR.out HF.out.1 HF.out.2.1 HF.out.2.2.1 HF.out.2.2.2.1 HF.out.2.2.2.2 HM.out HB.out HG.out HN.out hlt h0 HS1.out HK1.out HBb1.out (by rw [HX.out]; exact HW1.out) HGR.out HAT.out HBB1.out HG1.out rfl
        go_roundg n2
        case rel => rw [List.length_append] at hrel2; exact hrel2
        case measure => rw [← HNn.out]; exact hn2
      · obtain rfl : bs' = [] := List.eq_nil_of_length_eq_zero (by omega)
        by_cases h1 : H'.length = 0
        · have h1' : (((H'.length : Nat) : Int) == 0) = true := beq_iff_eq.2 (by omega)
          have hee := HEnd.out rfl 16 (.inl ⟨h1, rfl⟩)
          have HE := Aside0.mk hee
          clear hee
          go_wp2_with fail
          refine (piece_none g S szs k' B wr HS.out).mono ?_
          rintro e w' ⟨rfl, rfl⟩
          go_wp2_with fail
          go_ret2
          exact HE.out
        · have h1' : (((H'.length : Nat) : Int) == 0) = false := beq_eq_false_iff_ne.2 (by omega)
          have hee := HEnd.out rfl 3 (.inr ⟨by omega, hlt, rfl⟩)
          have HE := Aside0.mk hee
          clear hee
          go_wp2_with fail
          refine (piece_none g S szs k' B wr HS.out).mono ?_
          rintro e w' ⟨rfl, rfl⟩
          go_wp2_with fail
          go_ret2
          exact HE.out
    · have hd : decide ((H'.length : Int) < 512) = false := decide_eq_false (by omega)
      have hd' : decide (H'.length < 512) = false := decide_eq_false hlt
      have hd0 : (((H'.length : Nat) : Int) == 0) = false := beq_eq_false_iff_ne.2 (by omega)
      obtain ⟨ad, hA, _⟩ := Kd.at_int HC0.out 0 (by omega) (by omega)
      subst hA
      have hc512 : 512 ≤ c := by omega
      have htk : Kd.C (Kd.int .u8) wr (some ad) 512 (H'.take 512) := by
        have := Kd.C_take (m := 512) HC0.out (by omega)
        rwa [List.length_take, Nat.min_eq_left (by omega)] at this
      have HT := Aside0.mk htk
      clear htk
      go_wp2_with fail
      refine (cloneB_any (some ad) 512 c (H'.take 512) wr HT.out (by simp) (by omega)).mono ?_
      rintro e w3 ⟨v1, rfl, ho1, hb3⟩
      have hBlk3 : BlocksAt w3 gb (some ⟨g, 0, none⟩) (.slice (some ad) H'.length c) index := (hb3.block gb (blk_lt HBl.out)).trans HBl.out
      have c1' : w3.cell? ⟨gb, 1, none⟩ = some (.slice (some ad) H'.length c) := by rw [blk_cell hBlk3]; rfl
      have HC3 := Aside0.mk (Kd.C_below HC0.out hb3)
      obtain ⟨A1, d1, rfl⟩ := own_slice ho1
      have HO1 := Aside0.mk ho1
      have HB3 := Aside0.mk hb3
      have HBl3 := Aside0.mk hBlk3
      clear ho1 hb3 hBlk3
      obtain ⟨i0, hi, hz0, hz1, hz2⟩ := info_parts byteInfo
      have hsl := cut_from (P := Try.prog) 22 5 .i64 Try.underlying22 hi 1 hz1 (some ad) H'.length c 512 (by omega) (by omega)
      have e512 : (512 : Int).toNat = 512 := rfl
      simp only [e512] at hsl
      have hdrop : Kd.C (Kd.int .u8) w3 (if c = 512 then some ad else Option.map (fun x => x.add (512 * 1)) (some ad)) (H'.length - 512) (H'.drop 512) := by
        have := Kd.C_drop (m := 512) (c := c) HC3.out (by omega) hcap
        rw [List.length_drop] at this
        exact this
      have hsome : (if c = 512 then some ad else Option.map (fun x => x.add (512 * 1)) (some ad)) ≠ none := by split <;> simp
      generalize (if c = 512 then some ad else Option.map (fun x => x.add (512 * 1)) (some ad)) = A4 at hsl hdrop hsome
      have HD := Aside0.mk hdrop
      have HS4 := Aside0.mk hsome
      clear hdrop hsome hi hz0 hz1 hz2 e512
      go_wp2_with fail
      refine (cloneB_any A4 (H'.length - 512) (c - 512) (H'.drop 512) w3 HD.out (fun e => absurd e HS4.out) (by omega)).mono ?_
      rintro e w4 ⟨v2, rfl, ho2, hb4⟩
      have hBlk4 : BlocksAt w4 gb (some ⟨g, 0, none⟩) (.slice (some ad) H'.length c) index := (hb4.block gb (blk_lt HBl3.out)).trans HBl3.out
      have q1 := blk_cell hBlk4 1
      have q2 := blk_cell hBlk4 2
      have q3 := blk_frozen hBlk4 1
      have q4 := blk_frozen hBlk4 2
      simp only [List.getElem?_toArray, List.getElem?_cons_zero, List.getElem?_cons_succ] at q1 q2
      obtain ⟨A2, d2, rfl⟩ := own_slice ho2
      have HO2 := Aside0.mk ho2
      have HB4 := Aside0.mk hb4
      clear ho2 hb4 hBlk4 hsl c1'
      go_wp2_with fail
      go_ret2
      have hfin := next_full HR.out HF.out.1 HF.out.2.1 HF.out.2.2.1 HF.out.2.2.2.1 HF.out.2.2.2.2 HM.out HB.out HG.out (by omega) HO1.out HB3.out HO2.out HB4.out rfl
      simp only [List.length_take, List.length_drop] at hfin
      exact hfin
end Go.Proofs.Ytepcdngdllciiaa.Hand
