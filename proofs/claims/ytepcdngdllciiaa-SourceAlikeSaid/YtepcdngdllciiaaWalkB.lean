/- SourceBlocks: its walk. -/
import Derived.Test.YtepcdngdllciiaaAsked
set_option linter.unusedVariables false
set_option linter.unusedSimpArgs false
namespace Go.Proofs.Ytepcdngdllciiaa.Hand
open Go.RowKit Go.Proofs.YtepcdngdllciiaaW.PrintWords Go.Proofs.YtepcdngdllciiaaW.PrintLast Go.Proofs.YtepcdngdllciiaaW.PrintMore Go.Proofs.YtepcdngdllciiaaW.HKit Go.Proofs.Ytepcdngdllciiaa.PSourceBlocks
attribute [local go_sem] max2_int min2_int max_two min_two max_three min_three max_four min_four   -- for this text's walks alone
theorem many_t {bs szs : List Int} (h : 4000 < bs.length ∨ 200 < szs.length) : oakumlaw13_many.f bs szs = some true := by
  unfold oakumlaw13_many.f
  split
  · rfl
  · rw [decide_eq_true (by omega)]
theorem many_f {bs szs : List Int} (h : bs.length ≤ 4000 ∧ szs.length ≤ 200) : oakumlaw13_many.f bs szs = some false := by
  unfold oakumlaw13_many.f
  rw [if_neg (by omega), decide_eq_false (by omega)]
def BlkRel (w : World) (B gb : Nat) (bs szs : List Int) (n : Nat) (v6 : Value) (wr : World) : Prop :=
  ∃ (i : Nat) (F : Nat → Prop), i + n = 12 ∧ v6 = .int .i64 (i : Int) ∧ Asked wr B F gb bs szs i ∧ Below w.heap.size w wr
theorem asked_held {w : World} {B gb i : Nat} {F : Nat → Prop} {bs szs : List Int} (h : Asked w B F gb bs szs i) : Calls Try.prog 16 #[.pointer (some ⟨gb, 0, none⟩)] w fun e w' => e = .returned (.int .i64 (((st szs bs.length i).1 : Int) - ((st szs bs.length i).2.1 : Int))) ∧ w = w' := by
  have := held_is h
  rw [asked_len] at this
  have ok := st_ok szs bs.length i
  rwa [Int.natCast_sub ok.2.1] at this
/-- Two rows that hold the same. -/
theorem same_t (xs : List Int) : oakumref01_Same.f xs xs = some true := by unfold oakumref01_Same.f; simp
theorem asked_index {w : World} {B gb i m : Nat} {F : Nat → Prop} {bs szs : List Int} (h : Asked w B F gb bs szs i) (hm : min i (bs.length / 512) = m) : Calls Try.prog 15 #[.pointer (some ⟨gb, 0, none⟩)] w fun e w' => e = .returned (.int .i64 (m : Int)) ∧ w = w' := by
  have := index_is h
  rwa [hm] at this
theorem block_code (bs : List Int) (m : Nat) : 0 ≤ (blockOf bs m).2 ∧ (blockOf bs m).2 ≤ 16 := by
  unfold blockOf
  split
  · simp
  · split <;> simp
theorem block_len (bs : List Int) (m : Nat) : (blockOf bs m).1.length ≤ 512 := by
  unfold blockOf
  split
  · simp
  · split
    · simp
    · simp only [List.length_drop, List.length_take]; omega
theorem Asked.below {w w' : World} {B gb i : Nat} {F : Nat → Prop} {bs szs : List Int} (h : Asked w B F gb bs szs i) (hb : Below w.heap.size w w') : Asked w' B F gb bs szs i :=
  h.move hb.size (fun q hq => hb.block q (by obtain ⟨_, _, _, _, _, _, _, _, f⟩ := h; exact f q hq))
set_option maxHeartbeats 8000000 in
set_option maxRecDepth 100000 in
theorem sourceBlocks_calls (w : World) (A0 : Option Addr) (c0 : Nat) (l0 : List Int) (hr0 : Kd.C (Kd.int .u8) w A0 l0.length l0) (hn0 : A0 = none → l0.length = 0 ∧ c0 = 0) (hc0 : l0.length ≤ c0) (y0 : l0.length * 1 ≤ 140737488351232) (hw0 : ∀ x ∈ l0, (Lit.int .u8 x).wf = true)
    (A1 : Option Addr) (c1 : Nat) (l1 : List Int) (hr1 : Kd.C (Kd.int .i64) w A1 l1.length l1) (hn1 : A1 = none → l1.length = 0 ∧ c1 = 0) (hc1 : l1.length ≤ c1) (y1 : l1.length * 8 ≤ 140737488351232) (hw1 : ∀ x ∈ l1, (Lit.int .i64 x).wf = true) :
    Calls Try.prog 4 #[.slice A0 l0.length c0, .slice A1 l1.length c1] w fun e w' => e = .returned (.bool true) ∧ Below w.heap.size w w' := by
  have HR0 := Aside0.mk hr0
  have HR1 := Aside0.mk hr1
  clear hr0 hr1 hw0 hw1
  by_cases hm : 4000 < l0.length ∨ 200 < l1.length
  · have HM := Aside0.mk (many_t hm)
    clear hm hn0 hn1
    go_enter Try.func4, Try.ntmps4
    go_wp2_with fail
    refine (alive_calls w).mono ?_
    rintro e w1 ⟨rfl, hb1⟩
    have HB := Aside0.mk hb1
    clear hb1
    go_wp2_with fail
    refine (oakumlaw13_many.calls A0 c0 l0 A1 c1 l1 true w1 (Kd.C_below HR0.out HB.out) hc0 (Kd.C_below HR1.out HB.out) hc1 HM.out).mono ?_
    rintro e w2 ⟨rfl, hd⟩
    have HB2 := Aside0.mk (below_step HB.out hd.below)
    clear hd
    go_wp2_with fail
    go_ret
    exact ⟨rfl, HB2.out⟩
  · have hm0 : l0.length ≤ 4000 := by omega
    have hm1 : l1.length ≤ 200 := by omega
    have HM := Aside0.mk (many_f ⟨hm0, hm1⟩)
    have HN0 := Aside0.mk hn0
    have HN1 := Aside0.mk hn1
    clear hm hn0 hn1
    go_enter Try.func4, Try.ntmps4
    go_wp2_with fail
    refine (alive_calls w).mono ?_
    rintro e w1 ⟨rfl, hb1⟩
    have HB := Aside0.mk hb1
    clear hb1
    go_wp2_with fail
    refine (oakumlaw13_many.calls A0 c0 l0 A1 c1 l1 false w1 (Kd.C_below HR0.out HB.out) hc0 (Kd.C_below HR1.out HB.out) hc1 HM.out).mono ?_
    rintro e w2 ⟨rfl, hd⟩
    have HB2 := Aside0.mk (below_step HB.out hd.below)
    clear hd
    go_wp2_with fail
    refine (new_calls A0 l0.length c0 l0 A1 l1.length c1 l1 w2 (Kd.C_below HR0.out HB2.out) HN0.out (by omega) (Kd.C_below HR1.out HB2.out) HN1.out (by omega)).mono ?_
    rintro e w3 ⟨g, S, rfl, hS, hb3⟩
    have HB3 := Aside0.mk (below_step HB2.out hb3)
    have HS := Aside0.mk hS
    have HLE := Aside0.mk HB2.out.size
    clear hS hb3
    go_wp2_with fail
    refine (newBlocks_calls (some ⟨g, 0, none⟩) w3).mono ?_
    rintro e w4 ⟨gb, rfl, hgb, hB, hb4⟩
    have HA := Aside0.mk (asked_start HS.out hgb hB hb4)
    have HB4 := Aside0.mk (below_step HB3.out hb4)
    generalize w2.heap.size = BB at HA HLE
    clear hgb hB hb4 HS HB HB2 HB3 HM
    go_wp2_with fail
    go_loopg [6] 12 (fun n v6 wr => BlkRel w BB gb l0 l1 n v6 wr)
    case atStart => exact ⟨0, _, rfl, rfl, HA.out, HB4.out⟩
    case round =>
      clear HA HB4
      obtain ⟨i, F, hi, rfl, hA, hb⟩ := hrel
      have HA := Aside0.mk hA
      have HB := Aside0.mk hb
      clear hA hb
      by_cases hlt : i < 12
      · have hd : decide ((i : Int) < 12) = true := decide_eq_true (by omega)
        obtain ⟨q, hq⟩ : ∃ q, l0.length / 512 = q := ⟨_, rfl⟩
        have hq' : (l0.length : Int) / 512 = (q : Int) := by omega
        obtain ⟨m, hm, hcase⟩ : ∃ m, min i (l0.length / 512) = m ∧ ((q < i ∧ m = q) ∨ (¬ q < i ∧ i = m)) := ⟨_, rfl, by omega⟩
        have hmb : m ≤ 100000 := by omega
        have HMin := Aside0.mk hm
        obtain ⟨hcd0, hcd1⟩ := block_code l0 m
        have hXl := block_len l0 m
        have HNx := Lib.hid (fun (w' : World) (F' : Nat → Prop) (h : Asked w' BB F' gb l0 l1 i) => asked_next h (by omega) (by omega))
        have HBk := Lib.hid (fun (w' : World) (h : Kd.C (Kd.int .u8) w' A0 l0.length l0) => block_calls A0 c0 l0 m w' h hc0 hmb)
        obtain ⟨kh, hkh⟩ := held_f l1 l0.length i (by omega) (by omega) (by omega)
        have HK := Aside0.mk hkh
        unfold NextSays at HNx
        unfold BlockEnd at HBk
        rw [hm] at HNx
        generalize (blockOf l0 m).1 = X at HNx HBk hXl
        generalize (blockOf l0 m).2 = code at HNx HBk hcd0 hcd1
        clear hkh hm hq
        rcases hcase with ⟨hqi, rfl⟩ | ⟨hqi, rfl⟩
        all_goals
          go_wp2_with fail
          refine (asked_index HA.out HMin.out).mono ?_
          rintro e w' ⟨rfl, rfl⟩
          go_wp2_with fail
          refine (asked_held HA.out).mono ?_
          rintro e w' ⟨rfl, rfl⟩
          generalize ((st l1 l0.length i).1 : Int) - ((st l1 l0.length i).2.1 : Int) = hh at HK ⊢
          go_wp2_with fail
          refine (oakumref13_Held.calls kh _ A1 c1 l1 _ hh wr (Kd.C_below HR1.out HB.out) hc1 HK.out).mono ?_
          rintro e w5 ⟨rfl, hb5⟩
          have HA5 := Aside0.mk (HA.out.below hb5)
          have HB5 := Aside0.mk (below_step HB.out hb5)
          clear hb5 HA HB
          go_wp2_with fail
          refine (HNx.out w5 F HA5.out).mono ?_
          rintro e w6 ⟨F6, v6, rfl, hA6, hM6, hb6, ho6, hF6⟩
          obtain ⟨A6, d6, rfl, hd6, hC6, _, _⟩ := own_C ho6 rfl
          have HA6 := Aside0.mk hA6
          have HB6 := Aside0.mk (HB5.out.trans (Below.mono hb6 HLE.out))
          have HC6 := Aside0.mk hC6
          clear hA6 hM6 hb6 ho6 hF6 hC6 HNx HB5 HA5
          go_wp2_with fail
          refine (HBk.out w6 (Kd.C_below HR0.out HB6.out)).mono ?_
          rintro e w' ⟨A7, d7, rfl, hC7, hd7, rfl⟩
          have HC7 := Aside0.mk hC7
          clear hC7 HBk
          go_wp2_with fail
          refine (oakumref01_Same.calls A6 d6 X A7 d7 X true w6 HC6.out hd6 HC7.out hd7 (same_t X)).mono ?_
          rintro e w7 ⟨rfl, hd⟩
          have HB7 := Aside0.mk (below_step HB6.out hd.below)
          have HA7 := Aside0.mk (HA6.out.below hd.below)
          clear hd HA6 HB6
          go_wp2_with fail
          go_roundg (gk - 1)
          case rel => exact ⟨i + 1, F6, by omega, by go_num, HA7.out, HB7.out⟩
          case measure => omega
      · have hd : decide ((i : Int) < 12) = false := decide_eq_false (by omega)
        go_wp2_with fail
        go_ret
        exact ⟨rfl, HB.out⟩
end Go.Proofs.Ytepcdngdllciiaa.Hand
