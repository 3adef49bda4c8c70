/- A writer into a sink: what Put and Pad do. -/
import Derived.Test.YtddchfjdekfekaaWalkT
set_option linter.unusedVariables false
set_option linter.unusedSimpArgs false
namespace Go.Proofs.Ytddchfjdekfekaa.Hand
open Go.RowKit Go.Proofs.YtddchfjdekfekaaW.PrintWords Go.Proofs.YtddchfjdekfekaaW.PrintLast Go.Proofs.YtddchfjdekfekaaW.PrintMore Go.Proofs.YtddchfjdekfekaaW.HKit Go.Proofs.YtddchfjdekfekaaW.Mv Go.Proofs.YtddchfjdekfekaaW.Rws Go.Proofs.Ytddchfjdekfekaa.PSinkWrites
/-- What all is and whether it failed, behind the next bytes. -/
def putSt (room : Int) (s : List Int × Bool) (ys : List Int) : List Int × Bool := if s.2 = true then s else (s.1 ++ ys, decide ((takenOf room (s.1 ++ ys)).length < (s.1 ++ ys).length))
theorem takenOf_nil (room : Int) : takenOf room [] = [] := by unfold takenOf; split <;> simp
/-- A writer, its sink's pointer g; all its blocks in F. -/
def WriterIs (w : World) (B : Nat) (F : Nat → Prop) (gw g : Nat) (room : Int) (s : List Int × Bool) : Prop :=
  ∃ (Fs : Nat → Prop) (count : Int), WriterAt w gw (some ⟨g, 0, none⟩) count (if s.2 = true then 14 else 0) ∧ B ≤ gw ∧ SinkIs w B Fs g room s.1 ∧ 0 ≤ count ∧ count ≤ s.1.length ∧ (s.2 = false → count = s.1.length ∧ (takenOf room s.1).length = s.1.length) ∧ F gw ∧ (∀ q, Fs q → F q) ∧ ¬ Fs gw ∧ ∀ q, F q → q < w.heap.size
theorem WriterIs.lt {w : World} {B : Nat} {F : Nat → Prop} {gw g : Nat} {room : Int} {s : List Int × Bool} (h : WriterIs w B F gw g room s) : ∀ q, F q → q < w.heap.size := by
  obtain ⟨_, _, _, _, _, _, _, _, _, _, _, f⟩ := h
  exact f
theorem WriterIs.moved {w w' : World} {B : Nat} {F G G' : Nat → Prop} {gw g : Nat} {room : Int} {s : List Int × Bool} (h : WriterIs w B F gw g room s) (hM : Moved w w' G G') (hd : ∀ q, F q → ¬ G q) : WriterIs w' B F gw g room s := by
  obtain ⟨Fs, count, h1, h2, h3, h4, h5, h6, h7, h8, h9, h10⟩ := h
  exact ⟨Fs, count, (hM.2.1 gw (h10 gw h7) (hd gw h7)).trans h1, h2, h3.moved hM fun q hq => hd q (h8 q hq), h4, h5, h6, h7, h8, h9, fun q hq => Nat.lt_of_lt_of_le (h10 q hq) hM.1⟩
theorem WriterIs.below {w w' : World} {B : Nat} {F : Nat → Prop} {gw g : Nat} {room : Int} {s : List Int × Bool} (h : WriterIs w B F gw g room s) (hb : Below w.heap.size w w') : WriterIs w' B F gw g room s :=
  h.moved (G := fun _ => False) (G' := fun _ => False) ⟨hb.size, fun i hi _ => hb.block i hi, fun _ h => h.elim⟩ fun _ _ h => h
theorem writer_new {w3 w4 : World} {B g gw : Nat} {F : Nat → Prop} {room : Int} (hS : SinkIs w3 B F g room []) (hB : B ≤ w3.heap.size) (hgw : w3.heap.size ≤ gw) (hW : WriterAt w4 gw (some ⟨g, 0, none⟩) 0 0) (hb : Below w3.heap.size w3 w4) : WriterIs w4 B (fun q => F q ∨ q = gw) gw g room ([], false) := by
  refine ⟨F, 0, hW, by omega, hS.below hb, Int.le_refl _, by simp, fun _ => ⟨rfl, by rw [takenOf_nil]⟩, .inr rfl, fun q hq => .inl hq, fun h => by have := hS.lt gw h; omega, ?_⟩
  rintro q (hq | rfl)
  · have := hS.lt q hq
    have := hb.size
    omega
  · exact blk_lt hW
def PutSays (w : World) (B : Nat) (F : Nat → Prop) (gw g : Nat) (room : Int) (s : List Int × Bool) (ys : List Int) (e : Ending) (w' : World) : Prop :=
  ∃ F' : Nat → Prop, e = .returned (.int .u8 (if (putSt room s ys).2 = true then 14 else 0)) ∧ WriterIs w' B F' gw g room (putSt room s ys) ∧ Moved w w' F F' ∧ Below B w w'
set_option maxHeartbeats 2000000 in
theorem put_failed (w : World) (B : Nat) (F : Nat → Prop) (gw g : Nat) (room : Int) (T ys : List Int) (A : Option Addr) (n c : Nat) (hW : WriterIs w B F gw g room (T, true)) :
    Calls Try.prog 15 #[.pointer (some ⟨gw, 0, none⟩), .slice A n c] w (PutSays w B F gw g room (T, true) ys) := by
  have hend : PutSays w B F gw g room (T, true) ys (.returned (.int .u8 14)) w := ⟨F, rfl, hW, Moved.refl _ _, Below.refl _ _⟩
  have HE := Aside0.mk hend
  obtain ⟨Fs, count, hA, _⟩ := hW
  have c2 : w.cell? ⟨gw, 2, none⟩ = some (.int .u8 14) := by rw [blk_cell hA]; rfl
  clear hend hA
  go_enter Try.func15, Try.ntmps15
  go_wp2_with fail
  go_ret
  exact HE.out
set_option maxHeartbeats 2000000 in
theorem put_fine (w : World) (B : Nat) (F : Nat → Prop) (gw g : Nat) (room : Int) (T ys : List Int) (A : Option Addr) (c : Nat) (hW : WriterIs w B F gw g room (T, false)) (hr : Kd.C (Kd.int .u8) w A ys.length ys) (hc : ys.length ≤ c) (hlen : T.length + ys.length ≤ 1000000) (hroom : room ≤ 9223372036854775807) :
    Calls Try.prog 15 #[.pointer (some ⟨gw, 0, none⟩), .slice A ys.length c] w (PutSays w B F gw g room (T, false) ys) := by
  obtain ⟨Fs, count, hA, hBg, hS, hc0, hc1, hcf, f1, f2, f3, f4⟩ := hW
  obtain ⟨hcount, hfull⟩ := hcf rfl
  have c0 : w.cell? ⟨gw, 0, none⟩ = some (.pointer (some ⟨g, 0, none⟩)) := by rw [blk_cell hA]; rfl
  have c2 : w.cell? ⟨gw, 2, none⟩ = some (.int .u8 0) := by rw [blk_cell hA]; rfl
  have HA := Aside0.mk hA
  have htk := take_is w B Fs g room T ys A c hS hr hc (by omega) hroom
  have HTk := Aside0.mk htk
  have hm := takenOf_mono room T ys
  have hsz := blk_lt hA
  have hle := takenOf_len room (T ++ ys)
  dsimp only at hcount hfull hc1
  have hcc : count ≤ 1000000 := by omega
  have hTys : (T ++ ys).length = T.length + ys.length := List.length_append
  have HF := Aside0.mk (And.intro f1 (And.intro f2 (And.intro f3 f4)))
  clear hA hS hr htk f1 f2 f3 f4 hcf
  by_cases hw : (takenOf room (T ++ ys)).length - (takenOf room T).length = ys.length
  · have hst : putSt room (T, false) ys = (T ++ ys, false) := by unfold putSt; simp only [Bool.false_eq_true, if_false]; rw [decide_eq_false (by omega)]
    have HSt := Aside0.mk hst
    have HX := Aside0.mk (And.intro hw (And.intro hm (And.intro hcount (And.intro hfull (And.intro hle (And.intro hTys hsz))))))
    clear hst hm hfull hle hTys hsz hcount hw
    go_enter Try.func15, Try.ntmps15
    go_wp2_with fail
    refine HTk.out.mono ?_
    rintro e w1 ⟨F1, rfl, hS1, hM1, hb1⟩
    rw [if_pos HX.out.1]
    have hA1 : WriterAt w1 gw (some ⟨g, 0, none⟩) count 0 := (hM1.2.1 gw (HF.out.2.2.2 gw HF.out.1) HF.out.2.2.1).trans HA.out
    have k0 : w1.cell? ⟨gw, 0, none⟩ = some (.pointer (some ⟨g, 0, none⟩)) := by rw [blk_cell hA1]; rfl
    have k1 : w1.cell? ⟨gw, 1, none⟩ = some (.int .i64 count) := by rw [blk_cell hA1]; rfl
    have k2 : w1.frozen? ⟨gw, 1, none⟩ = false := blk_frozen hA1 1
    have HA1 := Aside0.mk hA1
    have HS1 := Aside0.mk hS1
    have HM1 := Aside0.mk hM1
    have HB1 := Aside0.mk hb1
    clear hA1 hS1 hM1 hb1 c0 c2
    generalize ((takenOf room (T ++ ys)).length : Int) - ((takenOf room T).length : Int) = nn
    go_wp2_with fail
    go_ret
    obtain ⟨hw, hm, hcount, hfull, hle, hTys, hsz⟩ := HX.out
    obtain ⟨f1, f2, f3, f4⟩ := HF.out
    have hM2 : Moved w (w1.setCell ⟨gw, 1, none⟩ (.int .i64 (count + ys.length))) F (fun q => F q ∨ F1 q) := by
      refine ⟨by simpa [World.setCell] using HM1.out.1, fun i hi hn => (Below.heap_setCell w1 ⟨gw, 1, none⟩ _ i fun e => hn ((show i = gw from e) ▸ f1)).trans (HM1.out.2.1 i hi fun h => hn (f2 i h)), ?_⟩
      rintro q (hq | hq)
      · exact .inl hq
      · rcases HM1.out.2.2 q hq with h | h
        · exact .inl (f2 q h)
        · exact .inr h
    have hgF1 : ¬ F1 gw := not_moved HM1.out hsz f3
    refine ⟨fun q => F q ∨ F1 q, by rw [HSt.out]; rfl, ?_, hM2, Below.setCell HB1.out (show B ≤ (⟨gw, 1, none⟩ : Addr).block from hBg) _⟩
    rw [HSt.out]
    refine ⟨F1, count + ys.length, blk_set HA1.out 1 _, hBg, HS1.out.moved (G := fun q => q = gw) (G' := fun q => q = gw) ⟨by simp [World.setCell], fun i _ hi => Below.heap_setCell w1 ⟨gw, 1, none⟩ _ i hi, fun q hq => .inl hq⟩ fun q hq e => hgF1 (e ▸ hq), by omega, by dsimp only; omega, fun _ => by dsimp only; omega, .inl f1, fun q hq => .inr hq, hgF1, ?_⟩
    rintro q (hq | hq)
    · have := f4 q hq; have := hM2.1; omega
    · have := HS1.out.lt q hq; simpa [World.setCell] using this
  · have hst : putSt room (T, false) ys = (T ++ ys, true) := by unfold putSt; simp only [Bool.false_eq_true, if_false]; rw [decide_eq_true (by omega)]
    have HSt := Aside0.mk hst
    have HX := Aside0.mk (And.intro hw (And.intro hm (And.intro hcount (And.intro hfull (And.intro hle (And.intro hTys hsz))))))
    clear hst hm hfull hle hTys hsz hcount hw
    go_enter Try.func15, Try.ntmps15
    go_wp2_with fail
    refine HTk.out.mono ?_
    rintro e w1 ⟨F1, rfl, hS1, hM1, hb1⟩
    rw [if_neg HX.out.1]
    have hA1 : WriterAt w1 gw (some ⟨g, 0, none⟩) count 0 := (hM1.2.1 gw (HF.out.2.2.2 gw HF.out.1) HF.out.2.2.1).trans HA.out
    have k0 : w1.cell? ⟨gw, 0, none⟩ = some (.pointer (some ⟨g, 0, none⟩)) := by rw [blk_cell hA1]; rfl
    have k1 : w1.cell? ⟨gw, 2, none⟩ = some (.int .u8 0) := by rw [blk_cell hA1]; rfl
    have k2 : w1.frozen? ⟨gw, 2, none⟩ = false := blk_frozen hA1 2
    have HA1 := Aside0.mk hA1
    have HS1 := Aside0.mk hS1
    have HM1 := Aside0.mk hM1
    have HB1 := Aside0.mk hb1
    clear hA1 hS1 hM1 hb1 c0 c2
    generalize ((takenOf room (T ++ ys)).length : Int) - ((takenOf room T).length : Int) = nn
    go_wp2_with fail
    go_ret
    obtain ⟨hw, hm, hcount, hfull, hle, hTys, hsz⟩ := HX.out
    obtain ⟨f1, f2, f3, f4⟩ := HF.out
    have hM2 : Moved w (w1.setCell ⟨gw, 2, none⟩ (.int .u8 14)) F (fun q => F q ∨ F1 q) := by
      refine ⟨by simpa [World.setCell] using HM1.out.1, fun i hi hn => (Below.heap_setCell w1 ⟨gw, 2, none⟩ _ i fun e => hn ((show i = gw from e) ▸ f1)).trans (HM1.out.2.1 i hi fun h => hn (f2 i h)), ?_⟩
      rintro q (hq | hq)
      · exact .inl hq
      · rcases HM1.out.2.2 q hq with h | h
        · exact .inl (f2 q h)
        · exact .inr h
    have hgF1 : ¬ F1 gw := not_moved HM1.out hsz f3
    refine ⟨fun q => F q ∨ F1 q, by rw [HSt.out]; rfl, ?_, hM2, Below.setCell HB1.out (show B ≤ (⟨gw, 2, none⟩ : Addr).block from hBg) _⟩
    rw [HSt.out]
    refine ⟨F1, count, blk_set HA1.out 2 _, hBg, HS1.out.moved (G := fun q => q = gw) (G' := fun q => q = gw) ⟨by simp [World.setCell], fun i _ hi => Below.heap_setCell w1 ⟨gw, 2, none⟩ _ i hi, fun q hq => .inl hq⟩ fun q hq e => hgF1 (e ▸ hq), by omega, by dsimp only; omega, (fun h => by cases h), .inl f1, fun q hq => .inr hq, hgF1, ?_⟩
    rintro q (hq | hq)
    · have := f4 q hq; have := hM2.1; omega
    · have := HS1.out.lt q hq; simpa [World.setCell] using this
/-- How many noughts fill the last block. -/
def restOf (n : Nat) : Nat := ((-(n : Int)) % 512).toNat
theorem i64_and511 (x : Int) : bits .and .i64 x 511 = x % 512 := by
  have h1 : (BitVec.ofInt 64 x).toNat = (x % 18446744073709551616).toNat := by rw [BitVec.toNat_ofInt]; rfl
  have h2 : (BitVec.ofInt 64 511).toNat = 511 := by decide
  have h3 : (BitVec.ofInt 64 x &&& BitVec.ofInt 64 511).toNat = (x % 18446744073709551616).toNat % 512 := by
    rw [BitVec.toNat_and, h1, h2]
    exact Nat.and_two_pow_sub_one_eq_mod _ 9
  show IntKind.i64.wrap ((BitVec.ofInt 64 x &&& BitVec.ofInt 64 511).toNat : Int) = _
  rw [h3, IntKind.wrap_i64]
  omega
theorem rest_text (n : Nat) (h : n ≤ 2000000) : text_Rest.f (n : Int) = some ((restOf n : Nat) : Int) := by
  unfold text_Rest.f restOf
  rw [if_neg (by omega), i64_and511, w64 (by omega) (by omega)]
  congr 1
  omega
theorem rest_ref (n : Nat) (h : n ≤ 2000000) : oakumref02_Rest.f (n : Int) = some ((restOf n : Nat) : Int) := by
  unfold oakumref02_Rest.f restOf
  rw [if_neg (by omega), Int.tmod_eq_emod_of_nonneg (by omega)]
  by_cases hz : (n : Int) % 512 = 0
  · rw [if_pos hz]; congr 1; omega
  · rw [if_neg hz, w64 (by omega) (by omega)]; congr 1; omega
theorem restOf_lt (n : Nat) : restOf n < 512 := by unfold restOf; omega
theorem put_is (w : World) (B : Nat) (F : Nat → Prop) (gw g : Nat) (room : Int) (s : List Int × Bool) (ys : List Int) (A : Option Addr) (c : Nat) (hW : WriterIs w B F gw g room s) (hr : Kd.C (Kd.int .u8) w A ys.length ys) (hc : ys.length ≤ c) (hlen : s.1.length + ys.length ≤ 1000000) (hroom : room ≤ 9223372036854775807) :
    Calls Try.prog 15 #[.pointer (some ⟨gw, 0, none⟩), .slice A ys.length c] w (PutSays w B F gw g room s ys) := by
  obtain ⟨T, f⟩ := s
  cases f with
  | true => exact put_failed w B F gw g room T ys A ys.length c hW
  | false => exact put_fine w B F gw g room T ys A c hW hr hc hlen hroom
theorem puts_of {w wa : World} {B : Nat} {F : Nat → Prop} {gw g : Nat} {room : Int} {s : List Int × Bool} {ys : List Int} {e : Ending} {w' : World} (hB : B ≤ w.heap.size) (hb : Below w.heap.size w wa) (h : PutSays wa B F gw g room s ys e w') : PutSays w B F gw g room s ys e w' := by
  obtain ⟨F', e1, e2, e3, e4⟩ := h
  exact ⟨F', e1, e2, (Moved.of_below hb F).trans e3, (Below.mono hb hB).trans e4⟩
set_option maxHeartbeats 2000000 in
theorem pad_is (w : World) (B : Nat) (F : Nat → Prop) (gw g : Nat) (room : Int) (s : List Int × Bool) (hW : WriterIs w B F gw g room s) (hlen : s.1.length ≤ 900000) (hroom : room ≤ 9223372036854775807) :
    Calls Try.prog 16 #[.pointer (some ⟨gw, 0, none⟩)] w (PutSays w B F gw g room s (List.replicate (restOf s.1.length) 0)) := by
  have HW := Aside0.mk hW
  obtain ⟨Fs, count, hA, hBg, hS, hc0, hc1, hcf, _⟩ := hW
  obtain ⟨n, rfl⟩ := Int.eq_ofNat_of_zero_le hc0
  have c1 : w.cell? ⟨gw, 1, none⟩ = some (.int .i64 (n : Int)) := by rw [blk_cell hA]; rfl
  have hBs : B ≤ w.heap.size := Nat.le_of_lt (Nat.lt_of_le_of_lt hBg (blk_lt hA))
  have HR := Aside0.mk (rest_text n (by omega))
  have hrl := restOf_lt n
  have HN := Aside0.mk (show s.2 = false → n = s.1.length from fun h => by have := (hcf h).1; omega)
  generalize restOf n = r at HR hrl
  have hmk := print_make (P := Try.prog) 27 5 .u8 1 Try.underlying27 byteInfo (by decide) r (by omega)
  have HNr := Aside0.mk (show text_Rest.f (n : Int) = some (r : Int) from HR.out)
  clear hA hS hc0 hc1 hcf
  go_enter Try.func16, Try.ntmps16
  go_wp2_with fail
  refine (text_Rest.calls (n : Int) (r : Int) w HR.out).mono ?_
  rintro e w1 ⟨rfl, hd⟩
  have HD := Aside0.mk hd.below
  clear hd
  go_wp2_with fail
  have hba : Below w.heap.size w (w1.alloc (.cells (madeCells #[.int .u8 0] r) 5)) := HD.out.alloc HD.out.size _
  have hmade := own_made w1 w1.heap.size 5 .u8 r (Nat.le_refl _) (by omega)
  obtain ⟨A, c, e1, _, hC, _, _, _⟩ := own_C hmade (by simp)
  injection e1 with e1 _ e1'
  subst e1 e1'
  have hput : Calls Try.prog 15 #[.pointer (some ⟨gw, 0, none⟩), .slice (some ⟨w1.heap.size, 0, none⟩) r r] (w1.alloc (.cells (madeCells #[.int .u8 0] r) 5)) (PutSays (w1.alloc (.cells (madeCells #[.int .u8 0] r) 5)) B F gw g room s (List.replicate (restOf s.1.length) 0)) := by
    have hWa := HW.out.below hba
    rcases s with ⟨T, f⟩
    cases f with
    | true => exact put_failed _ B F gw g room T _ _ r r hWa
    | false =>
      have hn := HN.out rfl
      have hrr : restOf (T, false).1.length = r := by
        have h1 := rest_text n (by omega)
        rw [HNr.out] at h1
        injection h1 with h1
        dsimp only
        dsimp only at hn
        rw [← hn]
        omega
      rw [hrr]
      have := put_fine (w1.alloc (.cells (madeCells #[.int .u8 0] r) 5)) B F gw g room T (List.replicate r 0) (some ⟨w1.heap.size, 0, none⟩) r hWa (by rw [List.length_replicate]; exact hC) (by simp) (by rw [List.length_replicate]; dsimp only at hlen; omega) hroom
      rw [List.length_replicate] at this
      exact this
  have HP := Aside0.mk hput
  have HBa := Aside0.mk hba
  clear hput hba hmade hC hmk
  refine HP.out.mono ?_
  intro e w2 hp
  have HPu := Aside0.mk (puts_of hBs HBa.out hp)
  obtain ⟨F', he, _⟩ := HPu.out
  generalize (if (putSt room s (List.replicate (restOf s.1.length) 0)).2 = true then (14 : Int) else 0) = code at he
  clear hp
  subst he
  go_wp2_with fail
  go_ret
  exact HPu.out
end Go.Proofs.Ytddchfjdekfekaa.Hand
