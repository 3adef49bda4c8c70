/- A sink of any room, in the document's words. -/
import Derived.Test.YtddchfjdekfekaaTake
set_option linter.unusedVariables false
set_option linter.unusedSimpArgs false
namespace Go.Proofs.Ytddchfjdekfekaa.Hand
open Go.RowKit Go.Proofs.YtddchfjdekfekaaW.PrintWords Go.Proofs.YtddchfjdekfekaaW.PrintLast Go.Proofs.YtddchfjdekfekaaW.PrintMore Go.Proofs.YtddchfjdekfekaaW.HKit Go.Proofs.YtddchfjdekfekaaW.Mv Go.Proofs.YtddchfjdekfekaaW.Rws
/-- The first bytes of all that was put, as far as there is room. -/
def takenOf (room : Int) (all : List Int) : List Int := if 0 ≤ room ∧ room < (all.length : Int) then all.take room.toNat else all
theorem takenOf_len (room : Int) (all : List Int) : (takenOf room all).length ≤ all.length ∧ (0 ≤ room → ((takenOf room all).length : Int) ≤ room) := by
  unfold takenOf
  split
  · rw [List.length_take]; omega
  · omega
theorem takenOf_free {room : Int} (h : room < 0) (all : List Int) : takenOf room all = all := by unfold takenOf; rw [if_neg (by omega)]
/-- A sink that has been put all these bytes; its blocks lie in F. -/
def SinkIs (w : World) (B : Nat) (F : Nat → Prop) (g : Nat) (room : Int) (all : List Int) : Prop :=
  ∃ v, SinkV w B F g v (takenOf room all) (if 0 ≤ room then room - ((takenOf room all).length : Int) else room) (decide (0 ≤ room))
theorem SinkIs.lt {w : World} {B : Nat} {F : Nat → Prop} {g : Nat} {room : Int} {all : List Int} (h : SinkIs w B F g room all) : ∀ q, F q → q < w.heap.size := by
  obtain ⟨v, _, _, _, _, _, f⟩ := h
  exact f
theorem SinkIs.moved {w w' : World} {B : Nat} {F G G' : Nat → Prop} {g : Nat} {room : Int} {all : List Int} (h : SinkIs w B F g room all) (hM : Moved w w' G G') (hd : ∀ q, F q → ¬ G q) : SinkIs w' B F g room all := by
  obtain ⟨v, h1, h2, h3, h4, h5, h6⟩ := h
  exact ⟨v, (hM.2.1 g (h6 g h4) (hd g h4)).trans h1, h2, own_moved h3 hM fun q hq => hd q (h5 q hq), h4, h5, fun q hq => Nat.lt_of_lt_of_le (h6 q hq) hM.1⟩
theorem SinkIs.below {w w' : World} {B : Nat} {F : Nat → Prop} {g : Nat} {room : Int} {all : List Int} (h : SinkIs w B F g room all) (hb : Below w.heap.size w w') : SinkIs w' B F g room all :=
  h.moved (G := fun _ => False) (G' := fun _ => False) ⟨hb.size, fun i hi _ => hb.block i hi, fun _ h => h.elim⟩ fun _ _ h => h
theorem sink_new (room : Int) (w : World) : Calls Try.prog 8 #[.int .i64 room] w fun e w' => ∃ g, e = .returned (.pointer (some ⟨g, 0, none⟩)) ∧ SinkIs w' w.heap.size (fun q => w.heap.size ≤ q ∧ q < w'.heap.size) g room [] ∧ Below w.heap.size w w' := by
  refine (new_calls room w).mono ?_
  rintro e w' ⟨g, rfl, ⟨v, h1, h2, h3⟩, hb⟩
  refine ⟨g, rfl, ⟨v, ?_, h2, ?_, ⟨h2, blk_lt h1⟩, fun q hq => ⟨own_base h3 q hq, own_lt h3 q hq⟩, fun q hq => hq.2⟩, hb⟩
  · have e : takenOf room [] = [] := by unfold takenOf; split <;> simp
    rw [e]
    simpa using h1
  · have e : takenOf room [] = [] := by unfold takenOf; split <;> simp
    rw [e]
    exact h3
def TakeSays (w : World) (B : Nat) (F : Nat → Prop) (g : Nat) (room : Int) (all ys : List Int) (e : Ending) (w' : World) : Prop :=
  ∃ F' : Nat → Prop, e = .returned (.tuple #[.int .i64 (((takenOf room (all ++ ys)).length : Int) - ((takenOf room all).length : Int)), .int .u8 (if (takenOf room (all ++ ys)).length - (takenOf room all).length = ys.length then 0 else 14)]) ∧
    SinkIs w' B F' g room (all ++ ys) ∧ Moved w w' F F' ∧ Below B w w'
/-- What goes in of the next bytes. -/
theorem takenOf_append (room : Int) (all ys : List Int) (h : 0 ≤ room) : takenOf room (all ++ ys) = takenOf room all ++ ys.take (room - ((takenOf room all).length : Int)).toNat := by
  by_cases h1 : room < (all.length : Int)
  · have e1 : takenOf room all = all.take room.toNat := by unfold takenOf; rw [if_pos ⟨h, h1⟩]
    have e2 : takenOf room (all ++ ys) = (all ++ ys).take room.toNat := by unfold takenOf; rw [if_pos ⟨h, by rw [List.length_append]; omega⟩]
    have e : (room - ((all.take room.toNat).length : Int)).toNat = 0 := by rw [List.length_take]; omega
    rw [e2, e1, e, List.take_zero, List.append_nil, List.take_append_of_le_length (by omega)]
  · have e1 : takenOf room all = all := by unfold takenOf; rw [if_neg (by omega)]
    rw [e1]
    by_cases h2 : room < ((all ++ ys).length : Int)
    · have e2 : takenOf room (all ++ ys) = (all ++ ys).take room.toNat := by unfold takenOf; rw [if_pos ⟨h, h2⟩]
      rw [e2, List.take_append]
      congr 1
      · exact List.take_of_length_le (by omega)
      · congr 1; omega
    · have e2 : takenOf room (all ++ ys) = all ++ ys := by unfold takenOf; rw [if_neg (by omega)]
      rw [List.length_append] at h2
      rw [e2, List.take_of_length_le (by omega)]
theorem take_is (w : World) (B : Nat) (F : Nat → Prop) (g : Nat) (room : Int) (all ys : List Int) (A : Option Addr) (c : Nat) (hS : SinkIs w B F g room all) (hr : Kd.C (Kd.int .u8) w A ys.length ys) (hc : ys.length ≤ c) (hlen : all.length + ys.length ≤ 140737488355328) (hroom : room ≤ 9223372036854775807) :
    Calls Try.prog 10 #[.pointer (some ⟨g, 0, none⟩), .slice A ys.length c] w (TakeSays w B F g room all ys) := by
  obtain ⟨v, hS⟩ := hS
  have hl := takenOf_len room all
  unfold TakeSays
  by_cases h : 0 ≤ room
  · rw [if_pos h, decide_eq_true h] at hS
    have ha := takenOf_append room all ys h
    by_cases hf : (ys.length : Int) ≤ room - ((takenOf room all).length : Int)
    · refine (takeF_full g F v A ys.length c (takenOf room all) ys (room - ((takenOf room all).length : Int)) hf (by omega) w B hS hr hc (by omega)).mono ?_
      rintro e w' ⟨F', rfl, ⟨v2, hS2⟩, hM, hb⟩
      have e1 : takenOf room (all ++ ys) = takenOf room all ++ ys := by rw [ha, List.take_of_length_le (by omega)]
      refine ⟨F', ?_, ⟨v2, ?_⟩, hM, hb⟩
      · rw [e1, List.length_append, if_pos (by omega)]
        congr 5
        omega
      · rw [e1, if_pos h, decide_eq_true h, List.length_append]
        have e2 : room - ((takenOf room all).length : Int) - (ys.length : Int) = room - (((takenOf room all).length + ys.length : Nat) : Int) := by omega
        rw [← e2]
        exact hS2
    · obtain ⟨m, hm⟩ : ∃ m : Nat, room - ((takenOf room all).length : Int) = (m : Int) := ⟨(room - ((takenOf room all).length : Int)).toNat, by have := hl.2 h; omega⟩
      rw [hm] at hS hf ha
      rw [Int.toNat_natCast] at ha
      refine (takeF_short g F v A ys.length c (takenOf room all) ys m (by omega) w B hS hr hc (by omega)).mono ?_
      rintro e w' ⟨F', rfl, ⟨v2, hS2⟩, hM, hb⟩
      have hlm : (ys.take m).length = m := by rw [List.length_take]; omega
      refine ⟨F', ?_, ⟨v2, ?_⟩, hM, hb⟩
      · rw [ha, List.length_append, hlm, if_neg (by omega)]
        congr 5
        omega
      · rw [ha, if_pos h, decide_eq_true h, List.length_append, hlm]
        have e2 : room - (((takenOf room all).length + m : Nat) : Int) = 0 := by omega
        rw [e2]
        exact hS2
  · rw [if_neg h, decide_eq_false h, takenOf_free (by omega)] at hS
    refine (takeF_free g F v A ys.length c all ys room w B hS hr hc (by omega)).mono ?_
    rintro e w' ⟨F', rfl, ⟨v2, hS2⟩, hM, hb⟩
    refine ⟨F', ?_, ⟨v2, ?_⟩, hM, hb⟩
    · rw [takenOf_free (by omega), takenOf_free (by omega), List.length_append, if_pos (by omega)]
      congr 5
      omega
    · rw [takenOf_free (by omega), if_neg h, decide_eq_false h]
      exact hS2
theorem bytes_is (w : World) (B : Nat) (F : Nat → Prop) (g : Nat) (room : Int) (all : List Int) (hS : SinkIs w B F g room all) (hlen : all.length ≤ 140737488355328) :
    Calls Try.prog 12 #[.pointer (some ⟨g, 0, none⟩)] w fun e w' => ∃ v1, e = .returned v1 ∧ w'.ownsRow w.heap.size 5 1 v1 (takenOf room all).length (nums .u8 (takenOf room all)) ∧ Below w.heap.size w w' := by
  obtain ⟨v, h1, h2, h3, _⟩ := hS
  have := (takenOf_len room all).1
  exact bytes_calls g (takenOf room all) _ _ w B ⟨v, h1, h2, h3⟩ (by omega)
/-- The reference's first bytes. -/
def TakenEnd (A : Option Addr) (c : Nat) (room : Int) (all : List Int) (w : World) (e : Ending) (w' : World) : Prop := e = .returned (.slice A (takenOf room all).length c) ∧ w = w'
theorem taken_C {A : Option Addr} {w : World} (room : Int) {all : List Int} (hr : Kd.C (Kd.int .u8) w A all.length all) : Kd.C (Kd.int .u8) w A (takenOf room all).length (takenOf room all) := by
  unfold takenOf
  split
  · have := C_firsts (m := room.toNat) hr (by omega)
    rwa [List.length_take, Nat.min_eq_left (by omega)]
  · exact hr
theorem taken_calls (A : Option Addr) (c : Nat) (all : List Int) (room : Int) (w : World) (hr : Kd.C (Kd.int .u8) w A all.length all) (hc : all.length ≤ c) (hroom : -9223372036854775808 ≤ room ∧ room ≤ 9223372036854775807) :
    Calls Try.prog 9 #[.slice A all.length c, .int .i64 room] w (TakenEnd A c room all w) := by
  have hn : all.length ≤ 9223372036854775807 := hr.2.1
  obtain ⟨hro0, hro1⟩ := hroom
  by_cases h0 : 0 ≤ room
  · by_cases h1 : room < (all.length : Int)
    · obtain ⟨m, rfl⟩ := Int.eq_ofNat_of_zero_le h0
      have he : takenOf (m : Int) all = all.take m := by unfold takenOf; rw [if_pos ⟨h0, h1⟩, Int.toNat_natCast]
      have hd : decide ((m : Int) < (all.length : Int)) = true := decide_eq_true h1
      have hd' : decide (m < all.length) = true := decide_eq_true (by omega)
      have hmn : m ≤ all.length := by omega
      have hmc : m ≤ c := by omega
      have hend : TakenEnd A c (m : Int) all w (.returned (.slice A m c)) w := by
        have hlm : (all.take m).length = m := by rw [List.length_take]; omega
        exact ⟨by rw [he, hlm], rfl⟩
      have HE := Aside0.mk hend
      clear hend he hr
      go_enter Try.func9, Try.ntmps9
      go_wp2_with fail
      go_ret
      exact HE.out
    · have he : takenOf room all = all := by unfold takenOf; rw [if_neg (by omega)]
      have hd : decide (room < (all.length : Int)) = false := decide_eq_false h1
      have hd2 : decide (0 ≤ room) = true := decide_eq_true h0
      have hend : TakenEnd A c room all w (.returned (.slice A all.length c)) w := ⟨by rw [he], rfl⟩
      have HE := Aside0.mk hend
      clear hend he hr
      go_enter Try.func9, Try.ntmps9
      go_wp2_with fail
      go_ret
      exact HE.out
  · have he : takenOf room all = all := by unfold takenOf; rw [if_neg (by omega)]
    have hd2 : decide (0 ≤ room) = false := decide_eq_false h0
    have hend : TakenEnd A c room all w (.returned (.slice A all.length c)) w := ⟨by rw [he], rfl⟩
    have HE := Aside0.mk hend
    clear hend he hr
    go_enter Try.func9, Try.ntmps9
    go_wp2_with fail
    go_ret
    exact HE.out
end Go.Proofs.Ytddchfjdekfekaa.Hand
