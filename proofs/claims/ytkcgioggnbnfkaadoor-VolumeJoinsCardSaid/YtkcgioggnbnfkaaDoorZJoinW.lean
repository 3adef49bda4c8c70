/- volume.Join and Missing over volumes that fit together: walked once. -/
import Derived.Test.YtkcgioggnbnfkaaDoorZSetW
set_option linter.unusedVariables false
set_option linter.unusedSimpArgs false
namespace Go.Proofs.YtkcgioggnbnfkaaDoor.JoinW
open Go Go.RowKit Go.Proofs.YtkcgioggnbnfkaaDoorW.PrintWords Go.Proofs.YtkcgioggnbnfkaaDoorW.PrintLast Go.Proofs.YtkcgioggnbnfkaaDoorW.PrintMore Go.Proofs.YtkcgioggnbnfkaaDoorW.Mv Go.Proofs.YtkcgioggnbnfkaaDoorW.HKit Go.Proofs.YtkcgioggnbnfkaaDoorW.But Go.Proofs.YtkcgioggnbnfkaaDoorW.App Go.Proofs.YtkcgioggnbnfkaaDoorW.Rwb Go.Proofs.YtkcgioggnbnfkaaDoorW.Mps Go.Proofs.YtkcgioggnbnfkaaDoor.PVolumeJoins Go.Proofs.YtkcgioggnbnfkaaDoor.CrcA Go.Proofs.YtkcgioggnbnfkaaDoor.Crc Go.Proofs.YtkcgioggnbnfkaaDoor.NumP Go.Proofs.YtkcgioggnbnfkaaDoor.NumG Go.Proofs.YtkcgioggnbnfkaaDoor.Num Go.Proofs.YtkcgioggnbnfkaaDoor.Lab Go.Proofs.YtkcgioggnbnfkaaDoor.Read Go.Proofs.YtkcgioggnbnfkaaDoor.Open Go.Proofs.YtkcgioggnbnfkaaDoor.Vol Go.Proofs.YtkcgioggnbnfkaaDoor.Spl Go.Proofs.YtkcgioggnbnfkaaDoor.SetW
set_option maxRecDepth 100000 in
theorem clone_any (A : Option Addr) (n c : Nat) (xs : List Int) (w : World) (hr : Kd.C (Kd.int .u8) w A n xs) (hnil : A = none → n = 0 ∧ c = 0) (hlen : n * 1 ≤ 140737488355328) :
    Calls Tryd.prog 28 #[.slice A n c] w fun e w' => ∃ v1, e = .returned v1 ∧ w'.ownsRow w.heap.size 5 1 v1 xs.length (nums .u8 xs) ∧ Below w.heap.size w w' := by
  have hn : xs.length = n := C_len hr
  rcases A with _ | ad
  · obtain ⟨rfl, rfl⟩ := hnil rfl
    obtain rfl : xs = [] := List.eq_nil_of_length_eq_zero hn
    have heq : ∀ W : World, (binOp .eql 22 (.slice none 0 0) (.slice none 0 0)).run Tryd.prog W = .ok (.bool true) W := fun W => Lib.run_eql_slice_nil W 22 5 none 0 0 0 0 Tryd.underlying22
    clear hr hnil hn
    go_enter Tryd.func28, Tryd.ntmps28
    go_wp2_with fail
    go_ret
    exact ⟨_, rfl, ⟨rfl, .inl ⟨rfl, rfl⟩⟩, Below.refl _ _⟩
  · have hrd : ReadsInt w .u8 (some ad) n xs := Kd.reads_of_C (enc := Value.int .u8) (d := (0 : Int)) (h1 := fun _ => rfl) hr
    have HR := Aside0.mk hrd
    clear hr hrd hnil
    have heq : ∀ W : World, (binOp .eql 22 (.slice (some ad) n c) (.slice none 0 0)).run Tryd.prog W = .ok (.bool false) W := fun W => Lib.run_eql_slice_nil W 22 5 (some ad) n c 0 0 Tryd.underlying22
    have how : (w.alloc (.cells #[] 5)).ownsRow w.heap.size 5 1 (.slice (some ⟨w.heap.size, 0, none⟩) 0 0) ([] : List Int).length (nums .u8 []) := ⟨rfl, .inr ⟨w.heap.size, 0, #[], rfl, Nat.le_refl _, heap_alloc_new w _, Nat.le_refl _, Nat.zero_le _, rfl, rfl⟩⟩
    have hba : Below w.heap.size w (w.alloc (.cells #[] 5)) := (Below.refl _ _).alloc (Nat.le_refl _) _
    have HO := Aside0.mk how
    have HB := Aside0.mk hba
    clear how hba
    go_enter Tryd.func28, Tryd.ntmps28
    go_wp2_with (at_builtin; refine print_append_row (w0 := w) (W := w.alloc (.cells #[] 5)) w.heap.size rfl (.tmp 5) (.tmp 6) 22 5 .u8 1 rfl Tryd.underlying22 Lab.byteInfo (by decide) (.slice (some ⟨w.heap.size, 0, none⟩) 0 0) [] xs (some ad) n c rfl rfl HO.out (ReadsInt.below HR.out HB.out) HB.out (by simp) (by simp; omega) (fun v1 w1 h1 hb _ _ => ?_))
    go_ret
    exact ⟨_, rfl, by simpa using h1, hb⟩
/-- The part of a volume. -/
noncomputable def partOf (x : List Int) : List Int := (openOf x).2.1
/-- What Join hands back. -/
def JPost (w : World) (xs : List Int) (code : Int) (e : Ending) (w' : World) : Prop := ∃ v, e = .returned (.tuple #[v, .int .i64 0, .int .u8 code]) ∧ Own w.heap.size w' v xs ∧ Below w.heap.size w w'
set_option maxHeartbeats 8000000 in
set_option maxRecDepth 100000 in
theorem join_none (A : Option Addr) (c : Nat) (L : List (List Int)) (cnt whole all : Int) (w : World) (hR : RowsB w A c L) (hF : Fit L cnt whole all) (hno : L.length = 0 ∨ ((dd (L.map num)).length : Int) < cnt) : Calls Tryd.prog 13 #[.slice A L.length c] w (JPost w [] 16) := by
  have HSet := Aside0.mk (set_ok A c L cnt whole all w hR hF)
  have HNo := Aside0.mk hno
  obtain ⟨n, hn⟩ : ∃ n, n = L.length := ⟨_, rfl⟩
  have HN := Aside0.mk hn
  rw [← hn] at HSet ⊢
  clear hR hF hno hn
  by_cases h0 : n = 0
  · subst h0
    go_enter Tryd.func13, Tryd.ntmps13
    go_wp2_with fail
    refine HSet.out.mono ?_
    clear HSet
    rintro e w1 ⟨bm, D, f0, f1, f2, f3, f4, f5, rfl, _, _, _, _, hb1⟩
    have HB := Aside0.mk (hb1.alloc hb1.size (.cells #[.int .i64 f0, .int .i64 f1, .int .i64 f2, .int .i64 f3, .int .i64 f4, .int .i64 f5] 54))
    clear hb1
    go_wp2_with fail
    go_ret3
    exact ⟨.slice none 0 0, rfl, World.ownsRow_nil _ _ _ _, HB.out⟩
  · have hn0 : ((n : Int) == 0) = false := by simp; omega
    go_enter Tryd.func13, Tryd.ntmps13
    go_wp2_with fail
    refine HSet.out.mono ?_
    clear HSet
    rintro e w1 ⟨bm, D, f0, f1, f2, f3, f4, f5, rfl, hf, _, hM, hG, hb1⟩
    have HB := Aside0.mk (hb1.alloc hb1.size (.cells #[.int .i64 f0, .int .i64 f1, .int .i64 f2, .int .i64 f3, .int .i64 f4, .int .i64 f5] 54))
    have HM := Aside0.mk (map_below hM ((Below.refl w1.heap.size w1).alloc (Nat.le_refl _) (.cells #[.int .i64 f0, .int .i64 f1, .int .i64 f2, .int .i64 f3, .int .i64 f4, .int .i64 f5] 54)))
    have hlt : ((Go.Maps.size D : Nat) : Int) < f1 := by
      have h1 := (hf (by rw [← HN.out]; omega)).1
      rw [hG.size, h1]
      rcases HNo.out with h | h
      · rw [← HN.out] at h; exact absurd h h0
      · exact h
    clear hb1 hf hM hG
    have hmlen := HM.out.len Tryd.underlying65 3
    go_wp2_with fail
    go_ret3
    exact ⟨.slice none 0 0, rfl, World.ownsRow_nil _ _ _ _, HB.out⟩
/-- The volume of a number. -/
noncomputable def byNum (L : List (List Int)) (k : Nat) : List Int := (L.find? (fun x => decide (num x = (k : Int)))).getD []
theorem byNum_of {L : List (List Int)} {k : Nat} (h : ∃ x ∈ L, num x = (k : Int)) : byNum L k ∈ L ∧ num (byNum L k) = (k : Int) := by
  obtain ⟨x, hx, hn⟩ := h
  unfold byNum
  cases hf : L.find? (fun x => decide (num x = (k : Int))) with
  | none =>
    have := List.find?_eq_none.1 hf x hx
    simp [hn] at this
  | some y =>
    exact ⟨List.mem_of_find?_eq_some hf, by have := List.find?_some hf; simpa using this⟩
noncomputable def outOf (L : List (List Int)) (k : Nat) : List Int := (List.range k).flatMap (fun j => partOf (byNum L j))
theorem outOf_succ (L : List (List Int)) (k : Nat) : outOf L (k + 1) = outOf L k ++ partOf (byNum L k) := by
  unfold outOf
  rw [List.range_succ, List.flatMap_append]
  simp
theorem own_ne5 {w : World} {B n L : Nat} {v : Value} {cs : List Value} {ns : List Int} (h : w.ownsRow B 5 1 v n cs) (hL : LabAt w L ns) (e : v.ownBlock = some L) : False := by
  obtain ⟨cells, hc⟩ := own_typed h L e
  unfold LabAt at hL
  rw [hc] at hL
  injection hL with hL
  injection hL with _ h3 _
  exact absurd h3 (by decide)
def JRel (w w1 : World) (L : List (List Int)) (bm F m : Nat) (D : DataW Value) (fs : List Int) (n' : Nat) (v9 v37 : Value) (wr : World) : Prop := ∃ k : Nat, v37 = .int .i64 k ∧ n' + k = m ∧ Own w.heap.size wr v9 (outOf L k) ∧ wr.ownsMap Tryd.prog 2 heldR bm L.length D ∧ LabAt wr F fs ∧ Below w.heap.size w wr
theorem part_small (x : List Int) (h : x.length ≤ 100000) : (partOf x).length ≤ 100000 := by
  unfold partOf openOf
  split
  · simp
  · split
    · split
      · show (((x.drop 512).take _).length ≤ _)
        rw [List.length_take, List.length_drop]; omega
      · simp
    · simp
theorem part_bd2 (x : List Int) (h : ∀ z ∈ x, 0 ≤ z ∧ z ≤ 255) : ∀ z ∈ partOf x, 0 ≤ z ∧ z ≤ 255 := by
  intro z hz
  unfold partOf openOf at hz
  split at hz
  · cases hz
  · split at hz
    · split at hz
      · exact h z (List.mem_of_mem_drop (List.mem_of_mem_take hz))
      · cases hz
    · cases hz
/-- Which numbers below so many no volume bears. -/
noncomputable def missOf (L : List (List Int)) (k : Nat) : List Int := (List.range k).filterMap (fun (j : Nat) => if (j : Int) ∈ L.map num then none else some (j : Int))
theorem missOf_succ (L : List (List Int)) (k : Nat) : missOf L (k + 1) = missOf L k ++ (if (k : Int) ∈ L.map num then [] else [(k : Int)]) := by
  unfold missOf
  rw [List.range_succ, List.filterMap_append]
  congr 1
  by_cases h : (k : Int) ∈ L.map num
  · simp only [List.filterMap_cons, List.filterMap_nil, if_pos h]
  · simp only [List.filterMap_cons, List.filterMap_nil, if_neg h]
theorem missOf_len (L : List (List Int)) (k : Nat) : (missOf L k).length ≤ k := by
  unfold missOf
  have := List.length_filterMap_le (fun (j : Nat) => if (j : Int) ∈ L.map num then none else some (j : Int)) (List.range k)
  rwa [List.length_range] at this
theorem intInfo : (Tryd.prog.info? 2).map (fun i => (i.zero, i.size, i.bytes)) = some (some (.int .i64 0), 1, 8) := by kernel_rfl
theorem fine_long (x : List Int) (h : (openOf x).2.2 = 0) : 512 ≤ x.length := by
  unfold openOf at h
  by_cases hl : x.length < 512
  · rw [if_pos hl] at h; exact absurd h (by decide)
  · omega
theorem own_ne2 {w : World} {B n L : Nat} {v : Value} {cs : List Value} {ns : List Int} (h : w.ownsRow B 2 1 v n cs) (hL : LabAt w L ns) (e : v.ownBlock = some L) : False := by
  obtain ⟨cells, hc⟩ := own_typed h L e
  unfold LabAt at hL
  rw [hc] at hL
  injection hL with hL
  injection hL with _ h3 _
  exact absurd h3 (by decide)
def MRel (w : World) (L : List (List Int)) (bm F m : Nat) (D : DataW Value) (fs : List Int) (n' : Nat) (v8 v9 : Value) (wr : World) : Prop := ∃ k : Nat, v9 = .int .i64 k ∧ n' + k = m ∧ wr.ownsRow w.heap.size 2 1 v8 (missOf L k).length (nums .i64 (missOf L k)) ∧ wr.ownsMap Tryd.prog 2 heldR bm L.length D ∧ LabAt wr F fs ∧ Below w.heap.size w wr
theorem own_slice {w : World} {B e s n : Nat} {v : Value} {xs : List Value} (h : w.ownsRow B e s v n xs) : ∃ A c, v = .slice A n c ∧ n ≤ c := by
  rcases h.2 with ⟨rfl, rfl⟩ | ⟨g, cap, cur, rfl, _, _, hnc, _⟩
  · exact ⟨none, 0, rfl, Nat.le_refl _⟩
  · exact ⟨_, _, rfl, hnc⟩
end Go.Proofs.YtkcgioggnbnfkaaDoor.JoinW
