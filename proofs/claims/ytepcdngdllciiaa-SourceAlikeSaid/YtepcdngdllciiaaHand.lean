/- Contracts of package source's methods, each walked once: what the call returns, what the source's block holds, and that nothing that existed before has changed; conditions stand with each. -/
import Derived.Test.YtepcdngdllciiaaHKit
import Derived.Test.YtepcdngdllciiaaRows
import Derived.WalkKit
import Derived.ProofKit
import Derived.BigQuiet
import Derived.Lib.SlBytesConst
import Derived.WalkLawsBesides
import Derived.Deep.RegionLaw
set_option linter.unusedVariables false
set_option linter.unusedSimpArgs false
namespace Go.Proofs.Ytepcdngdllciiaa.Hand
open Go.RowKit Go.Proofs.YtepcdngdllciiaaW.PrintWords Go.Proofs.YtepcdngdllciiaaW.PrintLast Go.Proofs.YtepcdngdllciiaaW.PrintMore Go.Proofs.YtepcdngdllciiaaW.HKit
theorem byteInfo : (Try.prog.info? 5).map (fun i => (i.zero, i.size, i.bytes)) = some (some (.int .u8 0), 1, 1) := by kernel_rfl
theorem intInfo : (Try.prog.info? 3).map (fun i => (i.zero, i.size, i.bytes)) = some (some (.int .i64 0), 1, 8) := by kernel_rfl
set_option maxRecDepth 100000 in
theorem cloneB_calls (v : Value) (xs : List Int) (w : World) (B : Nat) (hown : w.ownsRow B 5 1 v xs.length (nums .u8 xs)) (hlen : xs.length ≤ 140737488355328) :
    Calls Try.prog 20 #[v] w fun e w' => ∃ v1, e = .returned v1 ∧ w'.ownsRow w.heap.size 5 1 v1 xs.length (nums .u8 xs) ∧ Below w.heap.size w w' := by
  rcases id hown with ⟨hl, ⟨rfl, hn⟩ | ⟨g, cap, cur, rfl, hg, hcell, hnc, hcm, hcs, htk⟩⟩
  · obtain rfl : xs = [] := List.eq_nil_of_length_eq_zero hn
    clear hown hl hn
    have heq : ∀ W : World, (binOp .eql 22 (.slice none 0 0) (.slice none 0 0)).run Try.prog W = .ok (.bool true) W := fun W => Lib.run_eql_slice_nil W 22 5 none 0 0 0 0 Try.underlying22
    go_enter Try.func20, Try.ntmps20
    go_wp2_with fail
    go_ret
    exact ⟨_, rfl, ⟨rfl, .inl ⟨rfl, rfl⟩⟩, Below.refl _ _⟩
  · obtain ⟨A, c, hv, hr⟩ := own_reads hown
    injection hv with ev1 ev2 ev3
    subst ev1
    have HR := Aside0.mk hr
    clear hown hl hcell hnc hcm hcs htk hr ev2 ev3
    have how : (w.alloc (.cells #[] 5)).ownsRow w.heap.size 5 1 (.slice (some ⟨w.heap.size, 0, none⟩) 0 0) ([] : List Int).length (nums .u8 []) := ⟨rfl, .inr ⟨w.heap.size, 0, #[], rfl, Nat.le_refl _, heap_alloc_new w _, Nat.le_refl _, Nat.zero_le _, rfl, rfl⟩⟩
    have hba : Below w.heap.size w (w.alloc (.cells #[] 5)) := (Below.refl _ _).alloc (Nat.le_refl _) _
    have HO := Aside0.mk how
    have HB := Aside0.mk hba
    clear how hba
    have heq : ∀ W : World, (binOp .eql 22 (.slice (some ⟨g, 0, none⟩) xs.length cap) (.slice none 0 0)).run Try.prog W = .ok (.bool false) W := fun W => Lib.run_eql_slice_nil W 22 5 (some ⟨g, 0, none⟩) xs.length cap 0 0 Try.underlying22
    go_enter Try.func20, Try.ntmps20
    go_wp2_with (at_builtin; refine print_append_row (w0 := w) (W := w.alloc (.cells #[] 5)) w.heap.size rfl (.tmp 5) (.tmp 6) 22 5 .u8 1 rfl Try.underlying22 byteInfo (by decide) (.slice (some ⟨w.heap.size, 0, none⟩) 0 0) [] xs (some ⟨g, 0, none⟩) xs.length cap rfl rfl HO.out (ReadsInt.below HR.out HB.out) HB.out (by simp) (by simp; omega) (fun v1 w1 h1 hb _ _ => ?_))
    go_ret
    exact ⟨_, rfl, by simpa using h1, hb⟩
set_option maxRecDepth 100000 in
theorem cloneI_calls (v : Value) (xs : List Int) (w : World) (B : Nat) (hown : w.ownsRow B 3 1 v xs.length (nums .i64 xs)) (hlen : xs.length * 8 ≤ 140737488355328) :
    Calls Try.prog 21 #[v] w fun e w' => ∃ v1, e = .returned v1 ∧ w'.ownsRow w.heap.size 3 1 v1 xs.length (nums .i64 xs) ∧ Below w.heap.size w w' := by
  rcases id hown with ⟨hl, ⟨rfl, hn⟩ | ⟨g, cap, cur, rfl, hg, hcell, hnc, hcm, hcs, htk⟩⟩
  · obtain rfl : xs = [] := List.eq_nil_of_length_eq_zero hn
    clear hown hl hn
    have heq : ∀ W : World, (binOp .eql 23 (.slice none 0 0) (.slice none 0 0)).run Try.prog W = .ok (.bool true) W := fun W => Lib.run_eql_slice_nil W 23 3 none 0 0 0 0 Try.underlying23
    go_enter Try.func21, Try.ntmps21
    go_wp2_with fail
    go_ret
    exact ⟨_, rfl, ⟨rfl, .inl ⟨rfl, rfl⟩⟩, Below.refl _ _⟩
  · obtain ⟨A, c, hv, hr⟩ := own_reads hown
    injection hv with ev1 ev2 ev3
    subst ev1
    have HR := Aside0.mk hr
    clear hown hl hcell hnc hcm hcs htk hr ev2 ev3
    have how : (w.alloc (.cells #[] 3)).ownsRow w.heap.size 3 1 (.slice (some ⟨w.heap.size, 0, none⟩) 0 0) ([] : List Int).length (nums .i64 []) := ⟨rfl, .inr ⟨w.heap.size, 0, #[], rfl, Nat.le_refl _, heap_alloc_new w _, Nat.le_refl _, Nat.zero_le _, rfl, rfl⟩⟩
    have hba : Below w.heap.size w (w.alloc (.cells #[] 3)) := (Below.refl _ _).alloc (Nat.le_refl _) _
    have HO := Aside0.mk how
    have HB := Aside0.mk hba
    clear how hba
    have heq : ∀ W : World, (binOp .eql 23 (.slice (some ⟨g, 0, none⟩) xs.length cap) (.slice none 0 0)).run Try.prog W = .ok (.bool false) W := fun W => Lib.run_eql_slice_nil W 23 3 (some ⟨g, 0, none⟩) xs.length cap 0 0 Try.underlying23
    go_enter Try.func21, Try.ntmps21
    go_wp2_with (at_builtin; refine print_append_row (w0 := w) (W := w.alloc (.cells #[] 3)) w.heap.size rfl (.tmp 5) (.tmp 6) 23 3 .i64 8 rfl Try.underlying23 intInfo (by decide) (.slice (some ⟨w.heap.size, 0, none⟩) 0 0) [] xs (some ⟨g, 0, none⟩) xs.length cap rfl rfl HO.out (ReadsInt.below HR.out HB.out) HB.out (by simp) (by simp; omega) (fun v1 w1 h1 hb _ _ => ?_))
    go_ret
    exact ⟨_, rfl, by simpa using h1, hb⟩
theorem left_nil (w : World) : Calls Try.prog 11 #[.pointer none] w fun e w' => e = .returned (.int .i64 0) ∧ w = w' := by
  go_enter Try.func11, Try.ntmps11
  go_wp2_with fail
  go_ret
  exact ⟨rfl, rfl⟩
theorem piece_nil (w : World) : Calls Try.prog 12 #[.pointer none] w fun e w' => e = .returned (.tuple #[.slice none 0 0, .bool false]) ∧ w = w' := by
  go_enter Try.func12, Try.ntmps12
  go_wp2_with fail
  go_ret2
  exact ⟨rfl, rfl⟩
theorem index_nil (w : World) : Calls Try.prog 15 #[.pointer none] w fun e w' => e = .returned (.int .i64 0) ∧ w = w' := by
  go_enter Try.func15, Try.ntmps15
  go_wp2_with fail
  go_ret
  exact ⟨rfl, rfl⟩
theorem held_nil (w : World) : Calls Try.prog 16 #[.pointer none] w fun e w' => e = .returned (.int .i64 0) ∧ w = w' := by
  go_enter Try.func16, Try.ntmps16
  go_wp2_with fail
  go_ret
  exact ⟨rfl, rfl⟩
theorem next_nil (w : World) : Calls Try.prog 18 #[.pointer none] w fun e w' => e = .returned (.tuple #[.slice none 0 0, .int .u8 1]) ∧ w = w' := by
  go_enter Try.func18, Try.ntmps18
  go_wp2_with fail
  go_ret2
  exact ⟨rfl, rfl⟩
/-- A reader's block. -/
def BlocksAt (w : World) (g : Nat) (sk : Option Addr) (held : Value) (index : Int) : Prop := w.heap[g]? = some (.cells #[.pointer sk, held, .int .i64 index] 49 (0, 0))
theorem newBlocks_calls (sk : Option Addr) (w : World) : Calls Try.prog 14 #[.pointer sk] w fun e w' => ∃ g, e = .returned (.pointer (some ⟨g, 0, none⟩)) ∧ w.heap.size ≤ g ∧ BlocksAt w' g sk (.slice none 0 0) 0 ∧ Below w.heap.size w w' := by
  go_enter Try.func14, Try.ntmps14
  go_wp2_with fail
  go_ret
  exact ⟨w.heap.size, rfl, Nat.le_refl _, heap_alloc_new w _, (Below.refl _ _).alloc (Nat.le_refl _) _⟩
attribute [local go_sem] max2_int min2_int max_two min_two max_three min_three max_four min_four   -- for this text's walks alone
/-- The size that a script tells next, and the place behind it. -/
def pieceSize (szs : List Int) (k : Nat) : Int := if szs.length = 0 then 512 else mx (rd szs ((min k (szs.length - 1) : Nat) : Int)) 1
def pieceNext (szs : List Int) (k : Nat) : Nat := if k < szs.length then k + 1 else k
theorem mx1_lt (y : Int) (h : y < 1) : mx y 1 = 1 := by unfold mx; split <;> omega
theorem mx1_ge (y : Int) (h : 1 ≤ y) : mx y 1 = y := by unfold mx; split <;> omega
set_option maxHeartbeats 4000000 in
set_option maxRecDepth 100000 in
theorem size_calls (g : Nat) (vb : Value) (A2 : Option Addr) (c2 : Nat) (szs : List Int) (k : Nat) (w : World) (hg : w.heap[g]? = some (.cells #[vb, .slice A2 szs.length c2, .int .i64 (k : Int)] 46 (0, 0)))
    (hr : Kd.C (Kd.int .i64) w A2 szs.length szs) (hk : k ≤ szs.length) (B : Nat) (hB : B ≤ g) :
    Calls Try.prog 23 #[.pointer (some ⟨g, 0, none⟩)] w fun e w' => e = .returned (.int .i64 (pieceSize szs k)) ∧ w'.heap[g]? = some (.cells #[vb, .slice A2 szs.length c2, .int .i64 (pieceNext szs k : Int)] 46 (0, 0)) ∧ KeepBut w w' g none ∧ Below B w w' := by
  have hn : szs.length ≤ 9223372036854775807 := hr.2.1
  have c1 : w.cell? ⟨g, 1, none⟩ = some (.slice A2 szs.length c2) := by rw [blk_cell hg]; rfl
  have d2 : w.cell? ⟨g, 2, none⟩ = some (.int .i64 (k : Int)) := by rw [blk_cell hg]; rfl
  have f2 : w.frozen? ⟨g, 2, none⟩ = false := blk_frozen hg 2
  have HG := Aside0.mk hg
  have HR := Aside0.mk hr
  clear hg hr
  by_cases h0 : szs.length = 0
  · obtain rfl : szs = [] := List.eq_nil_of_length_eq_zero h0
    obtain rfl : k = 0 := by simpa using hk
    go_enter Try.func23, Try.ntmps23
    go_wp2_with fail
    go_ret
    exact ⟨rfl, HG.out, KeepBut.refl _ _ _, Below.refl _ _⟩
  · obtain ⟨ad, hA, hcell⟩ := Kd.at_int HR.out ((min k (szs.length - 1) : Nat) : Int) (by omega) (by omega)
    subst hA
    rw [Int.toNat_natCast] at hcell
    have hps : pieceSize szs k = mx (rd szs ((min k (szs.length - 1) : Nat) : Int)) 1 := by unfold pieceSize; rw [if_neg h0]
    have hd0 : ((szs.length : Int) == 0) = false := beq_eq_false_iff_ne.2 (by omega)
    have hm1 : ((szs.length : Int) - 1) = ((szs.length - 1 : Nat) : Int) := by omega
    have hw1 : IntKind.i64.wrap ((szs.length - 1 : Nat) : Int) = ((szs.length - 1 : Nat) : Int) := (i64_w _).trans (IntWalk.wrap64_in _ ⟨by omega, by omega⟩)
    by_cases hlt : k < szs.length
    · have hj : min k (szs.length - 1) = k := by omega
      rw [hj] at hcell hps
      generalize rd szs ((k : Nat) : Int) = y at hcell hps
      have HP := Aside0.mk hps
      clear hps hj
      have hq1 : ¬ (szs.length - 1 < k) := by omega
      have hq2 : ¬ (((szs.length - 1 : Nat) : Int) < (k : Int)) := by omega
      have hd3 : decide ((k : Int) < (szs.length : Int)) = true := decide_eq_true (by omega)
      have hd4 : decide (k < szs.length) = true := decide_eq_true hlt
      go_enter Try.func23, Try.ntmps23
      go_wp2_with fail
      go_quiet (fail)
      go_wp2_with fail
      go_quiet (fail)
      go_wp2_with fail
      all_goals go_ret
      all_goals refine ⟨by rw [HP.out]; first | (rw [mx1_lt y (by omega)]; rfl) | (rw [mx1_ge y (by omega)]; rfl), ?_, KeepBut.set_ (w := w) ⟨Nat.le_refl _, fun _ _ _ _ => rfl⟩ 2 _, Below.setCell (pw_below_drewN (Below.refl B w) _) (show B ≤ (⟨g, 2, none⟩ : Addr).block from hB) _⟩
      all_goals unfold pieceNext
      all_goals rw [if_pos hlt]
      all_goals exact blk_set (w := w) HG.out 2 (.int .i64 ((k : Int) + 1))
    · obtain rfl : k = szs.length := by omega
      have hj : min szs.length (szs.length - 1) = szs.length - 1 := by omega
      rw [hj] at hcell hps
      generalize rd szs ((szs.length - 1 : Nat) : Int) = y at hcell hps
      have HP := Aside0.mk hps
      clear hps hj
      have hq1 : szs.length - 1 < szs.length := by omega
      have hq2 : ((szs.length - 1 : Nat) : Int) < (szs.length : Int) := by omega
      go_enter Try.func23, Try.ntmps23
      go_wp2_with fail
      go_quiet (fail)
      go_wp2_with fail
      go_quiet (fail)
      go_wp2_with fail
      all_goals go_ret
      all_goals refine ⟨by rw [HP.out]; first | (rw [mx1_lt y (by omega)]; rfl) | (rw [mx1_ge y (by omega)]; rfl), ?_, ⟨Nat.le_refl _, fun _ _ _ _ => rfl⟩, ⟨rfl, rfl, rfl, Nat.le_refl _, fun _ _ => rfl⟩⟩
      all_goals unfold pieceNext
      all_goals rw [if_neg hlt]
      all_goals exact HG.out
/-- A source's block: what is left and the script lie in the blocks of S, none of them the source's own. -/
def SrcAt (w : World) (B g : Nat) (S : Nat → Prop) (bs szs : List Int) (k : Nat) : Prop :=
  ∃ (A A2 : Option Addr) (c c2 : Nat), w.heap[g]? = some (.cells #[.slice A bs.length c, .slice A2 szs.length c2, .int .i64 (k : Int)] 46 (0, 0)) ∧ B ≤ g ∧ bs.length ≤ c ∧ k ≤ szs.length ∧ ¬ S g ∧ (∀ q, S q → B ≤ q ∧ q < w.heap.size) ∧
    ∀ W : World, (∀ q, S q → W.heap[q]? = w.heap[q]?) → Kd.C (Kd.int .u8) W A bs.length bs ∧ Kd.C (Kd.int .i64) W A2 szs.length szs
theorem own_C {w : World} {B e n : Nat} {kd : IntKind} {v : Value} {xs : List Int} (h : w.ownsRow B e 1 v n (nums kd xs)) (hn : n = xs.length) : ∃ A c, v = .slice A n c ∧ n ≤ c ∧ Kd.C (Kd.int kd) w A n xs ∧ (∀ q, v.ownBlock = some q → B ≤ q ∧ q < w.heap.size) ∧ ∀ W : World, (∀ q, v.ownBlock = some q → W.heap[q]? = w.heap[q]?) → Kd.C (Kd.int kd) W A n xs := by
  subst hn
  have key : ∀ W : World, (∀ q, v.ownBlock = some q → W.heap[q]? = w.heap[q]?) → W.ownsRow B e 1 v xs.length (nums kd xs) := by
    intro W hW
    obtain ⟨h1, h2⟩ := h
    refine ⟨h1, ?_⟩
    rcases h2 with h2 | ⟨g, cap, cur, rfl, hg, hh, r⟩
    · exact .inl h2
    · exact .inr ⟨g, cap, cur, rfl, hg, (hW g rfl).trans hh, r⟩
  have toC : ∀ W : World, ∀ A c, v = .slice A xs.length c → W.ownsRow B e 1 v xs.length (nums kd xs) → Kd.C (Kd.int kd) W A xs.length xs := by
    intro W A c hv ho
    obtain ⟨A', c', hv', hr⟩ := own_reads ho
    rw [hv] at hv'
    injection hv' with e1 e2 e3
    subst e1
    exact Kd.C_of_reads (enc := Value.int kd) (d := (0 : Int)) (h1 := fun _ => rfl) hr
  obtain ⟨A, c, hv, hr⟩ := own_reads h
  refine ⟨A, c, hv, ?_, toC w A c hv h, ?_, fun W hW => toC W A c hv (key W hW)⟩
  · rcases h.2 with ⟨e1, e2⟩ | ⟨g, cap, cur, e1, _, _, hnc, _⟩
    · omega
    · rw [hv] at e1
      injection e1 with _ _ e3
      omega
  · intro q hq
    rcases h.2 with ⟨rfl, _⟩ | ⟨g, cap, cur, rfl, hg, hh, _⟩
    · simp [Value.ownBlock] at hq
    · have : g = q := by simpa [Value.ownBlock] using hq
      subst this
      exact ⟨hg, blk_lt hh⟩
set_option maxRecDepth 100000 in
theorem cloneB_any (A : Option Addr) (n c : Nat) (xs : List Int) (w : World) (hr : Kd.C (Kd.int .u8) w A n xs) (hnil : A = none → n = 0 ∧ c = 0) (hlen : n * 1 ≤ 140737488355328) :
    Calls Try.prog 20 #[.slice A n c] w fun e w' => ∃ v1, e = .returned v1 ∧ w'.ownsRow w.heap.size 5 1 v1 xs.length (nums .u8 xs) ∧ Below w.heap.size w w' := by
  have hn : xs.length = n := C_len hr
  rcases A with _ | ad
  · obtain ⟨rfl, rfl⟩ := hnil rfl
    obtain rfl : xs = [] := List.eq_nil_of_length_eq_zero hn
    have heq : ∀ W : World, (binOp .eql 22 (.slice none 0 0) (.slice none 0 0)).run Try.prog W = .ok (.bool true) W := fun W => Lib.run_eql_slice_nil W 22 5 none 0 0 0 0 Try.underlying22
    clear hr hnil hn
    go_enter Try.func20, Try.ntmps20
    go_wp2_with fail
    go_ret
    exact ⟨_, rfl, ⟨rfl, .inl ⟨rfl, rfl⟩⟩, Below.refl _ _⟩
  · have hrd : ReadsInt w .u8 (some ad) n xs := Kd.reads_of_C (enc := Value.int .u8) (d := (0 : Int)) (h1 := fun _ => rfl) hr
    have HR := Aside0.mk hrd
    clear hr hrd hnil
    have heq : ∀ W : World, (binOp .eql 22 (.slice (some ad) n c) (.slice none 0 0)).run Try.prog W = .ok (.bool false) W := fun W => Lib.run_eql_slice_nil W 22 5 (some ad) n c 0 0 Try.underlying22
    have how : (w.alloc (.cells #[] 5)).ownsRow w.heap.size 5 1 (.slice (some ⟨w.heap.size, 0, none⟩) 0 0) ([] : List Int).length (nums .u8 []) := ⟨rfl, .inr ⟨w.heap.size, 0, #[], rfl, Nat.le_refl _, heap_alloc_new w _, Nat.le_refl _, Nat.zero_le _, rfl, rfl⟩⟩
    have hba : Below w.heap.size w (w.alloc (.cells #[] 5)) := (Below.refl _ _).alloc (Nat.le_refl _) _
    have HO := Aside0.mk how
    have HB := Aside0.mk hba
    clear how hba
    go_enter Try.func20, Try.ntmps20
    go_wp2_with (at_builtin; refine print_append_row (w0 := w) (W := w.alloc (.cells #[] 5)) w.heap.size rfl (.tmp 5) (.tmp 6) 22 5 .u8 1 rfl Try.underlying22 byteInfo (by decide) (.slice (some ⟨w.heap.size, 0, none⟩) 0 0) [] xs (some ad) n c rfl rfl HO.out (ReadsInt.below HR.out HB.out) HB.out (by simp) (by simp; omega) (fun v1 w1 h1 hb _ _ => ?_))
    go_ret
    exact ⟨_, rfl, by simpa using h1, hb⟩
set_option maxRecDepth 100000 in
theorem cloneI_any (A : Option Addr) (n c : Nat) (xs : List Int) (w : World) (hr : Kd.C (Kd.int .i64) w A n xs) (hnil : A = none → n = 0 ∧ c = 0) (hlen : n * 8 ≤ 140737488355328) :
    Calls Try.prog 21 #[.slice A n c] w fun e w' => ∃ v1, e = .returned v1 ∧ w'.ownsRow w.heap.size 3 1 v1 xs.length (nums .i64 xs) ∧ Below w.heap.size w w' := by
  have hn : xs.length = n := C_len hr
  rcases A with _ | ad
  · obtain ⟨rfl, rfl⟩ := hnil rfl
    obtain rfl : xs = [] := List.eq_nil_of_length_eq_zero hn
    have heq : ∀ W : World, (binOp .eql 23 (.slice none 0 0) (.slice none 0 0)).run Try.prog W = .ok (.bool true) W := fun W => Lib.run_eql_slice_nil W 23 3 none 0 0 0 0 Try.underlying23
    clear hr hnil hn
    go_enter Try.func21, Try.ntmps21
    go_wp2_with fail
    go_ret
    exact ⟨_, rfl, ⟨rfl, .inl ⟨rfl, rfl⟩⟩, Below.refl _ _⟩
  · have hrd : ReadsInt w .i64 (some ad) n xs := Kd.reads_of_C (enc := Value.int .i64) (d := (0 : Int)) (h1 := fun _ => rfl) hr
    have HR := Aside0.mk hrd
    clear hr hrd hnil
    have heq : ∀ W : World, (binOp .eql 23 (.slice (some ad) n c) (.slice none 0 0)).run Try.prog W = .ok (.bool false) W := fun W => Lib.run_eql_slice_nil W 23 3 (some ad) n c 0 0 Try.underlying23
    have how : (w.alloc (.cells #[] 3)).ownsRow w.heap.size 3 1 (.slice (some ⟨w.heap.size, 0, none⟩) 0 0) ([] : List Int).length (nums .i64 []) := ⟨rfl, .inr ⟨w.heap.size, 0, #[], rfl, Nat.le_refl _, heap_alloc_new w _, Nat.le_refl _, Nat.zero_le _, rfl, rfl⟩⟩
    have hba : Below w.heap.size w (w.alloc (.cells #[] 3)) := (Below.refl _ _).alloc (Nat.le_refl _) _
    have HO := Aside0.mk how
    have HB := Aside0.mk hba
    clear how hba
    go_enter Try.func21, Try.ntmps21
    go_wp2_with (at_builtin; refine print_append_row (w0 := w) (W := w.alloc (.cells #[] 3)) w.heap.size rfl (.tmp 5) (.tmp 6) 23 3 .i64 8 rfl Try.underlying23 intInfo (by decide) (.slice (some ⟨w.heap.size, 0, none⟩) 0 0) [] xs (some ad) n c rfl rfl HO.out (ReadsInt.below HR.out HB.out) HB.out (by simp) (by simp; omega) (fun v1 w1 h1 hb _ _ => ?_))
    go_ret
    exact ⟨_, rfl, by simpa using h1, hb⟩
set_option maxHeartbeats 2000000 in
set_option maxRecDepth 100000 in
theorem new_calls (A : Option Addr) (n c : Nat) (bs : List Int) (A2 : Option Addr) (n2 c2 : Nat) (szs : List Int) (w : World) (hr : Kd.C (Kd.int .u8) w A n bs) (hnil : A = none → n = 0 ∧ c = 0) (hlen : n * 1 ≤ 140737488355328)
    (hr2 : Kd.C (Kd.int .i64) w A2 n2 szs) (hnil2 : A2 = none → n2 = 0 ∧ c2 = 0) (hlen2 : n2 * 8 ≤ 140737488355328) :
    Calls Try.prog 9 #[.slice A n c, .slice A2 n2 c2] w fun e w' => ∃ (g : Nat) (S : Nat → Prop), e = .returned (.pointer (some ⟨g, 0, none⟩)) ∧ SrcAt w' w.heap.size g S bs szs 0 ∧ Below w.heap.size w w' := by
  have H1 := Lib.hid (cloneB_any A n c bs w hr hnil hlen)
  have HR2 := Aside0.mk hr2
  clear hr hnil hr2
  go_enter Try.func9, Try.ntmps9
  go_wp2_with fail
  refine H1.out.mono ?_
  rintro e w1 ⟨v1, rfl, ho1, hb1⟩
  obtain ⟨A1, c1, rfl, hc1, hC1, hq1, hst1⟩ := own_C ho1 rfl
  have H2 := Lib.hid (cloneI_any A2 n2 c2 szs w1 (Kd.C_below HR2.out hb1) hnil2 hlen2)
  have HQ1 := Aside0.mk hq1
  have HS1 := Aside0.mk hst1
  have HB1 := Aside0.mk hb1
  clear ho1 hb1 hnil2 hC1 hq1 hst1
  go_wp2_with fail
  refine H2.out.mono ?_
  rintro e w2 ⟨v2, rfl, ho2, hb2⟩
  obtain ⟨A3, c3, rfl, hc3, hC3, hq3, hst3⟩ := own_C ho2 rfl
  have HQ3 := Aside0.mk hq3
  have HS3 := Aside0.mk hst3
  have HB2 := Aside0.mk hb2
  clear ho2 hb2 hC3 hq3 hst3 H1 H2 HR2
  go_wp2_with fail
  go_ret
  have z1 := HB1.out.size
  have z2 := HB2.out.size
  refine ⟨w2.heap.size, fun q => (Value.slice A1 bs.length c1).ownBlock = some q ∨ (Value.slice A3 szs.length c3).ownBlock = some q, rfl, ⟨A1, A3, c1, c3, heap_alloc_new w2 _, by omega, hc1, Nat.zero_le _, ?_, ?_, ?_⟩, ?_⟩
  · rintro (h | h)
    · have := (HQ1.out _ h).2; omega
    · have := (HQ3.out _ h).2; omega
  · rintro q (h | h)
    · have := HQ1.out _ h; exact ⟨by omega, by simp; omega⟩
    · have := HQ3.out _ h; exact ⟨by omega, by simp; omega⟩
  · intro W hW
    refine ⟨HS1.out W (fun q hq => ?_), HS3.out W (fun q hq => ?_)⟩
    · have := HQ1.out _ hq
      exact (hW q (.inl hq)).trans ((Below.heap_alloc _ _ _ (by omega)).trans (HB2.out.block q this.2))
    · have := HQ3.out _ hq
      exact (hW q (.inr hq)).trans (Below.heap_alloc _ _ _ this.2)
  · exact (HB1.out.trans (Below.mono HB2.out z1)).alloc (by omega) _
theorem piece_none (g : Nat) (S : Nat → Prop) (szs : List Int) (k B : Nat) (w : World) (hS : SrcAt w B g S [] szs k) : Calls Try.prog 12 #[.pointer (some ⟨g, 0, none⟩)] w fun e w' => e = .returned (.tuple #[.slice none 0 0, .bool false]) ∧ w = w' := by
  obtain ⟨A, A2, c, c2, hg, hB, hc, hk, hSg, hSq, hst⟩ := hS
  have c0 : w.cell? ⟨g, 0, none⟩ = some (.slice A 0 c) := by rw [blk_cell hg]; rfl
  clear hg hst
  go_enter Try.func12, Try.ntmps12
  go_wp2_with fail
  go_ret2
  exact ⟨rfl, rfl⟩
/-- How many bytes come next. -/
def pieceLen (bs szs : List Int) (k : Nat) : Nat := (mn (pieceSize szs k) (bs.length : Int)).toNat
set_option maxHeartbeats 4000000 in
set_option maxRecDepth 100000 in
theorem piece_calls (g : Nat) (S : Nat → Prop) (bs szs : List Int) (k B : Nat) (w : World) (hS : SrcAt w B g S bs szs k) (h0 : 0 < bs.length) (hlen : bs.length ≤ 140737488355328) :
    Calls Try.prog 12 #[.pointer (some ⟨g, 0, none⟩)] w fun e w' => ∃ v1, e = .returned (.tuple #[v1, .bool true]) ∧ w'.ownsRow w.heap.size 5 1 v1 (bs.take (pieceLen bs szs k)).length (nums .u8 (bs.take (pieceLen bs szs k))) ∧
      SrcAt w' B g S (bs.drop (pieceLen bs szs k)) szs (pieceNext szs k) ∧ KeepBut w w' g none ∧ Below B w w' := by
  obtain ⟨A, A2, c, c2, hg, hB, hc, hk, hSg, hSq, hst⟩ := hS
  have c0 : w.cell? ⟨g, 0, none⟩ = some (.slice A bs.length c) := by rw [blk_cell hg]; rfl
  have hd0 : ((bs.length : Int) == 0) = false := beq_eq_false_iff_ne.2 (by omega)
  have HS := Lib.hid (size_calls g _ A2 c2 szs k w.drew hg (hst w.drew (fun _ _ => rfl)).2 hk B hB)
  obtain ⟨ad, hA, _⟩ := Kd.at_int (hst w (fun _ _ => rfl)).1 0 (by omega) (by omega)
  subst hA
  have hps : 1 ≤ pieceSize szs k := by unfold pieceSize; split; · omega
                                       · unfold mx; split <;> omega
  have hmn : (if (bs.length : Int) < pieceSize szs k then (bs.length : Int) else pieceSize szs k) = ((pieceLen bs szs k : Nat) : Int) := by unfold pieceLen mn; split <;> omega
  have hml : pieceLen bs szs k ≤ bs.length := by unfold pieceLen mn; split <;> omega
  obtain ⟨m, hm⟩ : ∃ m, pieceLen bs szs k = m := ⟨_, rfl⟩
  rw [hm] at hmn hml
  have HM := Aside0.mk hm
  clear hm hps
  have hmc : m ≤ c := by omega
  have HST := Aside0.mk hst
  have HG := Aside0.mk hg
  clear hst hg
  go_enter Try.func12, Try.ntmps12
  go_wp2_with fail
  go_region_with (refine HS.out.mono ?_; rintro e w1 ⟨rfl, h1, hk1, hbw1⟩; have HBw1 := Aside0.mk hbw1; have c0' : w1.cell? ⟨g, 0, none⟩ = some (.slice (some ad) bs.length c) := (by rw [blk_cell h1]; rfl); have HG1 := Aside0.mk h1; have HK1 := Aside0.mk hk1; clear h1 hk1 hbw1)
  all_goals
    go_wp2_with fail
    have hsame : ∀ q, S q → w1.heap[q]? = w.heap[q]? := fun q hq => HK1.out.2 q (hSq q hq).2 (fun e => hSg (e ▸ hq)) (by simp)
    have hCw1 := (HST.out w1 hsame).1
    have hl : bs.length = bs.length := rfl
    have htk : Kd.C (Kd.int .u8) w1 (some ad) m (bs.take m) := by
      have := Kd.C_take (m := m) hCw1 hml
      rwa [List.length_take, Nat.min_eq_left hml] at this
    refine (cloneB_any (some ad) m c (bs.take m) w1 htk (by simp) (by omega)).mono ?_
    rintro e w2 ⟨v1, rfl, ho, hb⟩
    have hg2 : w2.heap[g]? = some (.cells #[.slice (some ad) bs.length c, .slice A2 szs.length c2, .int .i64 (pieceNext szs k : Int)] 46 (0, 0)) := (hb.block g (blk_lt HG1.out)).trans HG1.out
    have q0 : w2.cell? ⟨g, 0, none⟩ = some (.slice (some ad) bs.length c) := by rw [blk_cell hg2]; rfl
    have q1 : w2.frozen? ⟨g, 0, none⟩ = false := blk_frozen hg2 0
    obtain ⟨i0, hi, hz0, hz1, hz2⟩ := info_parts byteInfo
    have hsl := cut_from (P := Try.prog) 22 5 .i64 Try.underlying22 hi 1 hz1 (some ad) bs.length c (m : Int) (by omega) (by omega)
    simp only [Int.toNat_natCast] at hsl
    have hdrop : ∀ W : World, Kd.C (Kd.int .u8) W (some ad) bs.length bs → Kd.C (Kd.int .u8) W (if c = m then some ad else Option.map (fun x => x.add (m * 1)) (some ad)) (bs.length - m) (bs.drop m) := by
      intro W hW
      have := Kd.C_drop (m := m) (c := c) hW hml hc
      rw [List.length_drop] at this
      exact this
    generalize (if c = m then some ad else Option.map (fun x => x.add (m * 1)) (some ad)) = A4 at hsl hdrop
    have HO := Aside0.mk ho
    have HBk := Aside0.mk hb
    have HG2 := Aside0.mk hg2
    have HD := Aside0.mk hdrop
    have HSm := Aside0.mk hsame
    clear ho hb hg2 hdrop hsame hCw1 htk hl hi hz0 hz1 hz2 c0 c0'
    go_wp2_with fail
    go_ret2
    have hk1 : KeepBut w w1 g none := ⟨HK1.out.1, HK1.out.2⟩
    have z1 := hk1.1
    have z2 := HBk.out.size
    rw [HM.out]
    have hne : some g ≠ v1.ownBlock := own_ne HO.out HG2.out (by decide)
    refine ⟨v1, rfl, ?_, ⟨A4, A2, c - m, c2, ?_, hB, ?_, ?_, hSg, ?_, ?_⟩, KeepBut.set_ (KeepBut.trans hk1 (KeepBut.of_below HBk.out g none) (.inl rfl)) 0 _, ?_⟩
    · exact own_setCell (own_weaken HO.out z1) (p := ⟨g, 0, none⟩) hne _
    · rw [List.length_drop]
      exact blk_set HG2.out 0 _
    · rw [List.length_drop]; omega
    · unfold pieceNext; split <;> omega
    · intro q hq
      have := hSq q hq
      refine ⟨this.1, ?_⟩
      have z3 : (w2.setCell ⟨g, 0, none⟩ (.slice A4 (bs.length - m) (c - m))).heap.size = w2.heap.size := by simp [World.setCell]
      omega
    · intro W hW
      have hWS : ∀ q, S q → W.heap[q]? = w.heap[q]? := fun q hq => by
        refine (hW q hq).trans ((Below.heap_setCell w2 ⟨g, 0, none⟩ _ q (fun e => hSg ((show q = g from e) ▸ hq))).trans ((HBk.out.block q ?_).trans (HSm.out q hq)))
        have := (hSq q hq).2
        omega
      rw [List.length_drop]
      exact ⟨HD.out W (HST.out W hWS).1, (HST.out W hWS).2⟩
    · have hbw : Below B w w1 := ⟨HBw1.out.os, HBw1.out.tape, HBw1.out.output, HBw1.out.size, HBw1.out.block⟩
      have hz := Nat.le_trans (Nat.le_of_lt (Nat.lt_of_le_of_lt hB (blk_lt HG.out))) hbw.size
      exact Below.setCell (hbw.trans (Below.mono HBk.out hz)) (show B ≤ (⟨g, 0, none⟩ : Addr).block from hB) _
end Go.Proofs.Ytepcdngdllciiaa.Hand
