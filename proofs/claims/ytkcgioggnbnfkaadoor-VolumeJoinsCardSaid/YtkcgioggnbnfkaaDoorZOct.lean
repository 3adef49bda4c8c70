/- Contracts of num.Octal and of what it calls (bytes.TrimLeft of blanks, bytes.Trim of noughts and blanks), each walked once: what the call returns, and that nothing that existed before it has changed; conditions stand with each. -/
import Derived.Test.YtkcgioggnbnfkaaDoorZShelf
import Derived.Test.YtkcgioggnbnfkaaDoorZHKit
import Derived.Laws.BitsAllLaws
set_option linter.unusedVariables false
set_option linter.unusedSimpArgs false
namespace Go.Proofs.YtkcgioggnbnfkaaDoor.Hand
open Go.RowKit Go.Proofs.YtkcgioggnbnfkaaDoorW.PrintWords Go.Proofs.YtkcgioggnbnfkaaDoorW.PrintLast Go.Proofs.YtkcgioggnbnfkaaDoorW.PrintMore Go.Proofs.YtkcgioggnbnfkaaDoorW.HKit

theorem byteInfo : (Tryd.prog.info? 5).map (fun i => (i.zero, i.size, i.bytes)) = some (some (.int .u8 0), 1, 1) := by kernel_rfl
theorem contains_calls (b : Nat) (x : Int) (v : Bool) (w : World) (h0 : 0 ≤ x) (h1 : x < 256) (hc : w.cell? ⟨b, x.toNat, none⟩ = some (.bool v)) :
    Calls Tryd.prog 63 #[.pointer (some ⟨b, 0, none⟩), .int .u8 x] w fun e w' => e = .returned (.bool v) ∧ w = w' := by
  obtain ⟨n, rfl⟩ := Int.eq_ofNat_of_zero_le h0
  rw [Int.toNat_natCast] at hc
  have h1' : (n : Int) < 256 := h1
  go_enter Tryd.func63, Tryd.ntmps63
  go_wp2
  go_ret
  exact ⟨rfl, rfl⟩
theorem digit_calls (c : Int) (w : World) : Calls Tryd.prog 54 #[.int .u8 c] w fun e w' => e = .returned (.bool (decide (48 ≤ c ∧ c ≤ 55))) ∧ w = w' := by
  by_cases h1 : 48 ≤ c
  · go_enter Tryd.func54, Tryd.ntmps54
    go_wp2
    go_ret
    exact ⟨by simp [h1], rfl⟩
  · have hd : decide (48 ≤ c) = false := by simpa using h1
    go_enter Tryd.func54, Tryd.ntmps54
    go_wp2
    go_ret
    exact ⟨by simp [h1], rfl⟩
/-- What a trimming hands over: bytes that are read. -/
def Trimmed (w : World) (ys : List Int) (e : Ending) (w' : World) : Prop := ∃ (A : Option Addr) (n c : Nat), e = .returned (.slice A n c) ∧ n ≤ c ∧ Kd.C (Kd.int .u8) w A n ys ∧ w = w'
set_option maxHeartbeats 1000000 in
theorem leftByte_calls (A : Option Addr) (n c : Nat) (xs : List Int) (b : Int) (w : World) (hr : Kd.C (Kd.int .u8) w A n xs) (hc : n ≤ c) :
    Calls Tryd.prog 57 #[.slice A n c, .int .u8 b] w (Trimmed w (xs.dropWhile (fun x => decide (x = b)))) := by
  obtain ⟨i0, hi, hz0, hz1, hz2⟩ := info_parts byteInfo
  have hn : n ≤ 9223372036854775807 := hr.2.1
  have HR := Aside0.mk hr
  have HI := Aside0.mk hi
  clear hr hi
  go_enter Tryd.func57, Tryd.ntmps57
  go_wp2
  go_loop [0] (fun v => ∃ (A1 : Option Addr) (m c1 : Nat) (ys : List Int), v = .slice A1 m c1 ∧ m ≤ c1 ∧ m ≤ n ∧ Aside0 (Kd.C (Kd.int .u8) w A1 m ys) ∧ Aside0 (xs.dropWhile (fun x => decide (x = b)) = ys.dropWhile (fun x => decide (x = b)))) (fun v => match v with | .slice _ k _ => k | _ => 0)
  case atStart => exact ⟨A, n, c, xs, rfl, hc, Nat.le_refl _, HR, ⟨rfl⟩⟩
  case round =>
    obtain ⟨A1, m, c1, ys, rfl, hm, hmn, HC, HE⟩ := hrel
    by_cases h0 : 0 < m
    · obtain ⟨ad, hA, hcell⟩ := Kd.at_int HC.out 0 (by omega) (by omega)
      subst hA
      replace hcell : w.cell? ad = some (.int .u8 (rd ys 0)) := by simpa [Addr.add] using hcell
      have hsl := slice1 (P := Tryd.prog) 22 5 .i64 Tryd.underlying22 HI.out hz1 (some ad) m c1 h0
      have hys : ys = rd ys 0 :: ys.tail := by
        have := C_len HC.out
        cases ys with
        | nil => simp at this; omega
        | cons y r => rfl
      have hcut := C_cut1 (c := c1) HC.out h0 hm
      have HY := Aside0.mk hys
      have HK := Aside0.mk hcut
      clear hys hcut
      generalize (if c1 = 1 then some ad else Option.map (fun x => x.add 1) (some ad)) = A2 at hsl HK
      generalize rd ys 0 = y at hcell HY
      by_cases hb : y = b
      · have hb1 : (y == b) = true := beq_iff_eq.2 hb
        have HB := Aside0.mk hb
        clear hb
        go_wp2
        go_round
        case rel => exact ⟨A2, m - 1, c1 - 1, ys.tail, rfl, by omega, by omega, HK, ⟨by rw [HE.out, HY.out, List.dropWhile_cons, if_pos (decide_eq_true HB.out)]; rfl⟩⟩
        case measure => simp; omega
      · have hb1 : (y == b) = false := beq_eq_false_iff_ne.2 hb
        have HB := Aside0.mk hb
        clear hb
        go_wp2
        go_ret
        exact ⟨_, m, c1, rfl, hm, by rw [HE.out, HY.out, List.dropWhile_cons, if_neg (by simpa using HB.out), ← HY.out]; exact HC.out, rfl⟩
    · have hm0 : m = 0 := by omega
      subst hm0
      have hys : ys = [] := List.eq_nil_of_length_eq_zero (C_len HC.out)
      have HY := Aside0.mk hys
      clear hys
      go_wp2
      go_ret
      exact ⟨none, 0, 0, rfl, Nat.le_refl _, by rw [HE.out, HY.out]; exact Kd.C_nil _ _, rfl⟩
/-- A set of bytes in memory. -/
def Sets (w : World) (b : Nat) (p : Int → Bool) : Prop := ∀ x : Int, 0 ≤ x → x < 256 → w.cell? ⟨b, x.toNat, none⟩ = some (.bool (p x))
def Bytes (xs : List Int) : Prop := ∀ x ∈ xs, 0 ≤ x ∧ x < 256
set_option maxHeartbeats 1000000 in
theorem leftSet_calls (A : Option Addr) (n c b : Nat) (xs : List Int) (p : Int → Bool) (w : World) (hr : Kd.C (Kd.int .u8) w A n xs) (hc : n ≤ c) (hx : Bytes xs) (hs : Sets w b p) :
    Calls Tryd.prog 59 #[.slice A n c, .pointer (some ⟨b, 0, none⟩)] w (Trimmed w (xs.dropWhile p)) := by
  obtain ⟨i0, hi, hz0, hz1, hz2⟩ := info_parts byteInfo
  have hn : n ≤ 9223372036854775807 := hr.2.1
  have HR := Aside0.mk hr
  have HI := Aside0.mk hi
  have HX := Aside0.mk hx
  have HS := Aside0.mk hs
  clear hr hi hx hs
  go_enter Tryd.func59, Tryd.ntmps59
  go_wp2
  go_loop [0] (fun v => ∃ (A1 : Option Addr) (m c1 : Nat) (ys : List Int), v = .slice A1 m c1 ∧ m ≤ c1 ∧ m ≤ n ∧ Aside0 (Kd.C (Kd.int .u8) w A1 m ys) ∧ Aside0 (xs.dropWhile p = ys.dropWhile p) ∧ Aside0 (Bytes ys)) (fun v => match v with | .slice _ k _ => k | _ => 0)
  case atStart => exact ⟨A, n, c, xs, rfl, hc, Nat.le_refl _, HR, ⟨rfl⟩, HX⟩
  case round =>
    obtain ⟨A1, m, c1, ys, rfl, hm, hmn, HC, HE, HX1⟩ := hrel
    by_cases h0 : 0 < m
    · obtain ⟨ad, hA, hcell⟩ := Kd.at_int HC.out 0 (by omega) (by omega)
      subst hA
      replace hcell : w.cell? ad = some (.int .u8 (rd ys 0)) := by simpa [Addr.add] using hcell
      have hsl := slice1 (P := Tryd.prog) 22 5 .i64 Tryd.underlying22 HI.out hz1 (some ad) m c1 h0
      have hys : ys = rd ys 0 :: ys.tail := by
        have := C_len HC.out
        cases ys with
        | nil => simp at this; omega
        | cons y r => rfl
      have hcut := C_cut1 (c := c1) HC.out h0 hm
      have hyb : 0 ≤ rd ys 0 ∧ rd ys 0 < 256 := HX1.out _ (by rw [hys]; exact List.mem_cons_self)
      have HT := Aside0.mk (show Bytes ys.tail from fun x hx => HX1.out x (List.mem_of_mem_tail hx))
      have HY := Aside0.mk hys
      have HK := Aside0.mk hcut
      clear hys hcut
      generalize (if c1 = 1 then some ad else Option.map (fun x => x.add 1) (some ad)) = A2 at hsl HK
      generalize rd ys 0 = y at hcell HY hyb
      by_cases hb : p y = true
      · have HB := Aside0.mk hb
        clear hb
        go_wp2_with fail
        refine (contains_calls b y (p y) w hyb.1 hyb.2 (HS.out y hyb.1 hyb.2)).mono ?_
        rintro e w' ⟨rfl, rfl⟩
        rw [HB.out]
        go_wp2
        go_round
        case rel => exact ⟨A2, m - 1, c1 - 1, ys.tail, rfl, by omega, by omega, HK, ⟨by rw [HE.out, HY.out, List.dropWhile_cons, if_pos HB.out]; rfl⟩, HT⟩
        case measure => simp; omega
      · have HB := Aside0.mk hb
        have HB2 := Aside0.mk (show p y = false by simpa using hb)
        clear hb
        go_wp2_with fail
        refine (contains_calls b y (p y) w hyb.1 hyb.2 (HS.out y hyb.1 hyb.2)).mono ?_
        rintro e w' ⟨rfl, rfl⟩
        rw [HB2.out]
        go_wp2
        go_ret
        exact ⟨_, m, c1, rfl, hm, by rw [HE.out, HY.out, List.dropWhile_cons, if_neg HB.out, ← HY.out]; exact HC.out, rfl⟩
    · have hm0 : m = 0 := by omega
      subst hm0
      have hys : ys = [] := List.eq_nil_of_length_eq_zero (C_len HC.out)
      have HY := Aside0.mk hys
      clear hys
      go_wp2
      go_ret
      exact ⟨none, 0, 0, rfl, Nat.le_refl _, by rw [HE.out, HY.out]; exact Kd.C_nil _ _, rfl⟩
/-- Without the bytes at the end that are of a set. -/
def trimEnd (p : Int → Bool) (xs : List Int) : List Int := (xs.reverse.dropWhile p).reverse
theorem trimEnd_snoc (p : Int → Bool) (xs : List Int) (y : Int) : trimEnd p (xs ++ [y]) = if p y = true then trimEnd p xs else xs ++ [y] := by
  unfold trimEnd
  rw [List.reverse_append, List.reverse_singleton, List.singleton_append, List.dropWhile_cons]
  split
  · rfl
  · simp
theorem take_snoc_rd (xs : List Int) (m : Nat) (h : 0 < m) (hm : m ≤ xs.length) : xs.take m = xs.take (m - 1) ++ [rd xs ((m - 1 : Nat) : Int)] := by
  obtain ⟨k, rfl⟩ : ∃ k, m = k + 1 := ⟨m - 1, by omega⟩
  have hk : k < xs.length := by omega
  rw [Nat.add_sub_cancel, List.take_add_one, List.getElem?_eq_getElem hk]
  unfold rd
  rw [Int.toNat_natCast, List.getD_eq_getElem?_getD, List.getElem?_eq_getElem hk]
  rfl
set_option maxHeartbeats 1000000 in
theorem rightSet_calls (A : Option Addr) (n c b : Nat) (xs : List Int) (p : Int → Bool) (w : World) (hr : Kd.C (Kd.int .u8) w A n xs) (hc : n ≤ c) (hx : Bytes xs) (hs : Sets w b p) :
    Calls Tryd.prog 67 #[.slice A n c, .pointer (some ⟨b, 0, none⟩)] w fun e w' => e = .returned (.slice A (trimEnd p xs).length c) ∧ w = w' := by
  have hn : n ≤ 9223372036854775807 := hr.2.1
  have hl := C_len hr
  have HR := Aside0.mk hr
  have HX := Aside0.mk hx
  have HS := Aside0.mk hs
  have HL := Aside0.mk hl
  clear hr hx hs hl
  go_enter Tryd.func67, Tryd.ntmps67
  go_wp2
  go_loop [0] (fun v => ∃ m : Nat, v = .slice A m c ∧ m ≤ n ∧ Aside0 (trimEnd p xs = trimEnd p (xs.take m))) (fun v => match v with | .slice _ k _ => k | _ => 0)
  case atStart => exact ⟨n, rfl, Nat.le_refl _, ⟨by rw [List.take_of_length_le (by rw [HL.out]; exact Nat.le_refl _)]⟩⟩
  case round =>
    obtain ⟨m, rfl, hmn, HE⟩ := hrel
    by_cases h0 : 0 < m
    · obtain ⟨ad, hA, hcell⟩ := Kd.at_int HR.out ((m - 1 : Nat) : Int) (by omega) (by omega)
      subst hA
      rw [Int.toNat_natCast] at hcell
      have hsn := take_snoc_rd xs m h0 (by rw [HL.out]; exact hmn)
      have hyb : 0 ≤ rd xs ((m - 1 : Nat) : Int) ∧ rd xs ((m - 1 : Nat) : Int) < 256 := HX.out _ (List.mem_of_mem_take (by rw [hsn]; exact List.mem_append_right _ List.mem_cons_self))
      have HY := Aside0.mk hsn
      clear hsn
      generalize rd xs ((m - 1 : Nat) : Int) = y at hcell HY hyb
      have hm1 : ((m : Int) - 1) = ((m - 1 : Nat) : Int) := by omega
      have HM := Aside0.mk hm1
      clear hm1
      by_cases hb : p y = true
      · have HB := Aside0.mk hb
        clear hb
        go_wp2_with fail
        refine (contains_calls b y (p y) w hyb.1 hyb.2 (HS.out y hyb.1 hyb.2)).mono ?_
        rintro e w' ⟨rfl, rfl⟩
        rw [HB.out]
        go_wp2
        go_round
        case rel => exact ⟨m - 1, by first | rfl | (congr 1; omega), by omega, ⟨by rw [HE.out, HY.out, trimEnd_snoc, if_pos HB.out]⟩⟩
        case measure => simp; omega
      · have HB := Aside0.mk hb
        have HB2 := Aside0.mk (show p y = false by simpa using hb)
        clear hb
        go_wp2_with fail
        refine (contains_calls b y (p y) w hyb.1 hyb.2 (HS.out y hyb.1 hyb.2)).mono ?_
        rintro e w' ⟨rfl, rfl⟩
        rw [HB2.out]
        go_wp2
        go_ret
        have hfin : (trimEnd p xs).length = m := by
          rw [HE.out, HY.out, trimEnd_snoc, if_neg HB.out, ← HY.out, List.length_take, HL.out]
          omega
        exact ⟨by rw [hfin]; rfl, rfl⟩
    · have hm0 : m = 0 := by omega
      subst hm0
      go_wp2
      go_ret
      exact ⟨by rw [HE.out]; rfl, rfl⟩
theorem trimEnd_take (p : Int → Bool) (xs : List Int) : trimEnd p xs = xs.take (trimEnd p xs).length := by
  have h : ∀ n, ∀ xs : List Int, xs.length = n → trimEnd p xs = xs.take (trimEnd p xs).length := by
    intro n
    induction n with
    | zero =>
      intro xs hx
      obtain rfl := List.eq_nil_of_length_eq_zero hx
      rfl
    | succ n ih =>
      intro xs hx
      have hs := take_snoc_rd xs xs.length (by omega) (Nat.le_refl _)
      rw [List.take_of_length_le (Nat.le_refl _)] at hs
      generalize rd xs _ = y at hs
      have hl : (xs.take (xs.length - 1)).length = n := by rw [List.length_take]; omega
      have := ih _ hl
      rw [hs, trimEnd_snoc]
      split
      · conv => lhs; rw [this]
        rw [List.take_append_of_le_length]
        have h2 := congrArg List.length this
        rw [List.length_take] at h2
        omega
      · rw [List.take_of_length_le (Nat.le_refl _)]
  exact h xs.length xs rfl
theorem trimEnd_len (p : Int → Bool) (xs : List Int) : (trimEnd p xs).length ≤ xs.length := by
  rw [trimEnd_take]
  exact Nat.le_trans (List.length_take_le _ _) (by rw [trimEnd_take]; exact List.length_take_le' _ _)
/-- A nought, or a blank. -/
def pad (x : Int) : Bool := decide (x = 0 ∨ x = 32)
theorem setInfo : (Tryd.prog.info? 99).map (fun i => (i.zero, i.size)) = some (some (.agg (Array.replicate 256 (.bool false))), 256) := by kernel_rfl
set_option maxRecDepth 100000 in
theorem set_pad (x : Int) (h0 : 0 ≤ x) (h1 : x < 256) : (Lib.setCells [0, 32])[x.toNat]? = some (.bool (pad x)) := by
  obtain ⟨n, rfl⟩ := Int.eq_ofNat_of_zero_le h0
  have hn : n < 256 := by omega
  have := Lib.setCells_at [0, 32] (UInt8.ofNat n)
  rw [show (UInt8.ofNat n).toNat = n by rw [UInt8.toNat_ofNat']; omega] at this
  rw [Int.toNat_natCast, this]
  congr 2
  have key : ∀ k : Fin 256, ([0, 32] : List UInt8).contains (UInt8.ofNat k.val) = pad (k.val : Int) := by decide +kernel
  exact key ⟨n, hn⟩
set_option maxHeartbeats 2000000 in
set_option maxRecDepth 1000000 in
/-- num.rest: noughts and blanks alone? -/
theorem trim_calls (A : Option Addr) (n c : Nat) (xs : List Int) (w : World) (hr : Kd.C (Kd.int .u8) w A n xs) (hc : n ≤ c) (hx : Bytes xs) :
    Calls Tryd.prog 61 #[.slice A n c, .string ⟨#[0, 32]⟩] w fun e w' => (∃ (A' : Option Addr) (c' : Nat), e = .returned (.slice A' ((trimEnd pad xs).dropWhile pad).length c')) ∧ Below w.heap.size w w' := by
  by_cases h0 : n = 0
  · subst h0
    obtain rfl : xs = [] := List.eq_nil_of_length_eq_zero (C_len hr)
    go_enter Tryd.func61, Tryd.ntmps61
    go_wp2
    go_ret
    exact ⟨⟨none, 0, rfl⟩, Below.refl _ _⟩
  · have hn : n ≤ 9223372036854775807 := hr.2.1
    have hn0 : ((n : Int) == 0) = false := beq_eq_false_iff_ne.2 (by omega)
    have hM := Any.bytes_makeASCIISet { Tryd.laysT6 with } (zero_of_info setInfo).1 (zero_of_info setInfo).2 ⟨#[0, 32]⟩ w (by decide) (by intro j b hb; match j, hb with | 0, hb => (simp at hb; subst hb; decide) | 1, hb => (simp at hb; subst hb; decide) | j + 2, hb => simp at hb)
    change Calls Tryd.prog 58 #[.string ⟨#[0, 32]⟩] w (fun e w' => e = .returned (.tuple #[.agg (Lib.setCells [0, 32]), .bool true]) ∧ w' = w.alloc (.cells (Lib.setCells [0, 32]) 99)) at hM
    have hsz : (Lib.setCells [0, 32]).size = 256 := Lib.setCells_size _
    have hsc : (storeCells ⟨w.heap.size + 1, 0, none⟩ (Lib.setCells [0, 32]).toList 0).run Tryd.prog ((w.alloc (.cells (Lib.setCells [0, 32]) 99)).alloc (.cells (Array.replicate 256 (.bool false)) 99)) = .ok () ((w.alloc (.cells (Lib.setCells [0, 32]) 99)).alloc (.cells (Lib.setCells [0, 32]) 99)) := by
      have := run_storeCells_new (P := Tryd.prog) (w.alloc (.cells (Lib.setCells [0, 32]) 99)) 99 (Array.replicate 256 (.bool false)) (Lib.setCells [0, 32]) (by rw [hsz]; exact (zero_of_info setInfo).2) (by rw [hsz, Array.size_replicate]) (Lib.setCells_one _)
      simpa using this
    have hB2 : Below w.heap.size w ((w.alloc (.cells (Lib.setCells [0, 32]) 99)).alloc (.cells (Lib.setCells [0, 32]) 99)) := ((Below.refl _ _).alloc (Nat.le_refl _) _).alloc (by simp) _
    have hS : Sets ((w.alloc (.cells (Lib.setCells [0, 32]) 99)).alloc (.cells (Lib.setCells [0, 32]) 99)) (w.heap.size + 1) pad := by
      intro x hx0 hx1
      rw [World.cell?_alloc_at _ _ _ _ (by simp), set_pad x hx0 hx1]
    have hC2 := Kd.C_below hr hB2
    generalize hset : Lib.setCells [0, 32] = S at hM hsc hB2 hS hC2 hsz
    clear hset
    have hR := rightSet_calls A n c (w.heap.size + 1) xs pad _ hC2 hc hx hS
    have hlen : (trimEnd pad xs).length ≤ n := by rw [← C_len hr]; exact trimEnd_len pad xs
    have hCt : Kd.C (Kd.int .u8) ((w.alloc (.cells S 99)).alloc (.cells S 99)) A (trimEnd pad xs).length (trimEnd pad xs) := by
      have hl := C_len hC2
      subst hl
      have := Kd.C_take (m := (trimEnd pad xs).length) hC2 hlen
      rw [← trimEnd_take] at this
      exact this
    have hL := leftSet_calls A (trimEnd pad xs).length c (w.heap.size + 1) (trimEnd pad xs) pad _ hCt (by omega) (fun x hx' => hx x (by rw [trimEnd_take] at hx'; exact List.mem_of_mem_take hx')) hS
    generalize (trimEnd pad xs).length = k at hR hL
    have HR := Lib.hid hR
    have HL := Lib.hid hL
    have HB := Lib.hid hB2
    clear hR hL hB2 hS hC2 hCt hlen
    have hzv := (zero_of_info (P := Tryd.prog) setInfo).1
    go_enter Tryd.func61, Tryd.ntmps61
    go_wp2_with (go_at_call 58; refine hM.mono ?_; rintro e w' ⟨rfl, hw⟩; rw [hw])
    clear hM hsc
    refine HR.out.mono ?_
    rintro e w' ⟨rfl, rfl⟩
    go_wp2_with fail
    refine HL.out.mono ?_
    rintro e w' ⟨A', m', c', rfl, hm', hC', rfl⟩
    have hl := C_len hC'
    subst hl
    go_wp2_with fail
    go_ret
    exact ⟨⟨A', c', rfl⟩, HB.out⟩
/-- Are they noughts and blanks alone? -/
def padAll (xs : List Int) : Bool := xs.all pad
theorem dropWhile_head (p : Int → Bool) : ∀ (ys : List Int) (z : Int) (r : List Int), ys.dropWhile p = z :: r → p z = false ∧ z ∈ ys
  | [], z, r, h => by simp at h
  | y :: ys, z, r, h => by
    rw [List.dropWhile_cons] at h
    split at h
    · have := dropWhile_head p ys z r h
      exact ⟨this.1, List.mem_cons_of_mem _ this.2⟩
    · rename_i hy
      injection h with h1 _
      subst h1
      exact ⟨by simpa using hy, List.mem_cons_self⟩
theorem trim_none (xs : List Int) : (((trimEnd pad xs).dropWhile pad).length == 0) = padAll xs := by
  have hall : ∀ ys : List Int, (ys.dropWhile pad = [] ↔ ys.all pad = true) := by
    intro ys
    induction ys with
    | nil => simp
    | cons y r ih =>
      rw [List.dropWhile_cons, List.all_cons]
      by_cases hy : pad y = true
      · rw [if_pos hy, hy, Bool.true_and, ih]
      · rw [if_neg hy]; simp [hy]
  unfold padAll
  rw [Bool.eq_iff_iff, beq_iff_eq, List.length_eq_zero_iff, hall]
  unfold trimEnd
  constructor
  · intro h
    by_cases hr : xs.reverse.dropWhile pad = []
    · have := (hall xs.reverse).1 hr
      rwa [List.all_reverse] at this
    · exfalso
      rw [List.all_reverse] at h
      rw [List.all_eq_true] at h
      cases hd : xs.reverse.dropWhile pad with
      | nil => exact hr hd
      | cons z r =>
        have := dropWhile_head pad _ z r hd
        have h2 := h z (by rw [hd]; exact List.mem_cons_self)
        rw [this.1] at h2
        cases h2
  · intro h
    have : xs.reverse.dropWhile pad = [] := (hall xs.reverse).2 (by rwa [List.all_reverse])
    rw [this]; rfl
theorem rest_calls (A : Option Addr) (n c : Nat) (xs : List Int) (w : World) (hr : Kd.C (Kd.int .u8) w A n xs) (hc : n ≤ c) (hx : Bytes xs) :
    Calls Tryd.prog 55 #[.slice A n c] w fun e w' => e = .returned (.bool (padAll xs)) ∧ Below w.heap.size w w' := by
  have HT := Lib.hid (trim_calls A n c xs w hr hc hx)
  have hp := trim_none xs
  have HP := Lib.hid hp
  clear hr hc hx hp
  generalize ((trimEnd pad xs).dropWhile pad).length = k at HT HP
  go_enter Tryd.func55, Tryd.ntmps55
  go_wp2_with fail
  refine HT.out.mono ?_
  rintro e w' ⟨⟨A', c', rfl⟩, hb⟩
  clear HT
  go_wp2_with fail
  go_ret
  refine ⟨?_, hb⟩
  rw [← HP.out]
  show Ending.returned (.bool ((k : Int) == 0)) = _
  congr 2
  rw [Bool.eq_iff_iff]
  simp
set_option maxRecDepth 100000 in
/-- bytes.TrimLeft of blanks. -/
theorem trimLeft_calls (A : Option Addr) (n c : Nat) (xs : List Int) (w : World) (hr : Kd.C (Kd.int .u8) w A n xs) (hc : n ≤ c) :
    Calls Tryd.prog 53 #[.slice A n c, .string ⟨#[32]⟩] w (Trimmed w (xs.dropWhile (fun x => decide (x = 32)))) := by
  by_cases h0 : n = 0
  · subst h0
    obtain rfl : xs = [] := List.eq_nil_of_length_eq_zero (C_len hr)
    go_enter Tryd.func53, Tryd.ntmps53
    go_wp2
    go_ret
    exact ⟨none, 0, 0, rfl, Nat.le_refl _, Kd.C_nil _ _, rfl⟩
  · have hn : n ≤ 9223372036854775807 := hr.2.1
    have hn0 : ((n : Int) == 0) = false := beq_eq_false_iff_ne.2 (by omega)
    have HL := Lib.hid (leftByte_calls A n c xs 32 w hr hc)
    clear hr hc
    go_enter Tryd.func53, Tryd.ntmps53
    go_wp2_with fail
    refine HL.out.mono ?_
    rintro e w' ⟨A', m', c', rfl, hm', hC', rfl⟩
    go_wp2_with fail
    go_ret
    exact ⟨A', m', c', rfl, hm', hC', rfl⟩
/-- The digits of an octal field, and what may stand behind them. -/
def octAt (n : Int) : List Int → Int × Int
  | [] => (n, 0)
  | x :: r => if 48 ≤ x ∧ x ≤ 55 then (if 1152921504606846975 < n then (0, 5) else octAt (n * 8 + (x - 48)) r) else if padAll (x :: r) = true then (n, 0) else (0, 5)
theorem drop_rd (ys : List Int) (i : Nat) (h : i < ys.length) : ys.drop i = rd ys (i : Int) :: ys.drop (i + 1) := by
  rw [List.drop_eq_getElem_cons h]
  congr 1
  unfold rd
  rw [Int.toNat_natCast, List.getD_eq_getElem?_getD, List.getElem?_eq_getElem h]
  rfl
theorem bits_digit (k : Nat) (y : Int) (hk : (k : Int) ≤ 1152921504606846975) (h0 : 48 ≤ y) (h1 : y ≤ 55) : bits BinOp.or IntKind.u64 ((k : Int) * 8) (y - 48) = ((k * 8 + (y - 48).toNat : Nat) : Int) := by
  obtain ⟨d, hd⟩ := Int.eq_ofNat_of_zero_le (show 0 ≤ y - 48 by omega)
  rw [hd, show (k : Int) * 8 = ((8 * k : Nat) : Int) by omega, Go.u64_or_nat _ _ (by omega) (by omega), ← Nat.two_pow_add_eq_or_of_lt (show d < 2 ^ 3 by omega) k, Int.toNat_natCast]
  omega
set_option maxHeartbeats 4000000 in
set_option maxRecDepth 100000 in
theorem octal_calls (A : Option Addr) (n c : Nat) (xs : List Int) (w : World) (hr : Kd.C (Kd.int .u8) w A n xs) (hc : n ≤ c) (hx : Bytes xs) :
    Calls Tryd.prog 51 #[.slice A n c] w fun e w' => e = .returned (.tuple #[.int .i64 (octAt 0 (xs.dropWhile (fun x => decide (x = 32)))).1, .int .u8 (octAt 0 (xs.dropWhile (fun x => decide (x = 32)))).2]) ∧ Below w.heap.size w w' := by
  have hn : n ≤ 9223372036854775807 := hr.2.1
  have HT := Lib.hid (trimLeft_calls A n c xs w hr hc)
  have hxs : Bytes (xs.dropWhile (fun x => decide (x = 32))) := fun x hx' => hx x (List.dropWhile_suffix _ |>.mem hx')
  generalize xs.dropWhile (fun x => decide (x = 32)) = ys at HT hxs
  clear hr hx
  have HX := Aside0.mk hxs
  clear hxs
  obtain ⟨i0, hi, hz0, hz1, hz2⟩ := info_parts byteInfo
  have HI := Aside0.mk hi
  clear hi
  go_enter Tryd.func51, Tryd.ntmps51
  go_wp2_with fail
  refine HT.out.mono ?_
  rintro e w' ⟨A1, m, c1, rfl, hm, hC, rfl⟩
  clear HT
  have hm0 : m ≤ 9223372036854775807 := hC.2.1
  have hlen := C_len hC
  have HC := Aside0.mk hC
  have HL := Aside0.mk hlen
  clear hC hlen
  go_wp2_with fail
  go_loop [4, 5] (fun v4 v5 => ∃ k i : Nat, v4 = .int .u64 (k : Int) ∧ v5 = .int .i64 (i : Int) ∧ i ≤ m ∧ k ≤ 9223372036854775807 ∧ Aside0 (octAt 0 ys = octAt (k : Int) (ys.drop i))) (fun v4 v5 => match v5 with | .int _ i => m - i.toNat | _ => 0)
  case atStart => exact ⟨0, 0, rfl, rfl, Nat.zero_le _, by omega, ⟨rfl⟩⟩
  case round =>
    obtain ⟨k, i, rfl, rfl, him, hk, HE⟩ := hrel
    by_cases h0 : i < m
    · obtain ⟨ad, hA, hcell⟩ := Kd.at_int HC.out (i : Int) (by omega) (by omega)
      subst hA
      rw [Int.toNat_natCast] at hcell
      have hd := drop_rd ys i (by rw [HL.out]; exact h0)
      have hyb : 0 ≤ rd ys (i : Int) ∧ rd ys (i : Int) < 256 := HX.out _ (List.mem_of_mem_drop (by rw [hd]; exact List.mem_cons_self))
      have HD := Aside0.mk hd
      clear hd
      generalize rd ys (i : Int) = y at hcell HD hyb
      by_cases hdg : 48 ≤ y ∧ y ≤ 55
      · by_cases hov : 1152921504606846975 < (k : Int)
        · go_wp2_with fail
          refine (digit_calls y w).mono ?_
          rintro e w' ⟨rfl, rfl⟩
          rw [decide_eq_true hdg]
          go_wp2_with fail
          go_ret2
          refine ⟨?_, Below.refl _ _⟩
          rw [HE.out, HD.out]
          unfold octAt
          rw [if_pos hdg, if_pos hov]
          rfl
        · go_wp2_with fail
          refine (digit_calls y w).mono ?_
          rintro e w' ⟨rfl, rfl⟩
          rw [decide_eq_true hdg]
          go_wp2_with fail
          have hov : (k : Int) ≤ 1152921504606846975 := by omega
          refine ⟨⟨k * 8 + (y - 48).toNat, i + 1, by rw [bits_digit k y hov hdg.1 hdg.2], rfl, by omega, by omega, ⟨?_⟩⟩, by simp; omega⟩
          rw [HE.out, HD.out]
          conv => lhs; unfold octAt
          rw [if_pos hdg, if_neg (by omega)]
          congr 1
          omega
      · have hdf : decide (48 ≤ y ∧ y ≤ 55) = false := decide_eq_false hdg
        have hsl := cut_from (P := Tryd.prog) 22 5 .i64 Tryd.underlying22 HI.out 1 hz1 (some ad) m c1 (i : Int) (by omega) (by omega)
        have hC2 := Kd.C_drop (m := i) (c := c1) (by have := HC.out; rw [← HL.out] at this; exact this) (by rw [HL.out]; omega) (by rw [HL.out]; exact hm)
        rw [List.length_drop, HL.out] at hC2
        simp only [Int.toNat_natCast] at hsl
        rw [show i * (Kd.int IntKind.u8).sz = i * 1 from rfl] at hC2
        generalize (if c1 = i then some ad else Option.map (fun x => x.add (i * 1)) (some ad)) = A2 at hsl hC2
        have HR := Lib.hid (rest_calls A2 (m - i) (c1 - i) (ys.drop i) w hC2 (by omega) (fun x hx => HX.out x (List.mem_of_mem_drop hx)))
        clear hC2
        have HDF := Aside0.mk hdf
        have HDG := Aside0.mk hdg
        clear hdf hdg
        by_cases hp : padAll (ys.drop i) = true
        · go_wp2_with fail
          refine (digit_calls y w).mono ?_
          rintro e w' ⟨rfl, rfl⟩
          rw [HDF.out]
          go_wp2_with fail
          refine HR.out.mono ?_
          rintro e w' ⟨rfl, hb⟩
          rw [hp]
          go_wp2_with fail
          go_ret2
          refine ⟨?_, hb⟩
          rw [HE.out, HD.out]
          unfold octAt
          rw [if_neg HDG.out, ← HD.out, if_pos hp]
          rfl
        · have hp : padAll (ys.drop i) = false := by simpa using hp
          go_wp2_with fail
          refine (digit_calls y w).mono ?_
          rintro e w' ⟨rfl, rfl⟩
          rw [HDF.out]
          go_wp2_with fail
          refine HR.out.mono ?_
          rintro e w' ⟨rfl, hb⟩
          rw [hp]
          go_wp2_with fail
          go_ret2
          refine ⟨?_, hb⟩
          rw [HE.out, HD.out]
          unfold octAt
          rw [if_neg HDG.out, ← HD.out, if_neg (by rw [hp]; exact Bool.false_ne_true)]
          rfl
    · obtain rfl : i = m := by omega
      have hsl := cut_from (P := Tryd.prog) 22 5 .i64 Tryd.underlying22 HI.out 1 hz1 A1 i c1 (i : Int) (by omega) (by omega)
      simp only [Int.toNat_natCast, Nat.sub_self] at hsl
      generalize (if c1 = i then A1 else Option.map (fun x => x.add (i * 1)) A1) = A2 at hsl
      have hnil : ys.drop i = [] := by rw [← HL.out]; exact List.drop_length
      have HR := Lib.hid (rest_calls A2 0 (c1 - i) [] w ⟨rfl, Nat.zero_le _, fun h => absurd h (Nat.lt_irrefl 0)⟩ (by omega) (fun x hx => absurd hx List.not_mem_nil))
      have HN := Aside0.mk hnil
      clear hnil
      go_wp2_with fail
      refine HR.out.mono ?_
      rintro e w' ⟨rfl, hb⟩
      rw [show padAll [] = true from rfl]
      go_wp2_with fail
      go_ret2
      refine ⟨?_, hb⟩
      rw [HE.out, HN.out]
      rfl
end Go.Proofs.YtkcgioggnbnfkaaDoor.Hand
