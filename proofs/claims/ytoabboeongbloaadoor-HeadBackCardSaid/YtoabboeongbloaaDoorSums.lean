/- sum.Sum, Check and Seal: their contracts over the document's words; conditions stand with each. -/
import Derived.Test.YtoabboeongbloaaDoorSumP
import Derived.WalkLawsBesides
import Derived.Deep.RegionWith
import Derived.Deep.RegionLaw
set_option linter.unusedVariables false
set_option linter.unusedSimpArgs false
namespace Go.Proofs.YtoabboeongbloaaDoor.Sums
open Go.RowKit Go.Proofs.YtoabboeongbloaaDoor.PHeadGets Go.Proofs.YtoabboeongbloaaDoorW.PrintWords Go.Proofs.YtoabboeongbloaaDoorW.PrintLast Go.Proofs.YtoabboeongbloaaDoorW.PrintMore Go.Proofs.YtoabboeongbloaaDoor.Fmt Go.Proofs.YtoabboeongbloaaDoor.SumP Go.Proofs.YtoabboeongbloaaDoorW.Mv Go.Proofs.YtoabboeongbloaaDoorW.HKit
section
variable {Pr : Program} {ops : Array Oper} {o : Oper} {a : Act} {Q : Exit → Act → World → Prop} {K : Act → World → Prop}
theorem cells_str (ys : List Int) (hy : ∀ y ∈ ys, 0 ≤ y ∧ y ≤ 255) : (strOfNums ys).data.toList.map (fun b : UInt8 => Value.int .u8 (b.toNat : Int)) = nums .u8 ys := by
  rw [strOfNums_data, List.map_map]
  unfold nums
  refine List.map_congr_left fun y h => ?_
  have := hy y h
  simp only [Function.comp]
  congr 1
  rw [UInt8.toNat_ofNat']
  omega
/-- copy(dst, s), dst a cut of a row of the call's own, s just as long: as one step of a region that draws. -/
theorem step_copy_own {W : World} {E : Prop} (base : Nat) (hgd : o.guard = none) (d x : Operand) (t st e : TypeId)
    (ho : o.op = .call { callee := .builtin .copy, args := #[d, x], argTypes := #[t, st] }) (ht : Pr.underlying t = some (.slice e)) (hinfo : (Pr.info? e).map (·.size) = some 1)
    (g n cap off m c' : Nat) (xs ys : List Int) (hy : ∀ y ∈ ys, 0 ≤ y ∧ y ≤ 255) (hm : ys.length = m) (hoff : off + m ≤ n) (hd : a.eval d = .slice (some ⟨g, off, none⟩) m c') (hx : a.eval x = .string (strOfNums ys))
    (HO : W.ownsRow base e 1 (.slice (some ⟨g, 0, none⟩) n cap) n (nums .u8 xs))
    (h : ∀ w1, w1.ownsRow base e 1 (.slice (some ⟨g, 0, none⟩) n cap) n (nums .u8 (xs.take off ++ (ys ++ xs.drop (off + m)))) → Below base W w1 → W.heap.size ≤ w1.heap.size → K (a.put o.dst (goInt m)) w1) :
    if Region.wanted o (yielded ops a.tmps) = true then Oper.wp Pr o a W K Q else E := by
  have hw : Region.wanted o (yielded ops a.tmps) = true := by simp [Region.wanted, hgd]
  rw [if_pos hw]
  obtain ⟨hl, hr⟩ := HO
  rcases hr with ⟨h0, _⟩ | ⟨g', cap', cur, hv, hg, hh, hnc, hcm, hcs, htk⟩
  · cases h0
  injection hv with hv1 _ hv2
  injection hv1 with hv1
  injection hv1 with hv1
  subst hv1 hv2
  rw [Nat.mul_one] at hcs hl htk
  have hxs : xs.length = n := by simpa [nums] using hl
  have hlen : (nums .u8 ys).length = m := by simp [nums, hm]
  have hst := run_storeCells_at (P := Pr) g off e (nums .u8 ys) 0 cur W hh (by rw [hlen]; omega) (by intro v hv; simp only [nums, List.mem_map] at hv; obtain ⟨q, _, rfl⟩ := hv; rfl)
  rw [hlen] at hst
  simp only [Nat.add_zero] at hst
  have hrun : (Builtin.copy_ #[t, st] o.type #[.slice (some ⟨g, off, none⟩) m c', .string (strOfNums ys)]).run Pr W = .ok (goInt m) (W.setRow g (cur.toList.take off ++ nums .u8 ys ++ cur.toList.drop (off + m)).toArray) := by
    have hsz : (strOfNums ys).size = m := by rw [strOfNums_size, hm]
    have hdl : (strOfNums ys).data.toList.length = m := by rw [strOfNums_data, List.length_map, hm]
    cases hq : Pr.info? e with
    | none => simp [hq] at hinfo
    | some i =>
      have hmin : Nat.min m m = m := Nat.min_self m
      have htk2 : List.take m ((strOfNums ys).data.toList.map (fun b : UInt8 => Value.int .u8 (b.toNat : Int))) = nums .u8 ys := by
        rw [cells_str ys hy, List.take_of_length_le (by omega)]
      simp [Builtin.copy_, run_underlying ht, Builtin.lenOf, Builtin.firstCells, sizeOf, typeInfo, hq, hsz]
      rw [htk2, hst]
      simp [Result.andThen]
  have hset : (W.setRow g (cur.toList.take off ++ nums .u8 ys ++ cur.toList.drop (off + m)).toArray).heap[g]? = some (.cells (cur.toList.take off ++ nums .u8 ys ++ cur.toList.drop (off + m)).toArray e (0, 0)) := by
    simp [World.setRow, Array.getElem?_modify, hh]
  unfold Oper.wp execOp
  simp only [ho, resolve, invoke, builtin, Sem.run_bind, Sem.run_pure, Result.andThen_ok, List.map_toArray, List.map_cons, List.map_nil, hd, hx, hrun]
  refine h _ ⟨by simp [nums, hm, hxs]; omega, .inr ⟨g, cap, _, rfl, hg, hset, hnc, hcm, by simp [nums, hm]; omega, ?_⟩⟩ ?_ (by simp [World.setRow])
  · rw [Nat.mul_one]
    have e1 : cur.toList.take off ++ nums .u8 ys ++ cur.toList.drop (off + m) = cur.toList.take off ++ (nums .u8 ys ++ cur.toList.drop (off + m)) := by simp
    have hcl : cur.toList.length = cur.size := Array.length_toList
    have h1 : cur.toList.take off = nums .u8 (xs.take off) := by
      have : (cur.toList.take n).take off = (nums .u8 xs).take off := by rw [htk]
      rw [List.take_take, Nat.min_eq_left (by omega)] at this
      rw [this]; simp [nums, List.map_take]
    have h2 : (cur.toList.drop (off + m)).take (n - (off + m)) = nums .u8 (xs.drop (off + m)) := by
      have : (cur.toList.take n).drop (off + m) = (nums .u8 xs).drop (off + m) := by rw [htk]
      rw [List.drop_take] at this
      rw [this]; simp [nums, List.map_drop]
    show List.take n (cur.toList.take off ++ nums .u8 ys ++ cur.toList.drop (off + m)) = _
    rw [List.take_append, List.take_of_length_le (by simp [nums, hm]; omega), nums_append, nums_append, ← h1, ← h2]
    rw [List.append_assoc]
    congr 2
    congr 1
    simp [nums, hm]
    omega
  · refine ⟨rfl, rfl, rfl, by simp [World.setRow], fun q hq => ?_⟩
    have : q ≠ g := by omega
    simp [World.setRow, Array.getElem?_modify, Ne.symm this]
end
theorem tab8_below {w w' : World} (h : Tab8 w) (hb : Below w.heap.size w w') : Tab8 w' := pw_cell_below hb h
set_option maxRecDepth 100000 in
theorem cloneB_any (A : Option Addr) (n c : Nat) (xs : List Int) (w : World) (hr : Kd.C (Kd.int .u8) w A n xs) (hnil : A = none → n = 0 ∧ c = 0) (hlen : n * 1 ≤ 140737488355328) :
    Calls Tryd.prog 49 #[.slice A n c] w fun e w' => ∃ v1, e = .returned v1 ∧ w'.ownsRow w.heap.size 5 1 v1 xs.length (nums .u8 xs) ∧ Below w.heap.size w w' := by
  have hn : xs.length = n := C_len hr
  rcases A with _ | ad
  · obtain ⟨rfl, rfl⟩ := hnil rfl
    obtain rfl : xs = [] := List.eq_nil_of_length_eq_zero hn
    have heq : ∀ W : World, (binOp .eql 25 (.slice none 0 0) (.slice none 0 0)).run Tryd.prog W = .ok (.bool true) W := fun W => Lib.run_eql_slice_nil W 25 5 none 0 0 0 0 Tryd.underlying25
    clear hr hnil hn
    go_enter Tryd.func49, Tryd.ntmps49
    go_wp2_with fail
    go_ret
    exact ⟨_, rfl, ⟨rfl, .inl ⟨rfl, rfl⟩⟩, Below.refl _ _⟩
  · have hrd : ReadsInt w .u8 (some ad) n xs := Kd.reads_of_C (enc := Value.int .u8) (d := (0 : Int)) (h1 := fun _ => rfl) hr
    have HR := Aside0.mk hrd
    clear hr hrd hnil
    have heq : ∀ W : World, (binOp .eql 25 (.slice (some ad) n c) (.slice none 0 0)).run Tryd.prog W = .ok (.bool false) W := fun W => Lib.run_eql_slice_nil W 25 5 (some ad) n c 0 0 Tryd.underlying25
    have how : (w.alloc (.cells #[] 5)).ownsRow w.heap.size 5 1 (.slice (some ⟨w.heap.size, 0, none⟩) 0 0) ([] : List Int).length (nums .u8 []) := ⟨rfl, .inr ⟨w.heap.size, 0, #[], rfl, Nat.le_refl _, heap_alloc_new w _, Nat.le_refl _, Nat.zero_le _, rfl, rfl⟩⟩
    have hba : Below w.heap.size w (w.alloc (.cells #[] 5)) := (Below.refl _ _).alloc (Nat.le_refl _) _
    have HO := Aside0.mk how
    have HB := Aside0.mk hba
    clear how hba
    go_enter Tryd.func49, Tryd.ntmps49
    go_wp2_with (at_builtin; refine print_append_row (w0 := w) (W := w.alloc (.cells #[] 5)) w.heap.size rfl (.tmp 5) (.tmp 6) 25 5 .u8 1 rfl Tryd.underlying25 byteInfo (by decide) (.slice (some ⟨w.heap.size, 0, none⟩) 0 0) [] xs (some ad) n c rfl rfl HO.out (ReadsInt.below HR.out HB.out) HB.out (by simp) (by simp; omega) (fun v1 w1 h1 hb _ _ => ?_))
    go_ret
    exact ⟨_, rfl, by simpa using h1, hb⟩

/-- What Sum tells. -/
def sumOf (l : List Int) : Int × Int × Int := if l.length = 512 then (plain l, signed l, 0) else (0, 0, 2)
theorem sum_is (A : Option Addr) (c : Nat) (l : List Int) (w : World) (hb : Bytes l) (hr : Kd.C (Kd.int .u8) w A l.length l) (hc : l.length ≤ c) :
    Calls Tryd.prog 47 #[.slice A l.length c] w fun e w' => e = .returned (.tuple #[.int .i64 (sumOf l).1, .int .i64 (sumOf l).2.1, .int .u8 (sumOf l).2.2]) ∧ Drawn0 w w' := by
  unfold sumOf
  by_cases hl : l.length = 512
  · rw [if_pos hl]
    exact sum_Sum.calls 600 A c l _ _ _ w hr hc (sum_f hb hl)
  · rw [if_neg hl]
    exact sum_Sum.calls 600 A c l _ _ _ w hr hc (sum_no hl)
theorem rep_is (c : Nat) (w : World) (hc : c ≤ 100) : Calls Tryd.prog 50 #[.string ⟨#[48]⟩, .int .i64 (c : Int)] w fun e w' => e = .returned (.string (strOfNums (List.replicate c 48))) ∧ Below w.heap.size w w' := by
  rcases (by omega : c = 0 ∨ c = 1 ∨ 2 ≤ c) with rfl | rfl | h
  · refine (Tryd.strings_Repeat_zero ⟨#[48]⟩ w).mono ?_
    rintro e w' ⟨rfl, rfl⟩
    exact ⟨rfl, Below.refl _ _⟩
  · refine (Tryd.strings_Repeat_one ⟨#[48]⟩ w).mono ?_
    rintro e w' ⟨rfl, rfl⟩
    exact ⟨rfl, Below.refl _ _⟩
  · refine (Tryd.strings_Repeat_main ⟨#[48]⟩ c w h (by omega) (by show 1 * c ≤ _; omega) (by decide)).mono ?_
    rintro e w' ⟨rfl, hb⟩
    refine ⟨?_, hb⟩
    have : (⟨(Lib.repeatL (⟨#[48]⟩ : ByteArray).data.toList c).toArray⟩ : ByteArray) = strOfNums (List.replicate c 48) := by
      unfold strOfNums
      have hr : ∀ c : Nat, Lib.repeatL (⟨#[48]⟩ : ByteArray).data.toList c = List.replicate c 48 := fun c => by
        induction c with
        | zero => rfl
        | succ c ih => rw [Lib.repeatL, ih]; rfl
      rw [hr]
      simp
    rw [this]
set_option maxHeartbeats 2000000 in
set_option maxRecDepth 100000 in
theorem seal_yes (A : Option Addr) (c : Nat) (l : List Int) (w : World) (hb : Bytes l) (hl : l.length = 512) (hr : Kd.C (Kd.int .u8) w A l.length l) (hc : l.length ≤ c) (hn : A = none → l.length = 0 ∧ c = 0) (hT : Tab8 w) :
    Calls Tryd.prog 27 #[.slice A l.length c] w fun e w' => ∃ v1, e = .returned (.tuple #[v1, .int .u8 0]) ∧ w'.ownsRow w.heap.size 5 1 v1 (sealOf l).length (nums .u8 (sealOf l)) ∧ Below w.heap.size w w' := by
  have hs := sum_is A c l w hb hr hc
  unfold sumOf at hs
  rw [if_pos hl] at hs
  have hp := plain_bd hb hl
  obtain ⟨n, hnp⟩ := Int.eq_ofNat_of_zero_le hp.1
  rw [hnp] at hs
  have HS := Lib.hid hs
  have HR := Aside0.mk hr
  have HT := Aside0.mk hT
  have hn5 : n ≤ 130560 := by omega
  have HNP := Aside0.mk hnp
  have HL := Aside0.mk hl
  have HN := Aside0.mk hn
  have hll : l.length ≤ 1000 := by omega
  clear hs hr hT hnp hl hp hn
  go_enter Tryd.func27, Tryd.ntmps27
  go_wp2_with fail
  refine HS.out.mono ?_
  rintro e w1 ⟨rfl, hd⟩
  have HB1 := Aside0.mk hd.below
  clear hd HS
  go_wp2_with fail
  refine (fmt_8 n (by omega) w1 (tab8_below HT.out HB1.out)).mono ?_
  rintro e w2 ⟨rfl, hb2⟩
  have HB2 := Aside0.mk (below_step HB1.out hb2)
  clear hb2
  go_wp2_with fail
  refine (cloneB_any A l.length c l w2 (Kd.C_below HR.out HB2.out) HN.out (by omega)).mono ?_
  rintro e w3 ⟨v3, rfl, ho3, hb3⟩
  obtain ⟨A3, c3, rfl, hc3, hC3, hq3, hn3, _⟩ := own_C ho3 rfl
  obtain ⟨hol, hocase⟩ := id ho3
  obtain ⟨g3, hg3⟩ : ∃ g3, A3 = some ⟨g3, 0, none⟩ := by
    rcases hocase with ⟨e0, e1⟩ | ⟨g, cap, cur, e0, _⟩
    · have := HL.out; omega
    · injection e0 with e0
      exact ⟨g, e0⟩
  subst hg3
  have hL5 := HL.out
  have HO3 := Aside0.mk ho3
  have HB3 := Aside0.mk hb3
  have hoct := octL_pad 5 n (by omega)
  have hL512 : 512 ≤ c3 := by omega
  have hl512 : 512 ≤ l.length := by omega
  clear ho3 hb3 hol hocase hC3 hq3 hn3 hL5
  obtain ⟨hlo, hpad⟩ := hoct
  obtain ⟨ys, hys⟩ : ∃ ys : List Int, ys = od n 6 ++ [0, 32] := ⟨_, rfl⟩
  have hyb : ∀ y ∈ ys, 0 ≤ y ∧ y ≤ 255 := by
    intro y hy
    rw [hys] at hy
    simp only [List.mem_append, List.mem_cons, List.not_mem_nil, or_false] at hy
    rcases hy with hy | rfl | rfl
    · have := od_bytes 6 n y hy; omega
    · omega
    · omega
  have hyl : ys.length = 8 := by rw [hys]; simp [od_len]
  have hRep := fun W => rep_is (6 - (octL n).length) W (by omega)
  have hszD : (strOfNums (octL n)).size = (octL n).length := strOfNums_size _
  have hcat1 : strOfNums (List.replicate (6 - (octL n).length) 48) ++ strOfNums (octL n) = strOfNums (od n 6) := by
    rw [← hpad]; apply ByteArray.ext; apply Array.ext'; simp [strOfNums_data]
  have hcat2 : strOfNums (od n 6) ++ (⟨#[0, 32]⟩ : ByteArray) = strOfNums ys := by
    rw [hys]; apply ByteArray.ext; apply Array.ext'; simp [strOfNums_data]
  have hadd1 : ∀ W : World, (Op.stringOp .add (strOfNums (List.replicate (6 - (octL n).length) 48)) (strOfNums (octL n))).run Tryd.prog W = .ok (.string (strOfNums (od n 6))) W := fun W => by
    exact (run_string_add_sum W _ _ (by rw [strOfNums_size, strOfNums_size, List.length_replicate]; omega)).trans (by rw [hcat1])
  have hadd2 : ∀ W : World, (Op.stringOp .add (strOfNums (od n 6)) ⟨#[0, 32]⟩).run Tryd.prog W = .ok (.string (strOfNums ys)) W := fun W => by
    exact (run_string_add_sum W _ _ (by rw [strOfNums_size, od_len]; decide)).trans (by rw [hcat2])
  have hwr : IntKind.i64.wrap (6 - ((octL n).length : Int)) = ((6 - (octL n).length : Nat) : Int) := by
    rw [i64_w, IntWalk.wrap64_in _ ⟨by omega, by omega⟩]; omega
  have h156 : (156 : Int) ≤ (c3 : Int) := by omega
  have h148 : ¬ c3 = 148 := by omega
  have HYs := Aside0.mk hys
  have HYb := Aside0.mk hyb
  have HRep := Aside0.mk hRep
  clear hpad hys hyb hRep hcat1 hcat2
  generalize hlen : (octL n).length = lo at hszD hadd1 hwr HRep hlo
  generalize strOfNums (octL n) = D at hszD hadd1 ⊢
  generalize strOfNums (List.replicate (6 - lo) 48) = R at hadd1 HRep
  generalize strOfNums (od n 6) = RD at hadd1 hadd2
  clear hlen
  go_wp2_with fail
  go_region_law (first | (refine goes_ Tryd.func50 (by kernel_rfl) rfl #[.string ⟨#[48]⟩, .int .i64 ((6 - lo : Nat) : Int)] (by simp [Region.wanted]) rfl rfl (by simp [Act.eval, Act.put]) ?_; refine (HRep.out _).mono ?_; rintro e w4 ⟨rfl, hb4⟩; have HB4 := Aside0.mk hb4; clear hb4; refine ⟨_, rfl, ?_⟩) | (refine step_copy_own w2.heap.size rfl (.tmp 23) (.tmp 30) 25 9 5 rfl Tryd.underlying25 (by kernel_rfl) g3 l.length c3 148 8 (c3 - 148) l ys HYb.out hyl (by omega) (by simp [Act.eval, Act.put]) (by simp [Act.eval, Act.put]) (pw_own_below (w := w3.drew) HO3.out HB4.out) (fun w5 ho5 hb5 hz5 => ?_); have HO5 := Aside0.mk ho5; have HB5 := Aside0.mk hb5; clear ho5 hb5))
  all_goals
    go_wp2_with fail
    go_ret2
    have hL := HL.out
    have hn := HNP.out
    have e1 : l.take 148 ++ (ys ++ l.drop (148 + 8)) = sealOf l := by
      unfold sealOf
      rw [hn, HYs.out, Int.toNat_natCast]
    have hz := HB2.out.size
    have hb4 : Below w2.heap.size w2 w4 := by
      have h4 : Below w3.heap.size w3 w4 := ⟨HB4.out.os, HB4.out.tape, HB4.out.output, HB4.out.size, HB4.out.block⟩
      exact below_step HB3.out h4
    have hO := HO5.out
    rw [e1] at hO
    refine ⟨_, rfl, own_weaken (by rw [seal_len hL]; rw [hL] at hO ⊢; exact hO) hz, below_step HB2.out (hb4.trans HB5.out)⟩
end Go.Proofs.YtoabboeongbloaaDoor.Sums
