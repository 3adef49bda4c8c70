/- The law HeadBack: its walk: for every header and both ways to write numbers, with the table of math/bits laid, the law comes to true. -/
import Derived.Test.YtoabboeongbloaaDoorBackP
import Derived.Test.YtoabboeongbloaaDoorRawO
set_option linter.unusedVariables false
set_option linter.unusedSimpArgs false
namespace Go.Proofs.YtoabboeongbloaaDoor.BackP
open Go.RowKit Go.Proofs.YtoabboeongbloaaDoorW.PrintWords Go.Proofs.YtoabboeongbloaaDoorW.PrintLast Go.Proofs.YtoabboeongbloaaDoorW.PrintMore Go.Proofs.YtoabboeongbloaaDoorW.Mv Go.Proofs.YtoabboeongbloaaDoorW.HKit Go.Proofs.YtoabboeongbloaaDoorW.But Go.Proofs.YtoabboeongbloaaDoor.HeadA Go.Proofs.YtoabboeongbloaaDoor.PHeadGets Go.Proofs.YtoabboeongbloaaDoor.PN Go.Proofs.YtoabboeongbloaaDoor.Sums Go.Proofs.YtoabboeongbloaaDoor.Maker Go.Proofs.YtoabboeongbloaaDoor.GetW Go.Proofs.YtoabboeongbloaaDoor.HeadN Go.Proofs.YtoabboeongbloaaDoor.Fmt
open SumP (sealOf Bytes)
def numC (r : Raw) : Array Value := #[.int .i64 r.mode, .int .i64 r.uid, .int .i64 r.gid, .int .i64 r.size, .int .i64 r.time, .int .i64 r.major, .int .i64 r.minor]
def fldC : Array Value := #[.int .i64 4, .int .i64 5, .int .i64 6, .int .i64 7, .int .i64 8, .int .i64 11, .int .i64 12]
/-- The state of the walk: the bytes, both lists. -/
def BSt (w W : World) (A : Option Addr) (l : List Int) (P Q : Nat) (r : Raw) : Prop := Below w.heap.size w W ∧ Kd.C (Kd.int .u8) W A l.length l ∧ W.heap[P]? = some (.cells (numC r) 2 (0, 0)) ∧ W.heap[Q]? = some (.cells fldC 3 (0, 0))
def Old (w W : World) : Prop := Below w.heap.size w W
theorem BSt.below {w W W' : World} {A : Option Addr} {l : List Int} {P Q : Nat} {r : Raw} (h : BSt w W A l P Q r) (hb : Below W.heap.size W W') : BSt w W' A l P Q r := by
  obtain ⟨h1, h2, h3, h4⟩ := h
  have hB := But.of_below (fun _ => False) hb
  exact ⟨h1.trans (hb.mono h1.size), Kd.C_below h2 hb, hB.heap h3 (fun h => h), hB.heap h4 (fun h => h)⟩
theorem seven_cells {W : World} {k : Nat} {a b c d e f g : Value} {t : TypeId} (h : W.heap[k]? = some (.cells #[a, b, c, d, e, f, g] t (0, 0))) : W.cell? ⟨k, 0, none⟩ = some a ∧ W.cell? ⟨k, 1, none⟩ = some b ∧ W.cell? ⟨k, 2, none⟩ = some c ∧ W.cell? ⟨k, 3, none⟩ = some d ∧ W.cell? ⟨k, 4, none⟩ = some e ∧ W.cell? ⟨k, 5, none⟩ = some f ∧ W.cell? ⟨k, 6, none⟩ = some g := by
  refine ⟨?_, ?_, ?_, ?_, ?_, ?_, ?_⟩ <;> simp [World.cell?, h]
theorem BSt.p {w W : World} {A : Option Addr} {l : List Int} {P Q : Nat} {r : Raw} (h : BSt w W A l P Q r) : W.heap[P]? = some (.cells #[.int .i64 r.mode, .int .i64 r.uid, .int .i64 r.gid, .int .i64 r.size, .int .i64 r.time, .int .i64 r.major, .int .i64 r.minor] 2 (0, 0)) := h.2.2.1
theorem BSt.q {w W : World} {A : Option Addr} {l : List Int} {P Q : Nat} {r : Raw} (h : BSt w W A l P Q r) : W.heap[Q]? = some (.cells #[.int .i64 4, .int .i64 5, .int .i64 6, .int .i64 7, .int .i64 8, .int .i64 11, .int .i64 12] 3 (0, 0)) := h.2.2.2
theorem BSt.c {w W : World} {A : Option Addr} {l : List Int} {P Q : Nat} {r : Raw} (h : BSt w W A l P Q r) : Kd.C (Kd.int .u8) W A l.length l := h.2.1
theorem BSt.old {w W : World} {A : Option Addr} {l : List Int} {P Q : Nat} {r : Raw} (h : BSt w W A l P Q r) : Below w.heap.size w W := h.1
def BRel (w : World) (A : Option Addr) (l : List Int) (P Q : Nat) (r : Raw) (n : Nat) (v : Value) (wr : World) : Prop := ∃ (i : Nat) (z : Int), v = .int .i64 z ∧ z = i ∧ n + i = 7 ∧ BSt w wr A l P Q r
/-- head.Number of a field of what was made. -/
theorem number_is (i : Nat) (A : Option Addr) (c : Nat) (l : List Int) (n : Int) (w : World) (hi : i < 7) (hl : l.length = 512) (hr : Kd.C (Kd.int .u8) w A l.length l) (hc : l.length ≤ c) (hn : Ev (fun k => num_Get.f k (HeadA.part l (place i).1 (place i).2)) (n, 0)) (h8 : n < 0 → fldOf i = 8) :
    Calls Tryd.prog 18 #[.slice A l.length c, .int .i64 (fldOf i)] w fun e' w' => e' = .returned (.tuple #[.int .i64 n, .int .u8 0]) ∧ Below w.heap.size w w' := by
  obtain ⟨k, hk⟩ := hn.rounds
  have hf : head_number.f (fldOf i) = some (((place i).1 : Int), ((place i).2 : Int), true) ∧ (place i).1 + (place i).2 ≤ 512 := by
    match i, hi with
    | 0, _ => exact ⟨rfl, by decide⟩
    | 1, _ => exact ⟨rfl, by decide⟩
    | 2, _ => exact ⟨rfl, by decide⟩
    | 3, _ => exact ⟨rfl, by decide⟩
    | 4, _ => exact ⟨rfl, by decide⟩
    | 5, _ => exact ⟨rfl, by decide⟩
    | 6, _ => exact ⟨rfl, by decide⟩
  refine (number_calls k A c l (fldOf i) n 0 (place i).1 (place i).2 w hf.1 hl hf.2 hr hc hk).mono ?_
  rintro e w1 ⟨rfl, hb⟩
  refine ⟨?_, hb⟩
  unfold numV
  rw [if_neg (fun h => h.2.2 (h8 h.2.1))]
set_option maxHeartbeats 8000000 in
set_option maxRecDepth 100000 in
theorem headBack_calls (w : World) (hT : Tab8 w) (r : Raw) (hr : RawIn r) (wide : Bool) :
    Calls Tryd.prog 6 #[.agg (rawC r), .bool wide] w fun e w' => e = .returned (.bool true) ∧ Below w.heap.size w w' := by
  obtain ⟨hfl, hmkb, hnb, hz0, hz1, hz2, hz3, hz4⟩ := hr
  have hb0 := (Below.refl w.heap.size w).alloc (Nat.le_refl _) (.cells (rawC r) 23)
  have hraw : (w.alloc (.cells (rawC r) 23)).heap[w.heap.size]? = some (.cells (rawC r) 23 (0, 0)) := heap_alloc_new w _
  have hal := alive_calls (w.alloc (.cells (rawC r) 23)) (tab8_below hT hb0)
  have HB0 := Lib.hid hb0
  have HRAW := Lib.hid hraw
  obtain ⟨wa, hwa⟩ : ∃ wa, wa = w.alloc (.cells (rawC r) 23) := ⟨_, rfl⟩
  rw [← hwa] at HB0 HRAW hal
  have HAL := Lib.hid hal
  have HT := Lib.hid hT
  have HFL := Lib.hid hfl
  have s1 : wrap64 ((r.name.size : Int) + r.link.size) = r.name.size + r.link.size := by unfold wrap64; omega
  have s2 : wrap64 ((r.name.size : Int) + r.link.size + r.pre.size) = r.name.size + r.link.size + r.pre.size := by unfold wrap64; omega
  have s3 : wrap64 ((r.name.size : Int) + r.link.size + r.pre.size + r.user.size) = r.name.size + r.link.size + r.pre.size + r.user.size := by unfold wrap64; omega
  have s4 : wrap64 ((r.name.size : Int) + r.link.size + r.pre.size + r.user.size + r.group.size) = r.name.size + r.link.size + r.pre.size + r.user.size + r.group.size := by unfold wrap64; omega
  have hback := back_all r wide hfl (fun i => hnb _ (by unfold numAt; split <;> simp))
  have hnone := @make_none r wide true
  clear hb0 hraw hal hT hfl hnb hmkb hz0 hz1 hz2 hz3 hz4
  by_cases h3 : (3000 : Int) < (r.name.size : Int) + r.link.size + r.pre.size + r.user.size + r.group.size
  · have d1 : decide ((3000 : Int) < (r.name.size : Int) + r.link.size + r.pre.size + r.user.size + r.group.size) = true := decide_eq_true h3
    clear h3 hback hnone
    go_enter Tryd.func6, Tryd.ntmps6
    go_upto_region 1 with (fail)
    rw [← hwa]
    clear hwa
    go_wp2_with fail
    (with_reducible refine HAL.out.mono ?_)
    rintro e w1 ⟨rfl, hb1⟩
    have HB1 := Lib.hid (HB0.out.trans (hb1.mono HB0.out.size))
    obtain ⟨r0, r1, r2, r3, r4, r5, r6, r7, r8, r9, r10, r11, r12, r13⟩ := raw_cells ((But.of_below (fun _ => False) hb1).heap HRAW.out (fun h => h))
    clear hb1 HAL HB0 HRAW
    go_wp2_with fail
    go_ret
    exact ⟨rfl, HB1.out⟩
  · have d1 : decide ((3000 : Int) < (r.name.size : Int) + r.link.size + r.pre.size + r.user.size + r.group.size) = false := decide_eq_false h3
    have hmake := fun (W : World) (hW : Below w.heap.size w W) => make_calls r wide true W (tab8_below HT.out hW) HFL.out (by omega) (by omega) (by omega) (by omega) (by omega)
    have hcd : 0 ≤ (makeOf r wide true).2 ∧ (makeOf r wide true).2 ≤ 255 := make_code r wide true
    generalize makeOf r wide true = mo at hmake hback hnone hcd
    obtain ⟨ml, mc⟩ := mo
    dsimp only at hmake hback hnone hcd
    have hw1 : wrap64 mc = mc := by unfold wrap64; omega
    unfold rawC at hmake
    have HMAKE := Lib.hid hmake
    have HBACK := Lib.hid hback
    have HNONE := Lib.hid hnone
    clear h3 hmake hback hnone hcd
    go_enter Tryd.func6, Tryd.ntmps6
    go_upto_region 1 with (fail)
    rw [← hwa]
    clear hwa
    go_wp2_with fail
    (with_reducible refine HAL.out.mono ?_)
    rintro e w1 ⟨rfl, hb1⟩
    have HB1 := Lib.hid (HB0.out.trans (hb1.mono HB0.out.size))
    have HRAW1 := Lib.hid ((But.of_below (fun _ => False) hb1).heap HRAW.out (fun h => h))
    obtain ⟨r0, r1, r2, r3, r4, r5, r6, r7, r8, r9, r10, r11, r12, r13⟩ := raw_cells HRAW1.out
    clear hb1 HAL HB0 HRAW
    go_wp2_with fail
    (with_reducible refine (HMAKE.out _ HB1.out).mono ?_)
    rintro e w2 ⟨v2, rfl, ho2, hb2⟩
    obtain ⟨A2, c2, rfl, hc2, hC2, _⟩ := own_C ho2 rfl
    have HB2 := Lib.hid (HB1.out.trans (hb2.mono HB1.out.size))
    have HRAW2 := Lib.hid ((But.of_below (fun _ => False) hb2).heap HRAW1.out (fun h => h))
    have HC2 := Lib.hid hC2
    clear r0 r1 r2 r3 r4 r5 r6 r7 r8 r9 r10 r11 r12 r13 hb2 ho2 hC2 HB1 HRAW1 HMAKE
    by_cases h0 : mc = 0
    · subst h0
      obtain ⟨hmk, hget, hnums, hlen, hbyt⟩ := HBACK.out rfl
      have hgc := get_calls A2 c2 ml w2 hbyt HC2.out hc2
      rw [hget] at hgc
      unfold backRaw rw0 rawC at hgc
      dsimp only at hgc
      obtain ⟨la, hla⟩ : ∃ la : Bool, la = (r.mark != 0) := ⟨_, rfl⟩
      obtain ⟨po, hpo⟩ : ∃ po : Bool, po = (r.mark == 1) := ⟨_, rfl⟩
      obtain ⟨xp, hxp⟩ : ∃ xp : ByteArray, xp = (if r.mark = 1 then r.pre else ⟨#[]⟩) := ⟨_, rfl⟩
      obtain ⟨xu, hxu⟩ : ∃ xu : ByteArray, xu = (if r.mark = 0 then ⟨#[]⟩ else r.user) := ⟨_, rfl⟩
      obtain ⟨xg, hxg⟩ : ∃ xg : ByteArray, xg = (if r.mark = 0 then ⟨#[]⟩ else r.group) := ⟨_, rfl⟩
      rw [← hxp, ← hxu, ← hxg] at hgc
      have HX : Hid ((la = true → xu = r.user ∧ xg = r.group) ∧ (la = false → xu = ⟨#[]⟩ ∧ xg = ⟨#[]⟩ ∧ xp = ⟨#[]⟩) ∧ (po = true → xp = r.pre)) := Lib.hid (by
        refine ⟨fun h => ?_, fun h => ?_, fun h => ?_⟩
        · rw [hla] at h
          have h' : ¬ r.mark = 0 := bne_iff_ne.1 h
          exact ⟨by rw [hxu, if_neg h'], by rw [hxg, if_neg h']⟩
        · rw [hla] at h
          have h' : r.mark = 0 := bne_eq_false_iff_eq.1 h
          exact ⟨by rw [hxu, if_pos h'], by rw [hxg, if_pos h'], by rw [hxp, if_neg (by omega)]⟩
        · rw [hpo] at h
          rw [hxp, if_pos (beq_iff_eq.1 h)])
      have HLA := Lib.hid (show la = true ↔ ¬ r.mark = 0 by rw [hla]; exact bne_iff_ne)
      have dla := hla.symm
      have dpo := hpo.symm
      have HLEN := Lib.hid hlen
      have HNUMS := Lib.hid hnums
      have HGC := Lib.hid hgc
      clear hmk hget hlen hbyt hgc hnums hla hpo hxp hxu hxg HBACK HNONE
      obtain ⟨r0, r1, r2, r3, r4, r5, r6, r7, r8, r9, r10, r11, r12, r13⟩ := raw_cells HRAW2.out
      go_wp2_with fail
      (with_reducible refine HGC.out.mono ?_)
      rintro e w3 ⟨rfl, hb3⟩
      have HB3 := Lib.hid (HB2.out.trans (hb3.mono HB2.out.size))
      have HRAW3 := Lib.hid ((But.of_below (fun _ => False) hb3).heap HRAW2.out (fun h => h))
      have HC3 := Lib.hid (Kd.C_below HC2.out hb3)
      clear r0 r1 r2 r3 r4 r5 r6 r7 r8 r9 r10 r11 r12 r13 hb3 HB2 HRAW2 HC2 HGC
      go_upto_region 9 with (fail)
      obtain ⟨W4, hW4⟩ : ∃ W4, W4 = w3.alloc (.cells #[.int .i64 r.mark, .int .u8 r.flag, .string r.name, .string r.link, .string xp, .string xu, .string xg, .int .i64 0, .int .i64 0, .int .i64 0, .int .i64 0, .int .i64 0, .int .i64 0, .int .i64 0] 23) := ⟨_, rfl⟩
      rw [← hW4]
      have hb4 : Below w3.heap.size w3 W4 := by rw [hW4]; exact (Below.refl _ w3).alloc (Nat.le_refl _) _
      have HB4 := Lib.hid (HB3.out.trans (hb4.mono HB3.out.size))
      have HRAW4 := Lib.hid ((But.of_below (fun _ => False) hb4).heap HRAW3.out (fun h => h))
      have HC4 := Lib.hid (Kd.C_below HC3.out hb4)
      have HX4 := Lib.hid (show W4.heap[w3.heap.size]? = some (.cells (rawC (rw0 r.mark r.flag r.name r.link xp xu xg)) 23 (0, 0)) by rw [hW4]; exact heap_alloc_new w3 _)
      clear hW4 hb4 HB3 HRAW3 HC3
      generalize w3.heap.size = X at *
      have HO4 := Lib.hid (show Old w W4 from HB4.out)
      clear HB4
      generalize w.heap.size = R at *
      obtain ⟨r0, r1, r2, r3, r4, r5, r6, r7, r8, r9, r10, r11, r12, r13⟩ := raw_cells HRAW4.out
      obtain ⟨q0, q1, q2, q3, q4, q5, q6, q7, q8, q9, q10, q11, q12, q13⟩ := raw_cells HX4.out
      dsimp only [rw0] at q0 q1 q2 q3 q4 q5 q6 q7 q8 q9 q10 q11 q12 q13
      go_upto_region 12 with (fail)
      have hadd : ((⟨#[]⟩ : ByteArray) ++ (⟨#[]⟩ : ByteArray)) = ⟨#[]⟩ := rfl
      have hne0 : ((⟨#[]⟩ : ByteArray) != (⟨#[]⟩ : ByteArray)) = false := rfl
      go_cut [129] from 88 to 129 (fun s129 wx => s129 = .bool false ∧ wx = W4)
      case first =>
        cases la <;> cases po
        · obtain ⟨rfl, rfl, rfl⟩ := HX.out.2.1 rfl
          go_wp2_with fail
          go_meet
          exact ⟨rfl, rfl⟩
        · obtain ⟨rfl, rfl, hp⟩ := HX.out.2.1 rfl
          have hq := HX.out.2.2 rfl
          rw [hp] at hq
          rw [← hq] at r4
          subst hp
          clear hq
          go_wp2_with fail
          go_meet
          exact ⟨rfl, rfl⟩
        · obtain ⟨rfl, rfl⟩ := HX.out.1 rfl
          go_wp2_with fail
          go_meet
          exact ⟨rfl, rfl⟩
        · obtain ⟨rfl, rfl⟩ := HX.out.1 rfl
          obtain rfl := HX.out.2.2 rfl
          go_wp2_with fail
          go_meet
          exact ⟨rfl, rfl⟩
      case rest =>
        obtain ⟨rfl, rfl⟩ := hcut
        clear hadd hne0 HX dpo
        go_upto_region 16 with (fail)
        obtain ⟨W5, hW5⟩ : ∃ W5, W5 = ((wc.alloc (.cells #[.int .i64 r.mode, .int .i64 r.uid, .int .i64 r.gid, .int .i64 r.size, .int .i64 r.time, .int .i64 r.major, .int .i64 r.minor] 2)).alloc (.cells #[.int .i64 4, .int .i64 5, .int .i64 6, .int .i64 7, .int .i64 8, .int .i64 11, .int .i64 12] 3)) := ⟨_, rfl⟩
        rw [← hW5]
        obtain ⟨hb5, hp5, hq5⟩ := two_allocs hW5
        have HS0 : Hid (BSt w W5 A2 ml wc.heap.size (wc.heap.size + 1) r) := Lib.hid ⟨Below.trans HO4.out (hb5.mono (Below.size HO4.out)), Kd.C_below HC4.out hb5, hp5, hq5⟩
        clear hb5 hp5 hq5 hW5 HO4 HRAW4 HC4 HX4 r0 r1 r2 r3 r4 r5 r6 r7 r8 r9 r10 r11 r12 r13 q0 q1 q2 q3 q4 q5 q6 q7 q8 q9 q10 q11 q12 q13 HT HFL s1 s2 s3 s4 d1
        generalize wc.heap.size = P at *
        go_wp2_with fail
        go_loopg [12] 7 (fun n v12 wr => BRel w A2 ml P (P + 1) r n v12 wr)
        case atStart => exact ⟨0, 0, rfl, rfl, rfl, HS0.out⟩
        case round =>
          clear HS0
          obtain ⟨i, z, rfl, hz, hni, hst⟩ := hrel
          have HS := Lib.hid hst
          clear hst
          have hi8 : i = 0 ∨ i = 1 ∨ i = 2 ∨ i = 3 ∨ i = 4 ∨ i = 5 ∨ i = 6 ∨ i = 7 := by omega
          rcases hi8 with rfl | rfl | rfl | rfl | rfl | rfl | rfl | rfl
          · obtain rfl : z = 0 := by omega
            clear hz
            obtain ⟨n, hev, h8, heq⟩ := HNUMS.out 0 (by decide)
            have HEQ := Lib.hid heq
            have hcall : ∀ (W : World) (hC : Kd.C (Kd.int .u8) W A2 ml.length ml), Calls Tryd.prog 18 #[.slice A2 ml.length c2, .int .i64 4] W fun e' w' => e' = .returned (.tuple #[.int .i64 n, .int .u8 0]) ∧ Below W.heap.size W w' := fun (W : World) (hC : Kd.C (Kd.int .u8) W A2 ml.length ml) => number_is 0 A2 c2 ml n W (by decide) HLEN.out hC hc2 hev h8
            have HCALL := Lib.hid hcall
            have q0 := (seven_cells HS.out.q).1
            clear hev h8 heq hcall
            go_wp2_with fail
            (with_reducible refine (HCALL.out _ HS.out.c).mono ?_)
            rintro e w6 ⟨rfl, hb6⟩
            have HS6 := Lib.hid (HS.out.below hb6)
            clear q0 HS hb6 HCALL
            have p0 := (seven_cells HS6.out.p).1
            obtain rfl : n = r.mode := HEQ.out (.inl (by decide))
            clear HEQ
            go_wp2_with fail
            go_roundg (gk - 1)
            case rel => exact ⟨1, 1, rfl, rfl, by omega, HS6.out⟩
            case measure => omega
          · obtain rfl : z = 1 := by omega
            clear hz
            obtain ⟨n, hev, h8, heq⟩ := HNUMS.out 1 (by decide)
            have HEQ := Lib.hid heq
            have hcall : ∀ (W : World) (hC : Kd.C (Kd.int .u8) W A2 ml.length ml), Calls Tryd.prog 18 #[.slice A2 ml.length c2, .int .i64 5] W fun e' w' => e' = .returned (.tuple #[.int .i64 n, .int .u8 0]) ∧ Below W.heap.size W w' := fun (W : World) (hC : Kd.C (Kd.int .u8) W A2 ml.length ml) => number_is 1 A2 c2 ml n W (by decide) HLEN.out hC hc2 hev h8
            have HCALL := Lib.hid hcall
            have q1 := (seven_cells HS.out.q).2.1
            clear hev h8 heq hcall
            go_wp2_with fail
            (with_reducible refine (HCALL.out _ HS.out.c).mono ?_)
            rintro e w6 ⟨rfl, hb6⟩
            have HS6 := Lib.hid (HS.out.below hb6)
            clear q1 HS hb6 HCALL
            have p1 := (seven_cells HS6.out.p).2.1
            obtain rfl : n = r.uid := HEQ.out (.inl (by decide))
            clear HEQ
            go_wp2_with fail
            go_roundg (gk - 1)
            case rel => exact ⟨2, 2, rfl, rfl, by omega, HS6.out⟩
            case measure => omega
          · obtain rfl : z = 2 := by omega
            clear hz
            obtain ⟨n, hev, h8, heq⟩ := HNUMS.out 2 (by decide)
            have HEQ := Lib.hid heq
            have hcall : ∀ (W : World) (hC : Kd.C (Kd.int .u8) W A2 ml.length ml), Calls Tryd.prog 18 #[.slice A2 ml.length c2, .int .i64 6] W fun e' w' => e' = .returned (.tuple #[.int .i64 n, .int .u8 0]) ∧ Below W.heap.size W w' := fun (W : World) (hC : Kd.C (Kd.int .u8) W A2 ml.length ml) => number_is 2 A2 c2 ml n W (by decide) HLEN.out hC hc2 hev h8
            have HCALL := Lib.hid hcall
            have q2 := (seven_cells HS.out.q).2.2.1
            clear hev h8 heq hcall
            go_wp2_with fail
            (with_reducible refine (HCALL.out _ HS.out.c).mono ?_)
            rintro e w6 ⟨rfl, hb6⟩
            have HS6 := Lib.hid (HS.out.below hb6)
            clear q2 HS hb6 HCALL
            have p2 := (seven_cells HS6.out.p).2.2.1
            obtain rfl : n = r.gid := HEQ.out (.inl (by decide))
            clear HEQ
            go_wp2_with fail
            go_roundg (gk - 1)
            case rel => exact ⟨3, 3, rfl, rfl, by omega, HS6.out⟩
            case measure => omega
          · obtain rfl : z = 3 := by omega
            clear hz
            obtain ⟨n, hev, h8, heq⟩ := HNUMS.out 3 (by decide)
            have HEQ := Lib.hid heq
            have hcall : ∀ (W : World) (hC : Kd.C (Kd.int .u8) W A2 ml.length ml), Calls Tryd.prog 18 #[.slice A2 ml.length c2, .int .i64 7] W fun e' w' => e' = .returned (.tuple #[.int .i64 n, .int .u8 0]) ∧ Below W.heap.size W w' := fun (W : World) (hC : Kd.C (Kd.int .u8) W A2 ml.length ml) => number_is 3 A2 c2 ml n W (by decide) HLEN.out hC hc2 hev h8
            have HCALL := Lib.hid hcall
            have q3 := (seven_cells HS.out.q).2.2.2.1
            clear hev h8 heq hcall
            go_wp2_with fail
            (with_reducible refine (HCALL.out _ HS.out.c).mono ?_)
            rintro e w6 ⟨rfl, hb6⟩
            have HS6 := Lib.hid (HS.out.below hb6)
            clear q3 HS hb6 HCALL
            have p3 := (seven_cells HS6.out.p).2.2.2.1
            obtain rfl : n = r.size := HEQ.out (.inl (by decide))
            clear HEQ
            go_wp2_with fail
            go_roundg (gk - 1)
            case rel => exact ⟨4, 4, rfl, rfl, by omega, HS6.out⟩
            case measure => omega
          · obtain rfl : z = 4 := by omega
            clear hz
            obtain ⟨n, hev, h8, heq⟩ := HNUMS.out 4 (by decide)
            have HEQ := Lib.hid heq
            have hcall : ∀ (W : World) (hC : Kd.C (Kd.int .u8) W A2 ml.length ml), Calls Tryd.prog 18 #[.slice A2 ml.length c2, .int .i64 8] W fun e' w' => e' = .returned (.tuple #[.int .i64 n, .int .u8 0]) ∧ Below W.heap.size W w' := fun (W : World) (hC : Kd.C (Kd.int .u8) W A2 ml.length ml) => number_is 4 A2 c2 ml n W (by decide) HLEN.out hC hc2 hev h8
            have HCALL := Lib.hid hcall
            have q4 := (seven_cells HS.out.q).2.2.2.2.1
            clear hev h8 heq hcall
            go_wp2_with fail
            (with_reducible refine (HCALL.out _ HS.out.c).mono ?_)
            rintro e w6 ⟨rfl, hb6⟩
            have HS6 := Lib.hid (HS.out.below hb6)
            clear q4 HS hb6 HCALL
            have p4 := (seven_cells HS6.out.p).2.2.2.2.1
            obtain rfl : n = r.time := HEQ.out (.inl (by decide))
            clear HEQ
            go_wp2_with fail
            go_roundg (gk - 1)
            case rel => exact ⟨5, 5, rfl, rfl, by omega, HS6.out⟩
            case measure => omega
          · obtain rfl : z = 5 := by omega
            clear hz
            obtain ⟨n, hev, h8, heq⟩ := HNUMS.out 5 (by decide)
            have HEQ := Lib.hid heq
            have hcall : ∀ (W : World) (hC : Kd.C (Kd.int .u8) W A2 ml.length ml), Calls Tryd.prog 18 #[.slice A2 ml.length c2, .int .i64 11] W fun e' w' => e' = .returned (.tuple #[.int .i64 n, .int .u8 0]) ∧ Below W.heap.size W w' := fun (W : World) (hC : Kd.C (Kd.int .u8) W A2 ml.length ml) => number_is 5 A2 c2 ml n W (by decide) HLEN.out hC hc2 hev h8
            have HCALL := Lib.hid hcall
            have q5 := (seven_cells HS.out.q).2.2.2.2.2.1
            clear hev h8 heq hcall
            go_wp2_with fail
            (with_reducible refine (HCALL.out _ HS.out.c).mono ?_)
            rintro e w6 ⟨rfl, hb6⟩
            have HS6 := Lib.hid (HS.out.below hb6)
            clear q5 HS hb6 HCALL
            have p5 := (seven_cells HS6.out.p).2.2.2.2.2.1
            by_cases hn : n = r.major
            · subst hn
              clear HEQ
              go_wp2_with fail
              go_roundg (gk - 1)
              case rel => exact ⟨6, 6, rfl, rfl, by omega, HS6.out⟩
              case measure => omega
            · have hla : la = false := by
                cases la with
                | false => rfl
                | true => exact absurd (HEQ.out (.inr (HLA.out.1 rfl))) hn
              subst hla
              have dn : (n != r.major) = true := bne_iff_ne.2 hn
              clear HEQ hn
              go_wp2_with fail
              go_roundg (gk - 1)
              case rel => exact ⟨6, 6, rfl, rfl, by omega, HS6.out⟩
              case measure => omega
          · obtain rfl : z = 6 := by omega
            clear hz
            obtain ⟨n, hev, h8, heq⟩ := HNUMS.out 6 (by decide)
            have HEQ := Lib.hid heq
            have hcall : ∀ (W : World) (hC : Kd.C (Kd.int .u8) W A2 ml.length ml), Calls Tryd.prog 18 #[.slice A2 ml.length c2, .int .i64 12] W fun e' w' => e' = .returned (.tuple #[.int .i64 n, .int .u8 0]) ∧ Below W.heap.size W w' := fun (W : World) (hC : Kd.C (Kd.int .u8) W A2 ml.length ml) => number_is 6 A2 c2 ml n W (by decide) HLEN.out hC hc2 hev h8
            have HCALL := Lib.hid hcall
            have q6 := (seven_cells HS.out.q).2.2.2.2.2.2
            clear hev h8 heq hcall
            go_wp2_with fail
            (with_reducible refine (HCALL.out _ HS.out.c).mono ?_)
            rintro e w6 ⟨rfl, hb6⟩
            have HS6 := Lib.hid (HS.out.below hb6)
            clear q6 HS hb6 HCALL
            have p6 := (seven_cells HS6.out.p).2.2.2.2.2.2
            by_cases hn : n = r.minor
            · subst hn
              clear HEQ
              go_wp2_with fail
              go_roundg (gk - 1)
              case rel => exact ⟨7, 7, rfl, rfl, by omega, HS6.out⟩
              case measure => omega
            · have hla : la = false := by
                cases la with
                | false => rfl
                | true => exact absurd (HEQ.out (.inr (HLA.out.1 rfl))) hn
              subst hla
              have dn : (n != r.minor) = true := bne_iff_ne.2 hn
              clear HEQ hn
              go_wp2_with fail
              go_roundg (gk - 1)
              case rel => exact ⟨7, 7, rfl, rfl, by omega, HS6.out⟩
              case measure => omega
          · obtain rfl : z = 7 := by omega
            clear hz
            go_wp2_with fail
            go_ret
            exact ⟨rfl, HS.out.old⟩
    · have d2 : (mc != 0) = true := bne_iff_ne.2 h0
      obtain rfl := HNONE.out h0
      clear h0
      go_wp2_with fail
      go_ret
      exact ⟨rfl, HB2.out⟩
end Go.Proofs.YtoabboeongbloaaDoor.BackP
