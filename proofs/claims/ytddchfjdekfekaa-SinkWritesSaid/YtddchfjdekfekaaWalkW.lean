/- SinkWrites: its walk. -/
import Derived.Test.YtddchfjdekfekaaWriter
import Derived.Test.YtddchfjdekfekaaBls
import Derived.Deep.DeepCutAuto
import Derived.Deep.CutRange
set_option linter.unusedVariables false
set_option linter.unusedSimpArgs false
namespace Go.Proofs.Ytddchfjdekfekaa.Hand
open Go.RowKit Go.Proofs.YtddchfjdekfekaaW.PrintWords Go.Proofs.YtddchfjdekfekaaW.PrintLast Go.Proofs.YtddchfjdekfekaaW.PrintMore Go.Proofs.YtddchfjdekfekaaW.HKit Go.Proofs.YtddchfjdekfekaaW.Mv Go.Proofs.YtddchfjdekfekaaW.Rws Go.Proofs.YtddchfjdekfekaaW.Bls Go.Proofs.Ytddchfjdekfekaa.PSinkWrites
theorem sliceInfo : (Try.prog.info? 27).map (fun i => (i.zero, i.size, i.bytes)) = some (some (.slice none 0 0), 1, 24) := by kernel_rfl
theorem putSt_len (room : Int) (s : List Int × Bool) (ys : List Int) : (putSt room s ys).1.length ≤ s.1.length + ys.length ∧ s.1.length ≤ (putSt room s ys).1.length := by
  unfold putSt
  split
  · omega
  · simp
/-- The pieces of a round: what they read as, while their blocks stand. -/
def MoreOk (w w1 : World) (M : Nat → Prop) (vm : Value) (Ys : List (List Int)) : Prop :=
  ∃ A c, vm = .slice A Ys.length c ∧ (∀ q, M q → q < w1.heap.size) ∧ ∀ W : World, Below w.heap.size w W → (∀ q, M q → W.heap[q]? = w1.heap[q]?) → RowsAt .u8 W A c Ys
theorem more_one {w wr : World} {Ar : Option Addr} {Cr : Nat} {X : List Int} (hrl : X.length ≤ Cr) (hrn : Ar = none → X.length = 0 ∧ Cr = 0) (hrc : Cr ≤ 140737488351232) (hwf : ∀ x ∈ X, (Lit.int .u8 x).wf = true) (HRow : ∀ W : World, Below w.heap.size w W → Kd.C (Kd.int .u8) W Ar X.length X) :
    MoreOk w (wr.alloc (.cells #[.slice Ar X.length Cr] 27)) (fun q => wr.heap.size ≤ q ∧ q < (wr.alloc (.cells #[.slice Ar X.length Cr] 27)).heap.size) (.slice (some ⟨wr.heap.size, 0, none⟩) 1 1) [X] := by
  refine ⟨_, _, rfl, fun q hq => hq.2, fun W hb hM => ?_⟩
  have ho := World.ownsRow_lit (base := wr.heap.size) (e := 27) (size := 1) wr #[.slice Ar X.length Cr] 1 (Nat.le_refl _) (by decide) (by simp)
  have ho2 := own_stays ho (fun q hq => hM q ⟨own_base ho q hq, own_lt ho q hq⟩)
  obtain ⟨A, c, e1, hR⟩ := rows_of_own (k := .u8) (xss := [X]) ho2 (fun r h => by
    obtain rfl : r = 0 := by simpa using h
    exact ⟨Ar, Cr, rfl, hrl, hrn, HRow W hb, hwf, hrc⟩)
  injection e1 with e1 _ e2
  subst e1 e2
  exact hR
theorem more_two {w wr wd w1 : World} {Ar : Option Addr} {Cr r : Nat} {X : List Int} {vm : Value} (hrl : X.length ≤ Cr) (hrn : Ar = none → X.length = 0 ∧ Cr = 0) (hrc : Cr ≤ 140737488351232) (hwf : ∀ x ∈ X, (Lit.int .u8 x).wf = true) (HRow : ∀ W : World, Below w.heap.size w W → Kd.C (Kd.int .u8) W Ar X.length X)
    (hr5 : r < 512) (hd : wr.heap.size < wd.heap.size) (ho : w1.ownsRow wr.heap.size 27 1 vm 2 [.slice Ar X.length Cr, .slice (some ⟨wd.heap.size, 0, none⟩) r r]) (hgr : (wd.alloc (.cells (madeCells #[.int .u8 0] r) 5)).grownBy w1 (some wr.heap.size)) :
    MoreOk w w1 (fun q => wr.heap.size ≤ q ∧ q < w1.heap.size) vm [X, List.replicate r 0] := by
  obtain ⟨A, c, rfl⟩ := own_slice ho
  refine ⟨_, _, rfl, fun q hq => hq.2, fun W hb hM => ?_⟩
  have ho2 := own_stays ho (fun q hq => hM q ⟨own_base ho q hq, own_lt ho q hq⟩)
  have hz := own_made wd wd.heap.size 5 .u8 r (Nat.le_refl _) (by omega)
  have hsz := hgr.size
  have hz1 := own_stays hz (w' := w1) (fun q hq => by
    have h1 : wd.heap.size = q := by simpa [Value.ownBlock] using hq
    exact hgr.block q (own_lt hz q hq) (fun e => by injection e with e; omega))
  have hz2 := own_stays hz1 (w' := W) (fun q hq => hM q ⟨by have := own_base hz1 q hq; omega, own_lt hz1 q hq⟩)
  obtain ⟨Az, cz, ez, _, hCz, _, _, _⟩ := own_C hz2 (by simp)
  injection ez with ez _ ez'
  subst ez ez'
  obtain ⟨A', c', e1, hR⟩ := rows_of_own (k := .u8) (xss := [X, List.replicate r 0]) ho2 (fun j h => by
    rcases (by have : j < 2 := by simpa using h
               omega : j = 0 ∨ j = 1) with rfl | rfl
    · exact ⟨Ar, Cr, rfl, hrl, hrn, HRow W hb, hwf, hrc⟩
    · refine ⟨some ⟨wd.heap.size, 0, none⟩, r, by simp, by simp, fun h => (by cases h), ?_, ?_, by omega⟩
      · simpa using hCz
      · intro x hx
        have : x = 0 := by simp at hx; exact hx.2
        subst this
        decide)
  injection e1 with e1 _ e2
  subst e1 e2
  exact hR
theorem fold_len (room : Int) : ∀ (Ys : List (List Int)) (s : List Int × Bool), (Ys.foldl (putSt room) s).1.length ≤ s.1.length + total Ys
  | [], s => by simp
  | Y :: Ys, s => by
    have h1 := fold_len room Ys (putSt room s Y)
    have h2 := (putSt_len room s Y).1
    have h3 : total (Y :: Ys) = Y.length + total Ys := by simp [total]
    simp only [List.foldl_cons]
    omega
theorem putSt_f {room : Int} {T Y : List Int} : putSt room (T, false) Y = (T ++ Y, decide ((takenOf room (T ++ Y)).length < (T ++ Y).length)) := by unfold putSt; simp
theorem putSt_t {room : Int} {T Y : List Int} : putSt room (T, true) Y = (T, true) := by unfold putSt; simp
theorem putSt_back {room : Int} {s : List Int × Bool} {Y : List Int} (h : (putSt room s Y).2 = false) : (putSt room s Y).1.length = s.1.length + Y.length := by
  obtain ⟨T, f⟩ := s
  cases f with
  | true => rw [putSt_t] at h; cases h
  | false => rw [putSt_f]; simp
theorem putSt_eq {room : Int} {s : List Int × Bool} {Y Z : List Int} (h : s.2 = false → Y = Z) : putSt room s Y = putSt room s Z := by
  obtain ⟨T, f⟩ := s
  cases f with
  | true => rw [putSt_t, putSt_t]
  | false => rw [h rfl]
def CutMore (w wr : World) (X : List Int) (r : Nat) (v : Value) (wx : World) : Prop :=
  ∃ (Ys : List (List Int)) (A : Option Addr) (c : Nat), v = .slice A Ys.length c ∧ (Ys = [X] ∨ Ys = [X, List.replicate r 0]) ∧ Below wr.heap.size wr wx ∧
    ∀ W : World, Below w.heap.size w W → (∀ q, (wr.heap.size ≤ q ∧ q < wx.heap.size) → W.heap[q]? = wx.heap[q]?) → RowsAt .u8 W A c Ys
theorem more_cut {w wr wm : World} {X : List Int} {r : Nat} {vm : Value} {Ys : List (List Int)} (h : MoreOk w wm (fun q => wr.heap.size ≤ q ∧ q < wm.heap.size) vm Ys) (hY : Ys = [X] ∨ Ys = [X, List.replicate r 0]) (hb : Below wr.heap.size wr wm) : CutMore w wr X r vm wm := by
  obtain ⟨A, c, e, _, h2⟩ := h
  exact ⟨Ys, A, c, e, hY, hb, h2⟩
/-- What a call of Put or Pad leaves, in the law's own slot. -/
def PutCut (wq : World) (B : Nat) (F : Nat → Prop) (gw g : Nat) (room : Int) (s : List Int × Bool) (Y : List Int) (v : Value) (wx : World) : Prop :=
  ∃ F' : Nat → Prop, v = .int .i64 (if (putSt room s Y).2 = true then 14 else 0) ∧ WriterIs wx B F' gw g room (putSt room s Y) ∧ Moved wq wx F F' ∧ Below B wq wx
def InnerRel (w wm : World) (B gw g : Nat) (room : Int) (M : Nat → Prop) (s0 : List Int × Bool) (Ys : List (List Int)) (n : Nat) (v9 v10 v13 : Value) (wr : World) : Prop :=
  ∃ (k : Nat) (F : Nat → Prop) (s : List Int × Bool), v13 = .int .i64 (k : Int) ∧ k + n = Ys.length ∧ v10 = .bool s.2 ∧ wr.ownsRow w.heap.size 5 1 v9 s.1.length (nums .u8 s.1) ∧ (∀ q, v9.ownBlock = some q → ¬ F q ∧ ¬ M q) ∧ WriterIs wr B F gw g room s ∧
    s = (Ys.take k).foldl (putSt room) s0 ∧ (∀ q, F q → ¬ M q) ∧ wm.heap.size ≤ wr.heap.size ∧ (∀ q, M q → wr.heap[q]? = wm.heap[q]?) ∧ Below w.heap.size w wr
def OuterRel (w : World) (B gw g : Nat) (room : Int) (xss : List (List Int)) (n : Nat) (v9 v10 v11 : Value) (wr : World) : Prop :=
  ∃ (i : Nat) (F : Nat → Prop) (s : List Int × Bool), v11 = .int .i64 (i : Int) ∧ i + n = xss.length ∧ v10 = .bool s.2 ∧ wr.ownsRow w.heap.size 5 1 v9 s.1.length (nums .u8 s.1) ∧ (∀ q, v9.ownBlock = some q → ¬ F q) ∧ WriterIs wr B F gw g room s ∧
    s.1.length ≤ total (xss.take i) + 512 * i ∧ Below w.heap.size w wr
theorem count_is {w : World} {B : Nat} {F : Nat → Prop} {gw g : Nat} {room : Int} {T : List Int} (h : WriterIs w B F gw g room (T, false)) : Calls Try.prog 17 #[.pointer (some ⟨gw, 0, none⟩)] w fun e w' => e = .returned (.int .i64 (T.length : Int)) ∧ w = w' := by
  obtain ⟨Fs, count, h1, _, _, _, _, h6, _⟩ := h
  have := (h6 rfl).1
  dsimp only at this
  rw [← this]
  exact count_calls gw _ count _ w h1
theorem bytes_of {w : World} {B : Nat} {F : Nat → Prop} {gw g : Nat} {room : Int} {s : List Int × Bool} (h : WriterIs w B F gw g room s) (hlen : s.1.length ≤ 140737488355328) :
    Calls Try.prog 12 #[.pointer (some ⟨g, 0, none⟩)] w fun e w' => ∃ v1, e = .returned v1 ∧ w'.ownsRow w.heap.size 5 1 v1 (takenOf room s.1).length (nums .u8 (takenOf room s.1)) ∧ Below w.heap.size w w' := by
  obtain ⟨Fs, count, _, _, h3, _⟩ := h
  exact bytes_is w B Fs g room s.1 h3 hlen
theorem rows_cat {Ys : List (List Int)} {X : List Int} {r : Nat} (h : Ys = [X] ∨ Ys = [X, List.replicate r 0]) (hr : r < 512) : total Ys ≤ X.length + 512 := by
  rcases h with rfl | rfl <;> simp [total] <;> omega
set_option maxHeartbeats 2000000 in
set_option maxRecDepth 100000 in
theorem sinkWrites_main (w : World) (a0 : Int) (hro0 : -9223372036854775808 ≤ a0) (hro1 : a0 ≤ 9223372036854775807) (A1 : Option Addr) (c1 : Nat) (l1 : List (List Int)) (HR : Aside0 (RowsAt .u8 w A1 c1 l1)) (A2 : Option Addr) (c2 : Nat) (l2 : List Bool) (HR2 : Aside0 (BoolsAt w A2 c2 l2))
    (hl30 : l1.length ≤ 30) (ht5 : total l1 ≤ 5000) (hl60 : l2.length ≤ 60) :
    Calls Try.prog 4 #[.int .i64 a0, .slice A1 l1.length c1, .slice A2 l2.length c2] w fun e w' => e = .returned (.bool true) ∧ Below w.heap.size w w' := by
  have hfew : fewB l1 = true := by unfold fewB; simp [hl30, ht5]
  have HFew := Aside0.mk hfew
  clear hfew
  go_enter Try.func4, Try.ntmps4
  go_wp2_with fail
  refine (alive_calls w).mono ?_
  rintro e w1 ⟨rfl, hb1⟩
  have HB := Aside0.mk hb1
  clear hb1
  go_wp2_with fail
  refine (few_calls A1 c1 l1 w1 (HR.out.below HB.out)).mono ?_
  rw [HFew.out]
  rintro e w' ⟨rfl, rfl⟩
  go_wp2_with fail
  refine (sink_new a0 w1).mono ?_
  rintro e w2 ⟨g, rfl, hS, hb2⟩
  have HB2 := Aside0.mk (below_step HB.out hb2)
  have HS := Aside0.mk hS
  have HLE := Aside0.mk HB.out.size
  have hle2 := hb2.size
  clear hS hb2 HB HFew
  go_wp2_with fail
  refine (newWriter_calls (some ⟨g, 0, none⟩) w2).mono ?_
  rintro e w3 ⟨gw, rfl, hgw, hW, hb3⟩
  have HB3 := Aside0.mk (below_step HB2.out hb3)
  have HW := Aside0.mk (writer_new HS.out hle2 hgw hW hb3)
  generalize w1.heap.size = BB at HW HLE
  clear hgw hW hb3 HS HB2 hle2
  go_wp2_with fail
  go_loopg [9, 10, 11] l1.length (fun n v9 v10 v11 wr => OuterRel w BB gw g a0 l1 n v9 v10 v11 wr)
  case atStart => exact ⟨0, _, ([], false), rfl, by omega, rfl, by simpa [nums] using own_nil w3 w.heap.size 5 1, fun q hq => by simp [Value.ownBlock] at hq, HW.out, by simp, HB3.out⟩
  case round =>
    clear HW HB3
    obtain ⟨wo, hwo⟩ : ∃ wo, wo = wr := ⟨_, rfl⟩
    subst hwo
    obtain ⟨no, hno⟩ : ∃ no, no = gk := ⟨_, rfl⟩
    subst hno
    obtain ⟨i, F, s0, rfl, hi, rfl, ho, hof, hW, hlen, hb⟩ := hrel
    have hTl := total_le l1 i
    have HO := Aside0.mk ho
    have HOf := Aside0.mk hof
    have HW := Aside0.mk hW
    have HB := Aside0.mk hb
    clear ho hof hW hb
    by_cases h : i < l1.length
    · have hd : decide ((i : Int) < (l1.length : Int)) = true := decide_eq_true (by omega)
      have hd' : decide (i < l1.length) = true := decide_eq_true h
      have hil : (i : Int) < (l1.length : Int) := by omega
      obtain ⟨a, Ar, Cr, rfl, hcell0, hrl, hrn, hC0, hwf, hrc⟩ := HR.out.at_ i h
      have HRow := Aside0.mk (fun (W : World) (hb : Below w.heap.size w W) => And.intro (pw_cell_below hb hcell0) (Kd.C_below hC0 hb))
      have hcell := (HRow.out wo HB.out).1
      have hT2 := total_take_succ l1 i h
      have hT3 := total_le l1 (i + 1)
      generalize hX : l1[i] = X at hcell hrl hrn HRow hT2 hwf
      obtain ⟨A9, c9, rfl⟩ := own_slice HO.out
      have HSz := Aside0.mk (And.intro hT2 (And.intro hT3 (And.intro hTl hlen)))
      have hXb : X.length ≤ 5000 := by omega
      have hs0b : s0.1.length ≤ 25000 := by omega
      clear hcell0 hC0 hT2 hT3 hTl hlen hX
      have HBa := Aside0.mk (HB.out.alloc HB.out.size (.cells #[.slice Ar X.length Cr] 27))
      have hcella := (HRow.out _ HBa.out).1
      have HOne := Aside0.mk (more_one (wr := wo) hrl hrn hrc hwf fun W hb => (HRow.out W hb).2)
      have HTwo := Lib.hid (fun (r : Nat) (hr5 : r < 512) (wd w1 : World) (vm : Value) => more_two (wr := wo) (wd := wd) (w1 := w1) (vm := vm) hrl hrn hrc hwf (fun W hb => (HRow.out W hb).2) hr5)
      have HRest := Aside0.mk (rest_ref (s0.1.length + X.length) (by omega))
      have hrl5 := restOf_lt (s0.1.length + X.length)
      generalize hrr : restOf (s0.1.length + X.length) = r at HRest hrl5
      have HRR := Aside0.mk hrr
      clear hwf hrr
      have hmk := print_make (P := Try.prog) 27 5 .u8 1 Try.underlying27 byteInfo (by decide) r (by omega)
      go_upto_region 13 with (fail)
      go_cut [49] from 29 to 123 (fun s49 wx => ∃ b : Bool, s49 = .bool b ∧ wx = wo.alloc (.cells #[.slice Ar X.length Cr] 27))
      case first =>
        by_cases hp : i < l2.length
        · obtain ⟨a2, hA2, hcb⟩ := (HR2.out.below HBa.out).at_ i hp
          subst hA2
          have hdp : decide ((i : Int) < (l2.length : Int)) = true := decide_eq_true (by omega)
          have hdp' : decide (i < l2.length) = true := decide_eq_true hp
          have hilp : (i : Int) < (l2.length : Int) := by omega
          generalize l2[i] = pb at hcb
          cases pb with
          | true =>
            go_wp2_with fail
            go_meet
            exact ⟨_, rfl, rfl⟩
          | false =>
            go_wp2_with fail
            go_meet
            exact ⟨_, rfl, rfl⟩
        · have hdp : decide ((i : Int) < (l2.length : Int)) = false := decide_eq_false (by omega)
          have hdp' : decide (i < l2.length) = false := decide_eq_false hp
          go_wp2_with fail
          go_meet
          exact ⟨_, rfl, rfl⟩
      case rest =>
        obtain ⟨b, rfl, rfl⟩ := hcut
        go_upto_if 49 with (fail)
        go_cut [12] from 29 to 123 (fun s12 wx => CutMore w wo X r s12 wx)
        case first =>
          cases b with
          | true =>
            go_wp2_with fail
            refine (oakumref02_Rest.calls _ (r : Int) _ (by have := HRest.out; rwa [Int.natCast_add] at this)).mono ?_
            rintro e w5 ⟨rfl, hdr⟩
            have hb5 := hdr.below
            have HB5 := Aside0.mk (below_step HBa.out hb5)
            have hcell5 := (HRow.out _ HB5.out).1
            have hbw5 : Below wo.heap.size wo w5 := below_then ((Below.refl _ _).alloc (Nat.le_refl _) _) (by simp) hb5
            have hsz5 : wo.heap.size < w5.heap.size := by have := hb5.size; simp at this; omega
            have ho5 : (w5.alloc (.cells (madeCells #[.int .u8 0] r) 5)).ownsRow wo.heap.size 27 1 (.slice (some ⟨wo.heap.size, 0, none⟩) 1 1) ([.slice Ar X.length Cr] : List Value).length [.slice Ar X.length Cr] :=
              pw_own_below (pw_own_below (World.ownsRow_lit (base := wo.heap.size) (e := 27) (size := 1) wo #[.slice Ar X.length Cr] 1 (Nat.le_refl _) (by decide) (by simp)) hb5) (below_alloc (Below.refl _ _) _)
            have HO5 := Aside0.mk ho5
            have HBW5 := Aside0.mk (hbw5.alloc (Nat.le_of_lt hsz5) (.cells (madeCells #[.int .u8 0] r) 5))
            have HS5 := Aside0.mk hsz5
            clear ho5 hbw5 hsz5 hb5 hdr
            go_wp2_with (at_builtin; refine print_append (w0 := wo) (W := w5.alloc (.cells (madeCells #[.int .u8 0] r) 5)) wo.heap.size rfl (.tmp 50) (.tmp 61) 22 27 (.slice none 0 0) 24 rfl Try.underlying22 sliceInfo rfl (by decide) (.slice (some ⟨wo.heap.size, 0, none⟩) 1 1) [.slice Ar X.length Cr] (.slice (some ⟨w5.heap.size, 0, none⟩) r r) rfl (by simp [Act.eval]) rfl HO5.out HBW5.out HBW5.out.size (by simp) (fun vm wm h1 hb hgr hat => ?_); have HBm := Aside0.mk (HB.out.trans (Below.mono hb HB.out.size)); have HBr := Aside0.mk hb; have HMore := Aside0.mk (more_cut (HTwo.out r hrl5 w5 wm vm HS5.out h1 hgr) (.inr rfl) hb); clear h1 hb hgr hat)
            go_meet
            exact HMore.out
          | false =>
            have HMore := Aside0.mk (more_cut (r := r) HOne.out (.inl rfl) ((Below.refl _ _).alloc (Nat.le_refl _) _))
            go_wp2_with fail
            go_meet
            exact HMore.out
        case rest =>
          obtain ⟨Ys, Am, cm, rfl, hYs, hbm, hMR⟩ := hcut
          have HMR := Aside0.mk hMR
          have HBr := Aside0.mk hbm
          have HBm := Aside0.mk (HB.out.trans (Below.mono hbm HB.out.size))
          have HYs := Aside0.mk hYs
          have hYl : Ys.length ≤ 2 := by rcases hYs with rfl | rfl <;> simp
          have hYt : total Ys ≤ 6000 := by rcases hYs with rfl | rfl <;> simp [total] <;> omega
          clear hMR hbm hYs HOne HTwo
          obtain ⟨wm, hwm⟩ : ∃ wm, wm = wc := ⟨_, rfl⟩
          subst hwm
          go_wp2_with fail
          go_loopg [9, 10, 13] Ys.length (fun n v9 v10 v13 wq => InnerRel w wm BB gw g a0 (fun q => wo.heap.size ≤ q ∧ q < wm.heap.size) s0 Ys n v9 v10 v13 wq)
          case atStart => exact ⟨0, F, s0, rfl, by simp, rfl, own_stays HO.out (fun q hq => HBr.out.block q (own_lt HO.out q hq)), fun q hq => ⟨HOf.out q hq, fun h => by have := own_lt HO.out q hq; omega⟩, HW.out.below HBr.out, rfl, fun q hq h => by have := HW.out.lt q hq; omega, Nat.le_refl _, fun q hq => rfl, HBm.out⟩
          case round =>
            obtain ⟨k, F1, s, rfl, hk, rfl, ho1, hof1, hW1, hs1, hFM, hzz, hMq, hb1⟩ := hrel
            have hsl1 : s.1.length ≤ 32000 := by
              have h1 := fold_len a0 (Ys.take k) s0
              rw [← hs1] at h1
              have h2 := total_le Ys k
              omega
            obtain ⟨A1', c1', rfl⟩ := own_slice ho1
            have HO1 := Aside0.mk ho1
            have HOf1 := Aside0.mk hof1
            have HW1 := Aside0.mk hW1
            have HS1 := Aside0.mk hs1
            have HFM := Aside0.mk hFM
            have HMq := Aside0.mk (And.intro hzz hMq)
            have HB1 := Aside0.mk hb1
            clear ho1 hof1 hW1 hs1 hFM hzz hMq hb1
            by_cases hkl : k < Ys.length
            · have hdk : decide ((k : Int) < (Ys.length : Int)) = true := decide_eq_true (by omega)
              have hdk' : decide (k < Ys.length) = true := decide_eq_true hkl
              have hkb : (k : Int) < (Ys.length : Int) := by omega
              have HRows := Aside0.mk (HMR.out wr HB1.out HMq.out.2)
              obtain ⟨am, Ak, Ck, hAm, hck, hYk, _, hCk, _, _⟩ := HRows.out.at_ k hkl
              subst hAm
              have hYkl : Ys[k].length ≤ 6000 := by
                have h1 := total_take_succ Ys k hkl
                have h2 := total_le Ys (k + 1)
                omega
              have HPad := Lib.hid (show k = 1 → putSt a0 s (List.replicate (restOf s.1.length) 0) = putSt a0 s Ys[k] from fun h1 => by
                refine putSt_eq fun hs => ?_
                rcases HYs.out with hY | hY
                · rw [hY] at hkl; simp at hkl; omega
                · have hs1 := HS1.out
                  have e1 : Ys.take k = [X] := by rw [hY, h1]; rfl
                  rw [e1] at hs1
                  have e2 : s = putSt a0 s0 X := hs1
                  have e3 := putSt_back (room := a0) (s := s0) (Y := X) (by rw [← e2]; exact hs)
                  rw [← e2] at e3
                  rw [e3, HRR.out]
                  have : Ys[k]? = some (List.replicate r 0) := by rw [hY, h1]; rfl
                  rw [List.getElem?_eq_getElem hkl] at this
                  exact (Option.some.inj this).symm)
              have HFold := Aside0.mk (show (Ys.take (k + 1)).foldl (putSt a0) s0 = putSt a0 s Ys[k] by rw [List.take_succ_eq_append_getElem hkl, List.foldl_append, ← HS1.out]; rfl)
              have HCk := Aside0.mk hCk
              clear hCk
              generalize hY : Ys[k] = Y at hck hYk hYkl HPad HFold HCk
              have HYk := Aside0.mk hY
              clear hY
              go_upto_if 70 with (fail)
              go_cut [14] from 63 to 116 (fun s14 wx => PutCut wr BB F1 gw g a0 s Y s14 wx)
              case first =>
                have hcb : 0 ≤ (if (putSt a0 s Y).2 = true then (14 : Int) else 0) ∧ (if (putSt a0 s Y).2 = true then (14 : Int) else 0) ≤ 14 := by split <;> decide
                by_cases hk0 : k = 0
                · have hk0' : ((k : Int) == 0) = true := beq_iff_eq.2 (by omega)
                  have hk1 : k ≤ 0 := by omega
                  clear hk0
                  have hPut := Lib.hid (put_is wr BB F1 gw g a0 s Y Ak Ck HW1.out HCk.out hYk (by omega) hro1)
                  go_wp2_with fail
                  refine hPut.out.mono ?_
                  rintro e w5 ⟨F5, he, hW5, hM5, hb5⟩
                  have HPC := Aside0.mk (show PutCut wr BB F1 gw g a0 s Y (.int .i64 (if (putSt a0 s Y).2 = true then 14 else 0)) w5 from ⟨F5, rfl, hW5, hM5, hb5⟩)
                  generalize (if (putSt a0 s Y).2 = true then (14 : Int) else 0) = code at he hcb HPC
                  obtain ⟨hcb0, hcb1⟩ := hcb
                  subst he
                  clear hW5 hM5 hb5 hPut
                  go_wp2_with fail
                  go_meet
                  exact HPC.out
                · have hk0' : ((k : Int) == 0) = false := beq_eq_false_iff_ne.2 (by omega)
                  have hk0'' : ¬ (k : Int) = 0 := by omega
                  have hPe := HPad.out (by omega)
                  have hPut := pad_is wr BB F1 gw g a0 s HW1.out (by omega) hro1
                  unfold PutSays at hPut
                  rw [hPe] at hPut
                  have HPut := Lib.hid hPut
                  clear hPut hPe
                  go_wp2_with fail
                  refine HPut.out.mono ?_
                  rintro e w5 ⟨F5, he, hW5, hM5, hb5⟩
                  have HPC := Aside0.mk (show PutCut wr BB F1 gw g a0 s Y (.int .i64 (if (putSt a0 s Y).2 = true then 14 else 0)) w5 from ⟨F5, rfl, hW5, hM5, hb5⟩)
                  generalize (if (putSt a0 s Y).2 = true then (14 : Int) else 0) = code at he hcb HPC
                  obtain ⟨hcb0, hcb1⟩ := hcb
                  subst he
                  clear hW5 hM5 hb5 HPut
                  go_wp2_with fail
                  go_meet
                  exact HPC.out
              case rest =>
                obtain ⟨F2, rfl, hW2, hM2, hb2⟩ := hcut
                have HW2 := Aside0.mk hW2
                have HM2 := Aside0.mk hM2
                have HB2 := Aside0.mk (HB1.out.trans (Below.mono hb2 HLE.out))
                clear hW2 hM2 hb2
                have HO2 := Aside0.mk (own_moved HO1.out HM2.out fun q hq => (HOf1.out q hq).1)
                have HOf2 := Aside0.mk (show ∀ q, (Value.slice A1' s.1.length c1').ownBlock = some q → ¬ F2 q ∧ ¬ (wo.heap.size ≤ q ∧ q < wm.heap.size) from fun q hq => ⟨not_moved HM2.out (own_lt HO1.out q hq) (HOf1.out q hq).1, (HOf1.out q hq).2⟩)
                have HFM2 := Aside0.mk (show ∀ q, F2 q → ¬ (wo.heap.size ≤ q ∧ q < wm.heap.size) from fun q hq h => by
                  rcases HM2.out.2.2 q hq with h' | h'
                  · exact HFM.out q h' h
                  · have := HMq.out.1; omega)
                have HMq2 := Aside0.mk (show wm.heap.size ≤ wc.heap.size ∧ ∀ q, (wo.heap.size ≤ q ∧ q < wm.heap.size) → wc.heap[q]? = wm.heap[q]? from ⟨Nat.le_trans HMq.out.1 HM2.out.1, fun q hq => (HM2.out.2.1 q (Nat.lt_of_lt_of_le hq.2 HMq.out.1) (fun hf => HFM.out q hf hq)).trans (HMq.out.2 q hq)⟩)
                clear HO1 HOf1 HW1 HFM HB1 HM2 HRows HCk hck hYk
                obtain ⟨T, f⟩ := s
                cases f with
                | true =>
                  rw [putSt_t] at HFold HW2 ⊢
                  simp only [if_true]
                  have HRel := Aside0.mk (show InnerRel w wm BB gw g a0 (fun q => wo.heap.size ≤ q ∧ q < wm.heap.size) s0 Ys (gk - 1) (.slice A1' T.length c1') (.bool true) (.int .i64 ((k + 1 : Nat) : Int)) wc from ⟨k + 1, F2, (T, true), rfl, by omega, rfl, HO2.out, HOf2.out, HW2.out, HFold.out.symm, HFM2.out, HMq2.out.1, HMq2.out.2, HB2.out⟩)
                  go_wp2_with fail
                  go_roundg (gk - 1)
                  case rel => exact HRel.out
                  case measure => omega
                | false =>
                  rw [putSt_f] at HFold HW2 ⊢
                  dsimp only at hsl1 HO2 HOf2 ⊢
                  obtain ⟨U, hU⟩ : ∃ U, U = T ++ Y := ⟨_, rfl⟩
                  have hUl : U.length = T.length + Y.length := by rw [hU, List.length_append]
                  have hUb : U.length ≤ 40000 := by omega
                  rw [← hU] at HFold HW2 ⊢
                  have HU := Aside0.mk hU
                  have HRows2 := (HMR.out wc HB2.out HMq2.out.2).at_ k hkl
                  rw [HYk.out] at HRows2
                  obtain ⟨am', Ak2, Ck2, hAm', hck2, hYk2, _, hCk2, _, _⟩ := HRows2
                  injection hAm' with hAm'
                  subst hAm'
                  have HRd := Aside0.mk (Kd.reads_of_C (enc := Value.int .u8) (d := (0 : Int)) (h1 := fun _ => rfl) hCk2)
                  have HFin := Aside0.mk (fun (f' : Bool) (v9 : Value) (w7 w8 : World) (hWt : WriterIs wc BB F2 gw g a0 (U, f')) (hFo : (Ys.take (k + 1)).foldl (putSt a0) s0 = (U, f')) (h1 : w7.ownsRow w.heap.size 5 1 v9 U.length (nums .u8 U)) (hb : Below w.heap.size w w7) (hgr : wc.grownBy w7 (Value.slice A1' T.length c1').ownBlock)
                    (hat : v9.ownBlock = (Value.slice A1' T.length c1').ownBlock ∨ ∃ b, v9.ownBlock = some b ∧ wc.heap.size ≤ b) (h78 : w7 = w8) => (by
                      subst h78
                      have hne : ∀ q, (F2 q ∨ (wo.heap.size ≤ q ∧ q < wm.heap.size)) → some q ≠ (Value.slice A1' T.length c1').ownBlock := fun q hq e => by
                        rcases hq with h | h
                        · exact (HOf2.out q e.symm).1 h
                        · exact (HOf2.out q e.symm).2 h
                      have hMv : Moved wc w7 (fun q => some q = (Value.slice A1' T.length c1').ownBlock) (fun q => some q = (Value.slice A1' T.length c1').ownBlock) := ⟨hgr.size, fun q hq hn => hgr.block q hq hn, fun q hq => .inl hq⟩
                      refine ⟨k + 1, F2, (U, f'), rfl, by omega, rfl, h1, ?_, hWt.moved hMv (fun q hq => hne q (.inl hq)), hFo.symm, HFM2.out, Nat.le_trans HMq2.out.1 hgr.size, fun q hq => (hgr.block q (Nat.lt_of_lt_of_le hq.2 HMq2.out.1) (hne q (.inr hq))).trans (HMq2.out.2 q hq), hb⟩
                      intro q hq
                      rcases hat with hat | ⟨b, hat, hb⟩
                      · exact HOf2.out q (hat.symm.trans hq)
                      · rw [hat] at hq
                        injection hq with hq
                        exact ⟨fun h => by have := hWt.lt q h; omega, fun h => by have := HMq2.out.1; omega⟩ : InnerRel w wm BB gw g a0 (fun q => wo.heap.size ≤ q ∧ q < wm.heap.size) s0 Ys (gk - 1) v9 (.bool f') (.int .i64 ((k + 1 : Nat) : Int)) w8))
                  have hTYb : T.length + Y.length ≤ 40000 := by omega
                  clear hU hUl hCk2
                  by_cases hf' : (takenOf a0 U).length < U.length
                  · rw [decide_eq_true hf'] at HFold HW2 ⊢
                    simp only [if_true]
                    have hfd : decide (((takenOf a0 U).length : Int) < (U.length : Int)) = true := decide_eq_true (by omega)
                    have hfd' : decide ((takenOf a0 U).length < U.length) = true := decide_eq_true hf'
                    go_wp2_with (at_builtin; refine print_append_row (w0 := w) (W := wc) w.heap.size rfl (.tmp 84) (.tmp 88) 27 5 .u8 1 rfl Try.underlying27 byteInfo (by decide) (.slice A1' T.length c1') T Y Ak2 Y.length Ck2 rfl rfl HO2.out HRd.out HB2.out HB2.out.size (by omega) (fun v9 w7 h1 hb hgr hat => ?_); rw [← HU.out] at h1; have HRel := Aside0.mk (HFin.out _ v9 w7 w7 HW2.out HFold.out h1 hb hgr hat rfl); obtain ⟨A9', c9', rfl, hc9, hC9, _, _, _⟩ := own_C h1 rfl; have HC9 := Aside0.mk hC9; clear h1 hb hgr hat hC9 hck2)
                    with_reducible refine (taken_calls A9' c9' U a0 w7 HC9.out hc9 ⟨hro0, hro1⟩).mono ?_
                    rintro e w' ⟨rfl, rfl⟩
                    go_wp2_with fail
                    go_roundg (gk - 1)
                    case rel => exact HRel.out
                    case measure => omega
                  · rw [decide_eq_false hf'] at HFold HW2 ⊢
                    simp only [Bool.false_eq_true, if_false]
                    have hfd : decide (((takenOf a0 U).length : Int) < (U.length : Int)) = false := decide_eq_false (by omega)
                    have hfd' : decide ((takenOf a0 U).length < U.length) = false := decide_eq_false hf'
                    go_wp2_with (at_builtin; refine print_append_row (w0 := w) (W := wc) w.heap.size rfl (.tmp 84) (.tmp 88) 27 5 .u8 1 rfl Try.underlying27 byteInfo (by decide) (.slice A1' T.length c1') T Y Ak2 Y.length Ck2 rfl rfl HO2.out HRd.out HB2.out HB2.out.size (by omega) (fun v9 w7 h1 hb hgr hat => ?_); rw [← HU.out] at h1; have HRel := Aside0.mk (HFin.out _ v9 w7 w7 HW2.out HFold.out h1 hb hgr hat rfl); obtain ⟨A9', c9', rfl, hc9, hC9, _, _, _⟩ := own_C h1 rfl; have HC9 := Aside0.mk hC9; have HCt := Lib.hid (count_is (HW2.out.moved (w' := w7) (G := fun q => some q = (Value.slice A1' T.length c1').ownBlock) (G' := fun q => some q = (Value.slice A1' T.length c1').ownBlock) ⟨hgr.size, fun q hq hn => hgr.block q hq hn, fun q hq => .inl hq⟩ (fun q hq e => (HOf2.out q e.symm).1 hq))); clear h1 hb hgr hat hC9 hck2)
                    with_reducible refine (taken_calls A9' c9' U a0 w7 HC9.out hc9 ⟨hro0, hro1⟩).mono ?_
                    rintro e w' ⟨rfl, rfl⟩
                    go_wp2_with fail
                    refine HCt.out.mono ?_
                    rintro e w' ⟨rfl, rfl⟩
                    go_wp2_with fail
                    go_roundg (gk - 1)
                    case rel => exact HRel.out
                    case measure => omega
            · have hdk : decide ((k : Int) < (Ys.length : Int)) = false := decide_eq_false (by omega)
              have hdk' : decide (k < Ys.length) = false := decide_eq_false hkl
              have hkY : k = Ys.length := by omega
              have hs := HS1.out
              rw [hkY, List.take_of_length_le (Nat.le_refl _)] at hs
              have hsl := fold_len a0 Ys s0
              rw [← hs] at hsl
              have hcat := rows_cat HYs.out hrl5
              obtain ⟨hT2, hT3, hTl, hlen⟩ := HSz.out
              have HLen := Aside0.mk (show s.1.length ≤ total (l1.take (i + 1)) + 512 * (i + 1) by omega)
              have HBy := Lib.hid (bytes_of HW1.out (by omega))
              have htl := (takenOf_len a0 s.1).1
              obtain ⟨A3, c3, e3, hc3, hC3, _, _, hst3⟩ := own_C HO1.out rfl
              injection e3 with e3 _ e3'
              subst e3 e3'
              have HC3 := Aside0.mk hC3
              have htc : (takenOf a0 s.1).length ≤ c1' := by omega
              clear hs hsl hcat hT2 hT3 hTl hlen hC3 hst3 hkY
              go_wp2_with fail
              refine HBy.out.mono ?_
              rintro e w5 ⟨v5, rfl, ho5, hb5⟩
              have HB5 := Aside0.mk (below_step HB1.out hb5)
              have HC5 := Aside0.mk (Kd.C_below HC3.out hb5)
              have HO5 := Aside0.mk (pw_own_below HO1.out hb5)
              have HW5 := Aside0.mk (HW1.out.below hb5)
              have HQ5 := Aside0.mk (taken_C a0 HC5.out)
              obtain ⟨A5, c5, rfl, hc5, hCv5, _, _, _⟩ := own_C ho5 rfl
              have HCv5 := Aside0.mk hCv5
              clear ho5 hb5 hCv5 HBy
              go_wp2_with fail
              with_reducible refine (taken_calls A1' c1' s.1 a0 w5 HC5.out hc3 ⟨hro0, hro1⟩).mono ?_
              rintro e w' ⟨rfl, rfl⟩
              go_wp2_with fail
              with_reducible refine (oakumref01_Same.calls A5 c5 (takenOf a0 s.1) A1' c1' (takenOf a0 s.1) true w5 HCv5.out hc5 HQ5.out htc (same_t _)).mono ?_
              rintro e w6 ⟨rfl, hdr⟩
              have HRel := Aside0.mk (show OuterRel w BB gw g a0 l1 (no - 1) (.slice A1' s.1.length c1') (.bool s.2) (.int .i64 ((i + 1 : Nat) : Int)) w6 from ⟨i + 1, F1, s, rfl, by omega, rfl, pw_own_below HO5.out hdr.below, fun q hq => (HOf1.out q hq).1, HW5.out.below hdr.below, HLen.out, below_step HB5.out hdr.below⟩)
              clear hdr
              go_wp2_with fail
              go_roundg (no - 1)
              case rel => exact HRel.out
              case measure => omega
    · have hd : decide ((i : Int) < (l1.length : Int)) = false := decide_eq_false (by omega)
      have hd' : decide (i < l1.length) = false := decide_eq_false h
      go_wp2_with fail
      go_ret
      exact ⟨rfl, HB.out⟩
set_option maxHeartbeats 1000000 in
set_option maxRecDepth 100000 in
theorem sinkWrites_calls (w : World) (a0 : Int) (w0 : (Lit.int .i64 a0).wf = true) (A1 : Option Addr) (c1 : Nat) (l1 : List (List Int)) (hr1 : RowsAt .u8 w A1 c1 l1) (A2 : Option Addr) (c2 : Nat) (l2 : List Bool) (hr2 : BoolsAt w A2 c2 l2) :
    Calls Try.prog 4 #[.int .i64 a0, .slice A1 l1.length c1, .slice A2 l2.length c2] w fun e w' => e = .returned (.bool true) ∧ Below w.heap.size w w' := by
  obtain ⟨hro0, hro1⟩ := wf_i64_bd w0
  have HR := Aside0.mk hr1
  have HR2 := Aside0.mk hr2
  have hmx : l2.length ≤ 9223372036854775807 := Nat.le_trans hr2.1 hr2.2.1
  clear hr1 hr2 w0
  by_cases hf : l1.length ≤ 30 ∧ total l1 ≤ 5000
  · by_cases hl60 : l2.length ≤ 60
    · exact sinkWrites_main w a0 hro0 hro1 A1 c1 l1 HR A2 c2 l2 HR2 hf.1 hf.2 hl60
    · have hfew : fewB l1 = true := by unfold fewB; simp [hf.1, hf.2]
      have HFew := Aside0.mk hfew
      have hd : decide ((60 : Int) < (l2.length : Int)) = true := decide_eq_true (by omega)
      have hd' : decide (60 < l2.length) = true := decide_eq_true (by omega)
      clear hfew hf
      go_enter Try.func4, Try.ntmps4
      go_wp2_with fail
      refine (alive_calls w).mono ?_
      rintro e w1 ⟨rfl, hb1⟩
      have HB := Aside0.mk hb1
      clear hb1
      go_wp2_with fail
      refine (few_calls A1 c1 l1 w1 (HR.out.below HB.out)).mono ?_
      rw [HFew.out]
      rintro e w' ⟨rfl, rfl⟩
      go_wp2_with fail
      go_ret
      exact ⟨rfl, HB.out⟩
  · have hfew : fewB l1 = false := by
      unfold fewB
      by_cases h1 : l1.length ≤ 30
      · have h2 : ¬ total l1 ≤ 5000 := fun h => hf ⟨h1, h⟩
        simp [h2]
      · simp [h1]
    have HFew := Aside0.mk hfew
    clear hfew hf
    go_enter Try.func4, Try.ntmps4
    go_wp2_with fail
    refine (alive_calls w).mono ?_
    rintro e w1 ⟨rfl, hb1⟩
    have HB := Aside0.mk hb1
    clear hb1
    go_wp2_with fail
    refine (few_calls A1 c1 l1 w1 (HR.out.below HB.out)).mono ?_
    rw [HFew.out]
    rintro e w' ⟨rfl, rfl⟩
    go_wp2_with fail
    go_ret
    exact ⟨rfl, HB.out⟩
end Go.Proofs.Ytddchfjdekfekaa.Hand
