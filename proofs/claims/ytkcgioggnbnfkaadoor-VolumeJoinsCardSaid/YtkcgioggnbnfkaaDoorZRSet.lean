/- The document's Set of volumes: what it tells, and its walk. -/
import Derived.Test.YtkcgioggnbnfkaaDoorZRO
import Derived.Test.YtkcgioggnbnfkaaDoorZBackR
import Derived.Deep.CutRange
import Derived.Deep.MidRow
set_option linter.unusedVariables false
set_option linter.unusedSimpArgs false
namespace Go.Proofs.YtkcgioggnbnfkaaDoor.BackP
end Go.Proofs.YtkcgioggnbnfkaaDoor.BackP
namespace Go.Proofs.YtkcgioggnbnfkaaDoor.RSet
open Go
open Go.RowKit Go.Proofs.YtkcgioggnbnfkaaDoorW.PrintWords Go.Proofs.YtkcgioggnbnfkaaDoorW.PrintLast Go.Proofs.YtkcgioggnbnfkaaDoorW.PrintMore Go.Proofs.YtkcgioggnbnfkaaDoorW.Mv Go.Proofs.YtkcgioggnbnfkaaDoorW.HKit Go.Proofs.YtkcgioggnbnfkaaDoorW.But Go.Proofs.YtkcgioggnbnfkaaDoorW.App Go.Proofs.YtkcgioggnbnfkaaDoorW.Rwb Go.Proofs.YtkcgioggnbnfkaaDoor.PVolumeJoins Go.Proofs.YtkcgioggnbnfkaaDoor.CrcA Go.Proofs.YtkcgioggnbnfkaaDoor.Crc Go.Proofs.YtkcgioggnbnfkaaDoor.NumP Go.Proofs.YtkcgioggnbnfkaaDoor.NumG Go.Proofs.YtkcgioggnbnfkaaDoor.Num Go.Proofs.YtkcgioggnbnfkaaDoor.Lab Go.Proofs.YtkcgioggnbnfkaaDoor.Read Go.Proofs.YtkcgioggnbnfkaaDoor.Open Go.Proofs.YtkcgioggnbnfkaaDoor.Vol Go.Proofs.YtkcgioggnbnfkaaDoor.Spl Go.Proofs.YtkcgioggnbnfkaaDoor.RS Go.Proofs.YtkcgioggnbnfkaaDoorW.Live Go.Proofs.YtkcgioggnbnfkaaDoor.RB Go.Proofs.YtkcgioggnbnfkaaDoor.RS Go.Proofs.YtkcgioggnbnfkaaDoor.WS Go.Proofs.YtkcgioggnbnfkaaDoorW.Mps Go.Proofs.YtkcgioggnbnfkaaDoor.SetW Go.Proofs.YtkcgioggnbnfkaaDoor.JoinW Go.Proofs.YtkcgioggnbnfkaaDoor.BackP Go.Proofs.YtkcgioggnbnfkaaDoor.BackR Go.Proofs.YtkcgioggnbnfkaaDoor.RO
/-- A volume's code, a label's number. -/
noncomputable def codeAt (L : List (List Int)) (i : Nat) : Int := (openOf (L.getD i [])).2.2
noncomputable def labN (L : List (List Int)) (i j : Nat) : Int := rd (openOf (L.getD i [])).1 j
/-- Does a volume not fit to the first, or to one ahead of it? -/
def Bad (L : List (List Int)) (i : Nat) : Prop := labN L i 1 ≠ labN L 0 1 ∨ labN L i 2 ≠ labN L 0 2 ∨ labN L i 4 ≠ labN L 0 4 ∨ ∃ k, k < i ∧ labN L k 0 = labN L i 0 ∧ L.getD k [] ≠ L.getD i []
/-- What is wrong with volumes: the place, the code; none: they fit. -/
def SetIs (L : List (List Int)) (r : Option (Nat × Int)) : Prop :=
  match r with
  | some (i, code) => i < L.length ∧ ((code = codeAt L i ∧ code ≠ 0 ∧ ∀ j, j < i → codeAt L j = 0) ∨ (code = 2 ∧ (∀ j, j < L.length → codeAt L j = 0) ∧ Bad L i ∧ ∀ j, j < i → ¬ Bad L j))
  | none => (∀ j, j < L.length → codeAt L j = 0) ∧ ∀ j, j < L.length → ¬ Bad L j
theorem setIs_one {L : List (List Int)} {r q : Option (Nat × Int)} (h : SetIs L r) (k : SetIs L q) : r = q := by
  match r, q, h, k with
  | none, none, _, _ => rfl
  | none, some (i, c), h, k =>
    obtain ⟨hi, k⟩ := k
    rcases k with ⟨k1, k2, _⟩ | ⟨_, _, k3, _⟩
    · exact absurd (k1.trans (h.1 i hi)) k2
    · exact absurd k3 (h.2 i hi)
  | some (i, c), none, k, h =>
    obtain ⟨hi, k⟩ := k
    rcases k with ⟨k1, k2, _⟩ | ⟨_, _, k3, _⟩
    · exact absurd (k1.trans (h.1 i hi)) k2
    · exact absurd k3 (h.2 i hi)
  | some (i, c), some (j, d), h, k =>
    obtain ⟨hi, h⟩ := h
    obtain ⟨hj, k⟩ := k
    rcases h with ⟨h1, h2, h3⟩ | ⟨h1, h2, h3, h4⟩
    · rcases k with ⟨k1, k2, k3⟩ | ⟨k1, k2, k3, k4⟩
      · have e : i = j := by
          rcases Nat.lt_trichotomy i j with h | h | h
          · exact absurd (h1.trans (k3 i h)) h2
          · exact h
          · exact absurd (k1.trans (h3 j h)) k2
        subst e
        rw [h1, k1]
      · exact absurd (h1.trans (k2 i hi)) h2
    · rcases k with ⟨k1, k2, k3⟩ | ⟨k1, k2, k3, k4⟩
      · exact absurd (k1.trans (h2 j hj)) k2
      · have e : i = j := by
          rcases Nat.lt_trichotomy i j with h | h | h
          · exact absurd h3 (k4 i h)
          · exact h
          · exact absurd k3 (h4 j h)
        subst e
        rw [h1, k1]
/-- The labels' numbers, row behind row. -/
noncomputable def labsOf (L : List (List Int)) : List Value := L.flatMap (fun x => nums .i64 (openOf x).1)
theorem nums_six (x : List Int) : (nums .i64 (openOf x).1).length = 6 := by
  obtain ⟨n0, n1, n2, n3, n4, n5, h⟩ := openOf_six x
  rw [h]
  rfl
theorem labs_at : ∀ (L : List (List Int)) (i : Nat) (hi : i < L.length) (j : Nat), j < 6 → (labsOf L)[i * 6 + j]? = (nums .i64 (openOf L[i]).1)[j]?
  | x :: L, 0, _, j, hj => by
    unfold labsOf
    rw [List.flatMap_cons, Nat.zero_mul, Nat.zero_add, List.getElem?_append_left (by rw [nums_six]; exact hj)]
    rfl
  | x :: L, i + 1, hi, j, hj => by
    have := labs_at L i (Nat.lt_of_succ_lt_succ hi) j hj
    unfold labsOf at this ⊢
    rw [List.flatMap_cons, List.getElem?_append_right (by rw [nums_six]; omega), nums_six, show (i + 1) * 6 + j - 6 = i * 6 + j by omega, this]
    rfl
theorem labs_snoc (L : List (List Int)) (x : List Int) : labsOf (L ++ [x]) = labsOf L ++ nums .i64 (openOf x).1 := by
  unfold labsOf
  rw [List.flatMap_append, List.flatMap_singleton]
theorem own_apart {w : World} {B1 B2 e1 e2 s1 s2 n1 n2 : Nat} {v1 v2 : Value} {c1 c2 : List Value} (h1 : w.ownsRow B1 e1 s1 v1 n1 c1) (h2 : w.ownsRow B2 e2 s2 v2 n2 c2) (hne : e1 ≠ e2) {q : Nat} (k1 : v1.ownBlock = some q) (k2 : v2.ownBlock = some q) : False := by
  rcases h1.2 with ⟨e, _⟩ | ⟨g, cap, cur, e, _, hh, _⟩
  · rw [e] at k1; cases k1
  · rcases h2.2 with ⟨e', _⟩ | ⟨g', cap', cur', e', _, hh', _⟩
    · rw [e'] at k2; cases k2
    · rw [e] at k1
      rw [e'] at k2
      cases k1
      cases k2
      rw [hh] at hh'
      injection hh' with hh'
      injection hh' with _ hh' _
      exact hne hh'
theorem own_below {w w' : World} {B e s n : Nat} {v : Value} {xs : List Value} (h : w.ownsRow B e s v n xs) (hb : Below w.heap.size w w') : w'.ownsRow B e s v n xs := own_stays h fun q hq => hb.block q (own_lt h q hq)
theorem own_grown' {w w' : World} {B1 B2 e1 e2 s1 s2 n1 n2 : Nat} {v1 v2 : Value} {c1 c2 : List Value} (h1 : w.ownsRow B1 e1 s1 v1 n1 c1) (h2 : w.ownsRow B2 e2 s2 v2 n2 c2) (hne : e1 ≠ e2) (hg : w.grownBy w' v1.ownBlock) : w'.ownsRow B2 e2 s2 v2 n2 c2 :=
  own_stays h2 fun q hq => hg.block q (own_lt h2 q hq) (fun e => own_apart h1 h2 hne e.symm hq)
theorem arrInfo : (Tryd.prog.info? 35).map (fun i => (i.zero, i.size, i.bytes)) = some (some (.agg #[.int .i64 0, .int .i64 0, .int .i64 0, .int .i64 0, .int .i64 0, .int .i64 0]), 6, 48) := by kernel_rfl
section
variable {P : Program} {ops : Array Oper} {rest : List Oper} {o : Oper} {a : Act} {Q : Exit → Act → World → Prop}
/-- append of one value of some cells to a row of the call's own. -/
theorem wpList_app_agg (W : World) (hgd : o.guard = none) (s x : Operand) (t : TypeId) (ho : o.op = .call { callee := .builtin .append, args := #[s, x], argTypes := #[t, t] })
    (base e : TypeId) (z : Value) (size by_ : Nat) (ht : P.underlying t = some (.slice e)) (hinfo : (P.info? e).map (fun i => (i.zero, i.size, i.bytes)) = some (some z, size, by_)) (hz : z.cells.size = size) (hpos : 0 < size)
    (v : Value) (n : Nat) (cs : List Value) (hs : a.eval s = v) (hown : W.ownsRow base e size v n cs) (us : List Value) (hus : us.length = size) (hx : a.eval x = .slice (some ⟨W.heap.size, 0, none⟩) 1 1) (hu : ∀ u ∈ us, u.oneCell' = true) (hlen : (n + 1) * by_ ≤ 140737488355328) (hlen2 : n + 1 ≤ 140737488355328) (hbase : base ≤ W.heap.size)
    (h : ∀ v' w', w'.ownsRow base e size v' (n + 1) (cs ++ us) → (W.alloc (.cells us.toArray e)).grownBy w' v.ownBlock → wpList P ops Q rest (a.put o.dst v') w') : wpList P ops Q (o :: rest) a (W.alloc (.cells us.toArray e)) := by
  obtain ⟨i0, hi, hz0, hz1, hz2⟩ := info_parts hinfo
  exact wpList_append_own_at (W.alloc (.cells us.toArray e)) hgd s x t ho base e i0 z size by_ ht hi hz0 hz1 hz2 hz hpos v n cs hs (own_stays hown (fun q hq => Below.heap_alloc W _ q (own_lt hown q hq))) ⟨W.heap.size, 0, none⟩ 1 1 us hx (by rw [hus, Nat.one_mul]) (fun j u hj => by
      rw [Addr.add_mid, Nat.zero_add, cell_of_row _ _ _ _ _ _ (heap_alloc_new W _)]
      simpa using hj)
    hu (by simp only [maxLen]; omega) hlen (Nat.le_trans hbase (by simp)) (fun v' w' h1 h2 _ _ => h v' w' h1 h2)
end
theorem results_tmp4 {fn : Func} {t u v x : Tmp} (h : fn.results = #[.tmp t, .tmp u, .tmp v, .tmp x]) (tmps : Array Value) (P : Program) (w : World) :
    (results fn tmps).run P w = .ok (.tuple #[tmps.getD t undef, tmps.getD u undef, tmps.getD v undef, tmps.getD x undef]) w := by
  simp [results, h]
/-- What the document's Set hands back. -/
def RSPost (w : World) (L : List (List Int)) (e : Ending) (w' : World) : Prop :=
  ((∃ i code, SetIs L (some (i, code)) ∧ e = .returned (.tuple #[.slice none 0 0, .slice none 0 0, .int .i64 (i : Nat), .int .i64 code])) ∨
    (SetIs L none ∧ ∃ lv pv cs, e = .returned (.tuple #[lv, pv, .int .i64 0, .int .i64 0]) ∧ w'.ownsRow w.heap.size 35 6 lv L.length (labsOf L) ∧ w'.ownsRow w.heap.size 22 1 pv L.length cs ∧ PR w cs (L.map partOf))) ∧ Below w.heap.size w w'
def S1 (w : World) (L : List (List Int)) (n : Nat) (v6 v7 v8 : Value) (wr : World) : Prop := ∃ (i : Nat) (cs : List Value), v8 = .int .i64 i ∧ n + i = L.length ∧ wr.ownsRow w.heap.size 35 6 v6 i (labsOf (L.take i)) ∧ wr.ownsRow w.heap.size 22 1 v7 i cs ∧ PR w cs ((L.take i).map partOf) ∧ (∀ j, j < i → codeAt L j = 0) ∧ Below w.heap.size w wr
def S2 (w wb : World) (L : List (List Int)) (n : Nat) (v12 : Value) (wr : World) : Prop := ∃ (i : Nat), v12 = .int .i64 i ∧ n + i = L.length ∧ (∀ j, j < i → ¬ Bad L j) ∧ Below wb.heap.size wb wr
def S3 (wo : World) (L : List (List Int)) (i : Nat) (n : Nat) (v15 : Value) (wr : World) : Prop := ∃ (k : Nat), v15 = .int .i64 k ∧ n + k = i ∧ (∀ j, j < k → ¬ (labN L j 0 = labN L i 0 ∧ L.getD j [] ≠ L.getD i [])) ∧ Below wo.heap.size wo wr
def CutL (wr : World) (xs fs : List Int) (s13 s14 : Value) (wx : World) : Prop := ∃ p q, s13 = .pointer (some ⟨p, 0, none⟩) ∧ s14 = .pointer (some ⟨q, 0, none⟩) ∧ RLabAt wx p xs ∧ RLabAt wx q fs ∧ Below wr.heap.size wr wx
set_option maxHeartbeats 16000000 in
set_option maxRecDepth 100000 in
theorem rset_calls (A : Option Addr) (c : Nat) (L : List (List Int)) (w : World) (hR : RowsB w A c L) (hlen : L.length ≤ 100) (hbt : ∀ x ∈ L, ∀ z ∈ x, 0 ≤ z ∧ z ≤ 255) (hsz : ∀ x ∈ L, x.length ≤ 100000) : Calls Tryd.prog 15 #[.slice A L.length c] w (RSPost w L) := by
  have HR := Aside0.mk hR
  have HBT := Aside0.mk hbt
  have HSZ := Aside0.mk hsz
  obtain ⟨n, hn⟩ : ∃ n, n = L.length := ⟨_, rfl⟩
  have HN := Aside0.mk hn
  rw [← hn] at hlen ⊢
  clear hR hbt hsz hn
  go_enter Tryd.func15, Tryd.ntmps15
  go_wp2_with fail
  go_loopg [6, 7, 8] n (fun n' v6 v7 v8 wr => S1 w L n' v6 v7 v8 wr)
  case atStart => exact ⟨0, [], rfl, by rw [← HN.out]; rfl, ⟨rfl, .inl ⟨rfl, rfl⟩⟩, ⟨rfl, .inl ⟨rfl, rfl⟩⟩, ⟨rfl, fun r hr => absurd hr (Nat.not_lt_zero _)⟩, fun j hj => absurd hj (Nat.not_lt_zero _), Below.refl _ _⟩
  case round =>
    obtain ⟨i, cs, rfl, hni, hO6, hO7, hPR, hcd, hB⟩ := hrel
    rw [← HN.out] at hni
    have HNI := Aside0.mk hni
    have HO6 := Aside0.mk hO6
    have HO7 := Aside0.mk hO7
    have HPR := Aside0.mk hPR
    have HCD := Aside0.mk hcd
    have HB := Aside0.mk hB
    clear hni hO6 hO7 hPR hcd hB
    by_cases hlt : i < n
    · have hiL : i < L.length := by rw [← HN.out]; exact hlt
      obtain ⟨al, Ar, Cr, hA, hcl, hlc, hCr⟩ := HR.out.at_ i hiL
      obtain ⟨x, hx⟩ : ∃ x, x = L[i] := ⟨_, rfl⟩
      have hxm : x ∈ L := by rw [hx]; exact List.getElem_mem hiL
      have HXD := Aside0.mk (show L.getD i [] = x by rw [List.getD_eq_getElem?_getD, List.getElem?_eq_getElem hiL, hx]; rfl)
      have HTk := Aside0.mk (show L.take (i + 1) = L.take i ++ [x] by rw [List.take_succ_eq_append_getElem hiL, hx])
      rw [← hx] at hcl hlc hCr
      have hcl := pw_cell_below HB.out hcl
      have HCr := Aside0.mk hCr
      have HOp := Aside0.mk (ropen_calls Ar x.length Cr x wr (Kd.C_below hCr HB.out) hlc (HBT.out x hxm) (HSZ.out x hxm))
      obtain ⟨n0, n1, n2, n3, n4, n5, h6⟩ := openOf_six x
      have H6 := Aside0.mk h6
      obtain ⟨cd, hcd⟩ : ∃ cd, cd = (openOf x).2.2 := ⟨_, rfl⟩
      have HCDX := Aside0.mk hcd
      obtain ⟨pt, hpt⟩ : ∃ pt, pt = (openOf x).2.1 := ⟨_, rfl⟩
      have HPT := Aside0.mk hpt
      subst hA
      clear hx hxm hCr h6 hcd hpt
      go_wp2_with fail
      refine HOp.out.mono ?_
      clear HOp
      rintro e w2 ⟨A1, c1, rfl, hl1, hC1, hb2⟩
      rw [← HPT.out] at hl1 hC1
      have HC1 := Aside0.mk (hC1 w HCr.out)
      have HL1 := Aside0.mk hl1
      rw [H6.out, ← HCDX.out, ← HPT.out, show (nums .i64 [n0, n1, n2, n3, n4, n5]).toArray = #[.int .i64 n0, .int .i64 n1, .int .i64 n2, .int .i64 n3, .int .i64 n4, .int .i64 n5] from rfl]
      have hb3 := hb2.trans ((Below.refl w2.heap.size w2).alloc (Nat.le_refl _) (.cells #[.int .i64 n0, .int .i64 n1, .int .i64 n2, .int .i64 n3, .int .i64 n4, .int .i64 n5] 35) |>.mono hb2.size)
      have HX3 := Aside0.mk (show RLabAt (w2.alloc (.cells #[.int .i64 n0, .int .i64 n1, .int .i64 n2, .int .i64 n3, .int .i64 n4, .int .i64 n5] 35)) w2.heap.size [n0, n1, n2, n3, n4, n5] from heap_alloc_new w2 _)
      have HO63 := Aside0.mk (own_below HO6.out hb3)
      have HO73 := Aside0.mk (own_below HO7.out hb3)
      have HB3 := Aside0.mk (HB.out.trans (hb3.mono HB.out.size))
      clear hb2 hb3 hl1 hC1 HO6 HO7
      by_cases hc0 : cd = 0
      · have HCZ := Aside0.mk (show ∀ j, j < i + 1 → codeAt L j = 0 by
          intro j hj
          rcases Nat.lt_succ_iff_lt_or_eq.1 hj with h | h
          · exact HCD.out j h
          · subst h
            unfold codeAt
            rw [HXD.out, ← HCDX.out, hc0])
        subst hc0
        obtain ⟨g1, rfl⟩ : ∃ g1, gk = g1 + 1 := ⟨gk - 1, by have := HNI.out; omega⟩
        go_upto_region 9 with (fail)
        generalize w2.alloc (.cells #[.int .i64 n0, .int .i64 n1, .int .i64 n2, .int .i64 n3, .int .i64 n4, .int .i64 n5] 35) = w3 at HX3 HO63 HO73 HB3 ⊢
        generalize w2.heap.size = X at HX3 ⊢
        go_upto_region 10 with (first | (refine wpList_load_row rfl 35 (.tmp 9) rfl X rfl 35 #[.int .i64 n0, .int .i64 n1, .int .i64 n2, .int .i64 n3, .int .i64 n4, .int .i64 n5] (0, 0) _ HX3.out Tryd.underlying35 rfl (by kernel_rfl) ?_) | (at_builtin; refine wpList_app_agg w3 rfl (.tmp 35) (.tmp 37) 42 rfl w.heap.size 35 _ 6 48 Tryd.underlying42 arrInfo rfl (by decide) u6 i _ rfl HO63.out [.int .i64 n0, .int .i64 n1, .int .i64 n2, .int .i64 n3, .int .i64 n4, .int .i64 n5] rfl rfl (by intro u hu; simp only [List.mem_cons, List.not_mem_nil, or_false] at hu; rcases hu with rfl | rfl | rfl | rfl | rfl | rfl <;> rfl) (by omega) (by omega) HB3.out.size ?_; intro v38 w4 hown4 hgrow4))
        have hB4 := (HB3.out.alloc HB3.out.size _).grown hgrow4 (Nat.le_trans HB3.out.size (by simp)) (own_base HO63.out)
        have HB4 := Aside0.mk hB4
        have HO64 := Aside0.mk (show w4.ownsRow w.heap.size 35 6 v38 (i + 1) (labsOf (L.take (i + 1))) by rw [HTk.out, labs_snoc, H6.out]; exact hown4)
        have HO74 := Aside0.mk (own_grown' (HO63.out.alloc _) (HO73.out.alloc _) (by decide) hgrow4)
        clear hown4 hgrow4 hB4 HO63 HO73 HX3
        go_wp2_with (first | (at_builtin; refine wpList_app_one w4 rfl (.tmp 39) (.tmp 41) 24 rfl w.heap.size 22 (.slice none 0 0) 24 Tryd.underlying24 sliceInfo rfl u7 i cs rfl HO74.out _ rfl rfl (by omega) (by omega) HB4.out.size ?_; intro v42 w5 hown5 hgrow5))
        have HB5 := Aside0.mk ((HB4.out.alloc HB4.out.size _).grown hgrow5 (Nat.le_trans HB4.out.size (by simp)) (own_base HO74.out))
        have HO75 := Aside0.mk hown5
        have HO65 := Aside0.mk (own_grown' (HO74.out.alloc _) (HO64.out.alloc _) (by decide) hgrow5)
        have HPR5 := Aside0.mk (show PR w (cs ++ [.slice A1 pt.length c1]) ((L.take (i + 1)).map partOf) by
          rw [HTk.out, List.map_append, List.map_singleton, show partOf x = pt from HPT.out.symm]
          exact HPR.out.snoc A1 c1 pt HL1.out HC1.out)
        clear hown5 hgrow5
        go_roundg g1
        case measure => exact Nat.lt_succ_self _
        case rel => exact ⟨i + 1, _, by go_num, by rw [← HN.out]; have := HNI.out; omega, HO65.out, HO75.out, HPR5.out, HCZ.out, HB5.out⟩
      · have hcn : (cd != 0) = true := by simpa using hc0
        have HSI := Aside0.mk (show SetIs L (some (i, cd)) from ⟨hiL, .inl ⟨by unfold codeAt; rw [HXD.out, ← HCDX.out], hc0, HCD.out⟩⟩)
        clear hc0
        go_wp2_with fail
        (try simp only [Exit.inBlock, Exit.then])
        refine bodyPost_ret (results_tmp4 rfl _ _ _) rfl ?_
        exact ⟨.inl ⟨i, cd, HSI.out, rfl⟩, HB3.out⟩
    · obtain ⟨rfl, rfl⟩ : gk = 0 ∧ i = n := by have := HNI.out; omega
      have htk : L.take i = L := List.take_of_length_le (by rw [← HN.out]; exact Nat.le_refl _)
      have HL6 := Aside0.mk (show wr.ownsRow w.heap.size 35 6 u6 i (labsOf L) by have := HO6.out; rw [htk] at this; exact this)
      have HPL := Aside0.mk (show PR w cs (L.map partOf) by have := HPR.out; rw [htk] at this; exact this)
      have HCZ := Aside0.mk (show ∀ j, j < L.length → codeAt L j = 0 by rw [← HN.out]; exact HCD.out)
      obtain ⟨wb, hwb⟩ : ∃ wb, wb = wr := ⟨_, rfl⟩
      subst hwb
      clear HO6 HPR HCD htk hlt HNI
      obtain ⟨n, hnn⟩ : ∃ n, n = i := ⟨_, rfl⟩
      subst hnn
      go_wp2_with fail
      go_loopg [12] n (fun n' v12 wr => S2 w wb L n' v12 wr)
      case atStart => exact ⟨0, rfl, by rw [← HN.out]; rfl, fun j hj => absurd hj (Nat.not_lt_zero _), Below.refl _ _⟩
      case round =>
        obtain ⟨i, rfl, hni, hnb, hB2⟩ := hrel
        rw [← HN.out] at hni
        have HNI := Aside0.mk hni
        have HNB := Aside0.mk hnb
        have HB2 := Aside0.mk hB2
        have HBw := Aside0.mk (HB.out.trans (hB2.mono HB.out.size))
        clear hni hnb hB2
        by_cases hlt : i < n
        · have hiL : i < L.length := by rw [← HN.out]; exact hlt
          have h0L : 0 < L.length := by omega
          have h0n : 0 < n := by omega
          obtain ⟨gl, capl, e6⟩ : ∃ g cap, u6 = .slice (some ⟨g, 0, none⟩) n cap := by
            rcases HL6.out.2 with ⟨_, h0⟩ | ⟨g, cap, _, h0, _⟩
            · omega
            · exact ⟨g, cap, h0⟩
          subst e6
          obtain ⟨x0, x1, x2, x3, x4, x5, hx6⟩ := openOf_six (L.getD i [])
          obtain ⟨f0, f1, f2, f3, f4, f5, hf6⟩ := openOf_six (L.getD 0 [])
          have HX6 := Aside0.mk hx6
          have HF6 := Aside0.mk hf6
          have hcat : ∀ r, ∀ hr : r < L.length, ∀ W, Below wb.heap.size wb W → W.rangeAt gl (r * 6) (nums .i64 (openOf (L.getD r [])).1) := by
            intro r hr W hW j v hj
            have hj6 : j < 6 := by
              have := (List.getElem?_eq_some_iff.1 hj).1
              rwa [nums_six] at this
            have h1 := HL6.out.cellAt (r * 6 + j) (by rw [HN.out]; omega)
            rw [labs_at L r hr j hj6, show L[r] = L.getD r [] by rw [List.getD_eq_getElem?_getD, List.getElem?_eq_getElem hr]; rfl, hj] at h1
            exact pw_cell_below hW h1
          have HCAT := Aside0.mk hcat
          have hri := hcat i hiL wr HB2.out
          have hr0 := hcat 0 h0L wr HB2.out
          rw [hx6] at hri
          rw [hf6, Nat.zero_mul] at hr0
          have HRI := Aside0.mk hri
          have HR0 := Aside0.mk hr0
          have HXF := Aside0.mk (show i = 0 → [x0, x1, x2, x3, x4, x5] = [f0, f1, f2, f3, f4, f5] from fun h => by rw [← hx6, ← hf6, h])
          have HKP := Aside0.mk (show ∀ W : World, Below wr.heap.size wr W → (Hid (Below wr.heap.size wr W) ∧ W.rangeAt gl (i * 6) (nums .i64 [x0, x1, x2, x3, x4, x5]) ∧ W.rangeAt gl 0 (nums .i64 [f0, f1, f2, f3, f4, f5])) from fun W hW => by
            have h1 := HCAT.out i hiL W (HB2.out.trans (hW.mono HB2.out.size))
            have h2 := HCAT.out 0 h0L W (HB2.out.trans (hW.mono HB2.out.size))
            rw [HX6.out] at h1
            rw [HF6.out, Nat.zero_mul] at h2
            exact ⟨Lib.hid hW, h1, h2⟩)
          clear hx6 hf6 hcat hri hr0
          go_upto_region 14 with (fail)
          go_cut [13, 14] from 43 to 101 (fun s13 s14 wx => CutL wr [x0, x1, x2, x3, x4, x5] [f0, f1, f2, f3, f4, f5] s13 s14 wx)
          case first =>
            refine wp_region_held_drew (S := (fun W : World => Hid (Below wr.heap.size wr W) ∧ W.rangeAt gl (i * 6) (nums .i64 [x0, x1, x2, x3, x4, x5]) ∧ W.rangeAt gl 0 (nums .i64 [f0, f1, f2, f3, f4, f5]))) (by kernel_rfl) ?_ (fun hHeld => ?_)
            · exact ⟨Lib.hid (Below.refl wr.heap.size wr).drew, HRI.out, HR0.out⟩
            refine wpAnyH_take (i := 0) (v := ?_) rfl (by kernel_rfl) (by kernel_rfl) (by kernel_rfl) (fun _ _ _ h => h) (Or.inl ⟨by rfl, ?_⟩) (by assumption) ?_; rotate_left; focus (intro w hSw; (try dsimp only at hSw); simp only [List.getElem_toArray, List.getElem_cons_succ, List.getElem_cons_zero]; go_simp; (try (with_reducible rfl)))
            simp only [List.getElem_toArray, List.getElem_cons_succ, List.getElem_cons_zero, Act.put, List.setIfInBounds_toArray, List.set_cons_zero, List.set_cons_succ]
            refine wpAnyH_take (i := 1) (v := ?_) rfl (by kernel_rfl) (by kernel_rfl) (by kernel_rfl) (fun _ _ _ h => h) (Or.inl ⟨by rfl, ?_⟩) (by assumption) ?_; rotate_left; focus (intro w hSw; (try dsimp only at hSw); simp only [List.getElem_toArray, List.getElem_cons_succ, List.getElem_cons_zero]; go_simp; (try (with_reducible rfl)))
            simp only [List.getElem_toArray, List.getElem_cons_succ, List.getElem_cons_zero, Act.put, List.setIfInBounds_toArray, List.set_cons_zero, List.set_cons_succ]
            refine wpAnyH_take (i := 2) (v := ?_) rfl (by kernel_rfl) (by kernel_rfl) (by kernel_rfl) (fun _ _ _ h => h) (Or.inl ⟨by rfl, ?_⟩) (by assumption) ?_; rotate_left; focus (intro w hSw; (try dsimp only at hSw); simp only [List.getElem_toArray, List.getElem_cons_succ, List.getElem_cons_zero]; go_simp; (try (with_reducible rfl)))
            simp only [List.getElem_toArray, List.getElem_cons_succ, List.getElem_cons_zero, Act.put, List.setIfInBounds_toArray, List.set_cons_zero, List.set_cons_succ]
            refine wpAnyH_take (i := 3) (v := .agg (nums .i64 [x0, x1, x2, x3, x4, x5]).toArray) rfl (by kernel_rfl) (by kernel_rfl) (by kernel_rfl) (fun _ _ _ h => h) ?_ (by assumption) ?_
            · exact yieldsIf_load_mid (by rfl) 35 (.tmp 51) rfl gl (i * 6) (by rfl) (nums .i64 [x0, x1, x2, x3, x4, x5]) _ (fun W hW => hW.2.1) Tryd.underlying35 rfl (by kernel_rfl)
            simp only [List.getElem_toArray, List.getElem_cons_succ, List.getElem_cons_zero, Act.put, List.setIfInBounds_toArray, List.set_cons_zero, List.set_cons_succ]
            refine wpAnyH_take (i := 4) (v := ?_) rfl (by kernel_rfl) (by kernel_rfl) (by kernel_rfl) (fun _ _ _ h => h) (Or.inl ⟨by rfl, ?_⟩) (by assumption) ?_; rotate_left; focus (intro w hSw; (try dsimp only at hSw); simp only [List.getElem_toArray, List.getElem_cons_succ, List.getElem_cons_zero]; go_simp; (try (with_reducible rfl)))
            simp only [List.getElem_toArray, List.getElem_cons_succ, List.getElem_cons_zero, Act.put, List.setIfInBounds_toArray, List.set_cons_zero, List.set_cons_succ]
            refine wpAnyH_take (i := 5) (v := ?_) rfl (by kernel_rfl) (by kernel_rfl) (by kernel_rfl) (fun _ _ _ h => h) (Or.inl ⟨by rfl, ?_⟩) (by assumption) ?_; rotate_left; focus (intro w hSw; (try dsimp only at hSw); simp only [List.getElem_toArray, List.getElem_cons_succ, List.getElem_cons_zero]; go_simp; (try (with_reducible rfl)))
            simp only [List.getElem_toArray, List.getElem_cons_succ, List.getElem_cons_zero, Act.put, List.setIfInBounds_toArray, List.set_cons_zero, List.set_cons_succ]
            refine wpAnyH_take (i := 6) (v := .agg (nums .i64 [f0, f1, f2, f3, f4, f5]).toArray) rfl (by kernel_rfl) (by kernel_rfl) (by kernel_rfl) (fun _ _ _ h => h) ?_ (by assumption) ?_
            · exact yieldsIf_load_mid (by rfl) 35 (.tmp 54) rfl gl 0 (by rfl) (nums .i64 [f0, f1, f2, f3, f4, f5]) _ (fun W hW => hW.2.2) Tryd.underlying35 rfl (by kernel_rfl)
            simp only [List.getElem_toArray, List.getElem_cons_succ, List.getElem_cons_zero, Act.put, List.setIfInBounds_toArray, List.set_cons_zero, List.set_cons_succ]
            refine wpAnyH_ready (rs := [7, 8]) (by kernel_rfl) (by simp) ?_
            refine AllReadyH.cons rfl (fun K hK => ?_) (AllReadyH.cons rfl (fun K hK => ?_) (AllReadyH.nil))
            · have HB_1 := Aside0.mk ((Below.refl wr.heap.size wr).alloc (Nat.le_refl _) (.cells #[.int .i64 0, .int .i64 0, .int .i64 0, .int .i64 0, .int .i64 0, .int .i64 0] 35)).drew
              have HB_2 := Aside0.mk ((((Below.refl wr.heap.size wr).alloc (Nat.le_refl _) (.cells #[.int .i64 0, .int .i64 0, .int .i64 0, .int .i64 0, .int .i64 0, .int .i64 0] 35)).alloc (by simp) (.cells #[.int .i64 0, .int .i64 0, .int .i64 0, .int .i64 0, .int .i64 0, .int .i64 0] 35)).drew)
              have H1 := Aside0.mk (show RLabAt (wr.alloc (.cells #[.int .i64 0, .int .i64 0, .int .i64 0, .int .i64 0, .int .i64 0, .int .i64 0] 35)).drew wr.heap.size [0, 0, 0, 0, 0, 0] from heap_alloc_new wr _)
              have H12 := Aside0.mk (show RLabAt ((wr.alloc (.cells #[.int .i64 0, .int .i64 0, .int .i64 0, .int .i64 0, .int .i64 0, .int .i64 0] 35)).alloc (.cells #[.int .i64 0, .int .i64 0, .int .i64 0, .int .i64 0, .int .i64 0, .int .i64 0] 35)).drew wr.heap.size [0, 0, 0, 0, 0, 0] from (Below.heap_alloc (wr.alloc (.cells #[.int .i64 0, .int .i64 0, .int .i64 0, .int .i64 0, .int .i64 0, .int .i64 0] 35)) _ _ (by simp)).trans (heap_alloc_new wr _))
              have H2 := Aside0.mk (show RLabAt ((wr.alloc (.cells #[.int .i64 0, .int .i64 0, .int .i64 0, .int .i64 0, .int .i64 0, .int .i64 0] 35)).alloc (.cells #[.int .i64 0, .int .i64 0, .int .i64 0, .int .i64 0, .int .i64 0, .int .i64 0] 35)).drew (wr.heap.size + 1) [0, 0, 0, 0, 0, 0] by have := heap_alloc_new (wr.alloc (.cells #[.int .i64 0, .int .i64 0, .int .i64 0, .int .i64 0, .int .i64 0, .int .i64 0] 35)) (.cells #[.int .i64 0, .int .i64 0, .int .i64 0, .int .i64 0, .int .i64 0, .int .i64 0] 35); rw [World.size_alloc] at this; exact this)
              go_simp
              refine hK.out _ _ (HKP.out _ HB_1.out) (fun hHeld => ?_)
              clear hK K
              try simp only [List.getElem_toArray, List.getElem_cons_succ, List.getElem_cons_zero, Act.put, List.setIfInBounds_toArray, List.set_cons_zero, List.set_cons_succ]
              refine wpAnyH_ready (rs := [8]) (by kernel_rfl) (by simp) ?_
              refine AllReadyH.cons rfl (fun K hK => ?_) (AllReadyH.nil)
              go_simp
              refine hK.out _ _ (HKP.out _ HB_2.out) (fun hHeld => ?_)
              clear hK K
              try simp only [List.getElem_toArray, List.getElem_cons_succ, List.getElem_cons_zero, Act.put, List.setIfInBounds_toArray, List.set_cons_zero, List.set_cons_succ]
              generalize hW2 : ((wr.alloc (.cells #[.int .i64 0, .int .i64 0, .int .i64 0, .int .i64 0, .int .i64 0, .int .i64 0] 35)).alloc (.cells #[.int .i64 0, .int .i64 0, .int .i64 0, .int .i64 0, .int .i64 0, .int .i64 0] 35)).drew = W2 at HB_2 H12 H2 ⊢
              have HW2 := Aside0.mk hW2
              clear hW2
              have HB_3 := Aside0.mk (setRow_below HB_2.out (show wr.heap.size ≤ wr.heap.size by omega) #[.int .i64 x0, .int .i64 x1, .int .i64 x2, .int .i64 x3, .int .i64 x4, .int .i64 x5])
              have HP3 := Aside0.mk (show RLabAt (W2.setRow wr.heap.size #[.int .i64 x0, .int .i64 x1, .int .i64 x2, .int .i64 x3, .int .i64 x4, .int .i64 x5]) wr.heap.size [x0, x1, x2, x3, x4, x5] from setRow_heap_at _ _ _ _ 35 (0, 0) H12.out)
              have HQ3 := Aside0.mk (show RLabAt (W2.setRow wr.heap.size #[.int .i64 x0, .int .i64 x1, .int .i64 x2, .int .i64 x3, .int .i64 x4, .int .i64 x5]) (wr.heap.size + 1) [0, 0, 0, 0, 0, 0] from (But.setRow (F := fun k => k = wr.heap.size) _ _ _ rfl).heap H2.out (by omega))
              refine wpAnyH_ready (rs := [9]) (by kernel_rfl) (by simp) ?_
              refine AllReadyH.cons rfl (fun K hK => ?_) AllReadyH.nil
              rw [if_pos (by rfl)]
              refine wp_store_row 35 (.tmp 13) (.tmp 52) rfl wr.heap.size #[.int .i64 x0, .int .i64 x1, .int .i64 x2, .int .i64 x3, .int .i64 x4, .int .i64 x5] (by rfl) (by rfl) 35 _ H12.out (by kernel_rfl) rfl (six_one _ _ _ _ _ _) ?_
              refine hK.out _ _ (HKP.out _ HB_3.out) (fun hHeld => ?_)
              clear hK K
              try simp only [List.getElem_toArray, List.getElem_cons_succ, List.getElem_cons_zero, Act.put, List.setIfInBounds_toArray, List.set_cons_zero, List.set_cons_succ]
              generalize hW3 : W2.setRow wr.heap.size #[.int .i64 x0, .int .i64 x1, .int .i64 x2, .int .i64 x3, .int .i64 x4, .int .i64 x5] = W3 at HB_3 HP3 HQ3 ⊢
              have HW3 := Aside0.mk hW3
              clear hW3
              have HB_4 := Aside0.mk (setRow_below HB_3.out (show wr.heap.size ≤ (wr.heap.size + 1) by omega) #[.int .i64 f0, .int .i64 f1, .int .i64 f2, .int .i64 f3, .int .i64 f4, .int .i64 f5])
              have HQ4 := Aside0.mk (show RLabAt (W3.setRow (wr.heap.size + 1) #[.int .i64 f0, .int .i64 f1, .int .i64 f2, .int .i64 f3, .int .i64 f4, .int .i64 f5]) (wr.heap.size + 1) [f0, f1, f2, f3, f4, f5] from setRow_heap_at _ _ _ _ 35 (0, 0) HQ3.out)
              have HP4 := Aside0.mk (show RLabAt (W3.setRow (wr.heap.size + 1) #[.int .i64 f0, .int .i64 f1, .int .i64 f2, .int .i64 f3, .int .i64 f4, .int .i64 f5]) wr.heap.size [x0, x1, x2, x3, x4, x5] from (But.setRow (F := fun k => k = (wr.heap.size + 1)) _ _ _ rfl).heap HP3.out (by omega))
              refine wpAnyH_ready (rs := [10]) (by kernel_rfl) (by simp) ?_
              refine AllReadyH.cons rfl (fun K hK => ?_) AllReadyH.nil
              rw [if_pos (by rfl)]
              refine wp_store_row 35 (.tmp 14) (.tmp 55) rfl (wr.heap.size + 1) #[.int .i64 f0, .int .i64 f1, .int .i64 f2, .int .i64 f3, .int .i64 f4, .int .i64 f5] (by rfl) (by rfl) 35 _ HQ3.out (by kernel_rfl) rfl (six_one _ _ _ _ _ _) ?_
              refine hK.out _ _ (HKP.out _ HB_4.out) (fun hHeld => ?_)
              clear hK K
              try simp only [List.getElem_toArray, List.getElem_cons_succ, List.getElem_cons_zero, Act.put, List.setIfInBounds_toArray, List.set_cons_zero, List.set_cons_succ]
              refine wpAnyH_done (by kernel_rfl) ?_ _
              go_wp2_with fail
              go_meet
              exact ⟨_, _, rfl, rfl, HP4.out, HQ4.out, HB_4.out⟩
            · have HB_1 := Aside0.mk ((Below.refl wr.heap.size wr).alloc (Nat.le_refl _) (.cells #[.int .i64 0, .int .i64 0, .int .i64 0, .int .i64 0, .int .i64 0, .int .i64 0] 35)).drew
              have HB_2 := Aside0.mk ((((Below.refl wr.heap.size wr).alloc (Nat.le_refl _) (.cells #[.int .i64 0, .int .i64 0, .int .i64 0, .int .i64 0, .int .i64 0, .int .i64 0] 35)).alloc (by simp) (.cells #[.int .i64 0, .int .i64 0, .int .i64 0, .int .i64 0, .int .i64 0, .int .i64 0] 35)).drew)
              have H1 := Aside0.mk (show RLabAt (wr.alloc (.cells #[.int .i64 0, .int .i64 0, .int .i64 0, .int .i64 0, .int .i64 0, .int .i64 0] 35)).drew wr.heap.size [0, 0, 0, 0, 0, 0] from heap_alloc_new wr _)
              have H12 := Aside0.mk (show RLabAt ((wr.alloc (.cells #[.int .i64 0, .int .i64 0, .int .i64 0, .int .i64 0, .int .i64 0, .int .i64 0] 35)).alloc (.cells #[.int .i64 0, .int .i64 0, .int .i64 0, .int .i64 0, .int .i64 0, .int .i64 0] 35)).drew wr.heap.size [0, 0, 0, 0, 0, 0] from (Below.heap_alloc (wr.alloc (.cells #[.int .i64 0, .int .i64 0, .int .i64 0, .int .i64 0, .int .i64 0, .int .i64 0] 35)) _ _ (by simp)).trans (heap_alloc_new wr _))
              have H2 := Aside0.mk (show RLabAt ((wr.alloc (.cells #[.int .i64 0, .int .i64 0, .int .i64 0, .int .i64 0, .int .i64 0, .int .i64 0] 35)).alloc (.cells #[.int .i64 0, .int .i64 0, .int .i64 0, .int .i64 0, .int .i64 0, .int .i64 0] 35)).drew (wr.heap.size + 1) [0, 0, 0, 0, 0, 0] by have := heap_alloc_new (wr.alloc (.cells #[.int .i64 0, .int .i64 0, .int .i64 0, .int .i64 0, .int .i64 0, .int .i64 0] 35)) (.cells #[.int .i64 0, .int .i64 0, .int .i64 0, .int .i64 0, .int .i64 0, .int .i64 0] 35); rw [World.size_alloc] at this; exact this)
              go_simp
              refine hK.out _ _ (HKP.out _ HB_1.out) (fun hHeld => ?_)
              clear hK K
              try simp only [List.getElem_toArray, List.getElem_cons_succ, List.getElem_cons_zero, Act.put, List.setIfInBounds_toArray, List.set_cons_zero, List.set_cons_succ]
              refine wpAnyH_ready (rs := [7]) (by kernel_rfl) (by simp) ?_
              refine AllReadyH.cons rfl (fun K hK => ?_) (AllReadyH.nil)
              go_simp
              refine hK.out _ _ (HKP.out _ HB_2.out) (fun hHeld => ?_)
              clear hK K
              try simp only [List.getElem_toArray, List.getElem_cons_succ, List.getElem_cons_zero, Act.put, List.setIfInBounds_toArray, List.set_cons_zero, List.set_cons_succ]
              generalize hW2 : ((wr.alloc (.cells #[.int .i64 0, .int .i64 0, .int .i64 0, .int .i64 0, .int .i64 0, .int .i64 0] 35)).alloc (.cells #[.int .i64 0, .int .i64 0, .int .i64 0, .int .i64 0, .int .i64 0, .int .i64 0] 35)).drew = W2 at HB_2 H12 H2 ⊢
              have HW2 := Aside0.mk hW2
              clear hW2
              have HB_3 := Aside0.mk (setRow_below HB_2.out (show wr.heap.size ≤ (wr.heap.size + 1) by omega) #[.int .i64 x0, .int .i64 x1, .int .i64 x2, .int .i64 x3, .int .i64 x4, .int .i64 x5])
              have HP3 := Aside0.mk (show RLabAt (W2.setRow (wr.heap.size + 1) #[.int .i64 x0, .int .i64 x1, .int .i64 x2, .int .i64 x3, .int .i64 x4, .int .i64 x5]) (wr.heap.size + 1) [x0, x1, x2, x3, x4, x5] from setRow_heap_at _ _ _ _ 35 (0, 0) H2.out)
              have HQ3 := Aside0.mk (show RLabAt (W2.setRow (wr.heap.size + 1) #[.int .i64 x0, .int .i64 x1, .int .i64 x2, .int .i64 x3, .int .i64 x4, .int .i64 x5]) wr.heap.size [0, 0, 0, 0, 0, 0] from (But.setRow (F := fun k => k = (wr.heap.size + 1)) _ _ _ rfl).heap H12.out (by omega))
              refine wpAnyH_ready (rs := [9]) (by kernel_rfl) (by simp) ?_
              refine AllReadyH.cons rfl (fun K hK => ?_) AllReadyH.nil
              rw [if_pos (by rfl)]
              refine wp_store_row 35 (.tmp 13) (.tmp 52) rfl (wr.heap.size + 1) #[.int .i64 x0, .int .i64 x1, .int .i64 x2, .int .i64 x3, .int .i64 x4, .int .i64 x5] (by rfl) (by rfl) 35 _ H2.out (by kernel_rfl) rfl (six_one _ _ _ _ _ _) ?_
              refine hK.out _ _ (HKP.out _ HB_3.out) (fun hHeld => ?_)
              clear hK K
              try simp only [List.getElem_toArray, List.getElem_cons_succ, List.getElem_cons_zero, Act.put, List.setIfInBounds_toArray, List.set_cons_zero, List.set_cons_succ]
              generalize hW3 : W2.setRow (wr.heap.size + 1) #[.int .i64 x0, .int .i64 x1, .int .i64 x2, .int .i64 x3, .int .i64 x4, .int .i64 x5] = W3 at HB_3 HP3 HQ3 ⊢
              have HW3 := Aside0.mk hW3
              clear hW3
              have HB_4 := Aside0.mk (setRow_below HB_3.out (show wr.heap.size ≤ wr.heap.size by omega) #[.int .i64 f0, .int .i64 f1, .int .i64 f2, .int .i64 f3, .int .i64 f4, .int .i64 f5])
              have HQ4 := Aside0.mk (show RLabAt (W3.setRow wr.heap.size #[.int .i64 f0, .int .i64 f1, .int .i64 f2, .int .i64 f3, .int .i64 f4, .int .i64 f5]) wr.heap.size [f0, f1, f2, f3, f4, f5] from setRow_heap_at _ _ _ _ 35 (0, 0) HQ3.out)
              have HP4 := Aside0.mk (show RLabAt (W3.setRow wr.heap.size #[.int .i64 f0, .int .i64 f1, .int .i64 f2, .int .i64 f3, .int .i64 f4, .int .i64 f5]) (wr.heap.size + 1) [x0, x1, x2, x3, x4, x5] from (But.setRow (F := fun k => k = wr.heap.size) _ _ _ rfl).heap HP3.out (by omega))
              refine wpAnyH_ready (rs := [10]) (by kernel_rfl) (by simp) ?_
              refine AllReadyH.cons rfl (fun K hK => ?_) AllReadyH.nil
              rw [if_pos (by rfl)]
              refine wp_store_row 35 (.tmp 14) (.tmp 55) rfl wr.heap.size #[.int .i64 f0, .int .i64 f1, .int .i64 f2, .int .i64 f3, .int .i64 f4, .int .i64 f5] (by rfl) (by rfl) 35 _ HQ3.out (by kernel_rfl) rfl (six_one _ _ _ _ _ _) ?_
              refine hK.out _ _ (HKP.out _ HB_4.out) (fun hHeld => ?_)
              clear hK K
              try simp only [List.getElem_toArray, List.getElem_cons_succ, List.getElem_cons_zero, Act.put, List.setIfInBounds_toArray, List.set_cons_zero, List.set_cons_succ]
              refine wpAnyH_done (by kernel_rfl) ?_ _
              go_wp2_with fail
              go_meet
              exact ⟨_, _, rfl, rfl, HP4.out, HQ4.out, HB_4.out⟩
          case rest =>
            obtain ⟨p, q, rfl, rfl, hLx, hLf, hBx⟩ := hcut
            have HLX := Aside0.mk hLx
            have HBX := Aside0.mk (HB2.out.trans (hBx.mono HB2.out.size))
            have hx0 := rlab_cell hLx 0 (by simp)
            have hx1 := rlab_cell hLx 1 (by simp)
            have hx2 := rlab_cell hLx 2 (by simp)
            have hx4 := rlab_cell hLx 4 (by simp)
            have hf1 := rlab_cell hLf 1 (by simp)
            have hf2 := rlab_cell hLf 2 (by simp)
            have hf4 := rlab_cell hLf 4 (by simp)
            simp only [List.getElem_cons_succ, List.getElem_cons_zero] at hx0 hx1 hx2 hx4 hf1 hf2 hf4
            clear hLx hLf hBx HKP
            have HA := Aside0.mk (show (labN L i 0 = x0 ∧ labN L i 1 = x1 ∧ labN L i 2 = x2 ∧ labN L i 4 = x4) ∧ (labN L 0 1 = f1 ∧ labN L 0 2 = f2 ∧ labN L 0 4 = f4) by
              unfold labN
              rw [HX6.out, HF6.out]
              exact ⟨⟨rfl, rfl, rfl, rfl⟩, rfl, rfl, rfl⟩)
            by_cases hbad : x1 = f1 ∧ x2 = f2 ∧ x4 = f4
            · have hb1 : (x1 != f1) = false := by simp [hbad.1]
              have hb2 : (x2 != f2) = false := by simp [hbad.2.1]
              have hb4 : (x4 != f4) = false := by simp [hbad.2.2]
              have HE := Aside0.mk hbad
              clear hbad
              obtain ⟨wo, hwo⟩ : ∃ wo, wo = wc := ⟨_, rfl⟩
              subst hwo
              obtain ⟨gn, hgn⟩ : ∃ gn, gn = gk := ⟨_, rfl⟩
              subst hgn
              have HBO := Aside0.mk (HB.out.trans (HBX.out.mono HB.out.size))
              go_wp2_with fail
              clear hx1 hx2 hx4 hf1 hf2 hf4 hb1 hb2 hb4 hx0
              go_loopg [15] i (fun n' v15 wr => S3 wo L i n' v15 wr)
              case atStart => exact ⟨0, rfl, rfl, fun j hj => absurd hj (Nat.not_lt_zero _), Below.refl _ _⟩
              case round =>
                obtain ⟨k, rfl, hnk, hnb3, hB3⟩ := hrel
                have HNK := Aside0.mk hnk
                have HNB3 := Aside0.mk hnb3
                have HB3 := Aside0.mk hB3
                have HBW := Aside0.mk (HBO.out.trans (hB3.mono HBO.out.size))
                have HBB := Aside0.mk (HBX.out.trans (hB3.mono HBX.out.size))
                clear hnk hnb3 hB3
                by_cases hki : k < i
                · have hkL : k < L.length := by omega
                  obtain ⟨g1, rfl⟩ : ∃ g1, gk = g1 + 1 := ⟨gk - 1, by have := HNK.out; omega⟩
                  obtain ⟨ai, Ai, Ci, hAi, hci, hli, hCi⟩ := HR.out.at_ i hiL
                  obtain ⟨ak, Ak, Ck, hAk, hck, hlk, hCk⟩ := HR.out.at_ k hkL
                  subst hAi
                  injection hAk with hAk
                  subst hAk
                  obtain ⟨y0, y1, y2, y3, y4, y5, hy6⟩ := openOf_six (L.getD k [])
                  have hlab : wr.cell? ⟨gl, k * 6, none⟩ = some (.int .i64 y0) := by
                    have := HCAT.out k hkL wr HBB.out 0 (.int .i64 y0) (by rw [hy6]; rfl)
                    exact this
                  have hy0 : labN L k 0 = y0 := by unfold labN; rw [hy6]; rfl
                  have HY0 := Aside0.mk hy0
                  have hxc := pw_cell_below HB3.out (rlab_cell HLX.out 0 (by simp))
                  simp only [List.getElem_cons_zero] at hxc
                  have hci := pw_cell_below HBW.out hci
                  have hck := pw_cell_below HBW.out hck
                  obtain ⟨xi, hxi⟩ : ∃ x, x = L[i] := ⟨_, rfl⟩
                  obtain ⟨xk, hxk⟩ : ∃ x, x = L[k] := ⟨_, rfl⟩
                  have hmi : xi ∈ L := by rw [hxi]; exact List.getElem_mem hiL
                  have hmk : xk ∈ L := by rw [hxk]; exact List.getElem_mem hkL
                  have HDI := Aside0.mk (show L.getD i [] = xi by rw [List.getD_eq_getElem?_getD, List.getElem?_eq_getElem hiL, hxi]; rfl)
                  have HDK := Aside0.mk (show L.getD k [] = xk by rw [List.getD_eq_getElem?_getD, List.getElem?_eq_getElem hkL, hxk]; rfl)
                  rw [← hxi] at hci hli hCi
                  rw [← hxk] at hck hlk hCk
                  have HSm := Aside0.mk (fun (W : World) (hW : Below w.heap.size w W) => same_calls Ak Ai xk.length xi.length Ck Ci xk xi W (Kd.C_below hCk hW) (Kd.C_below hCi hW) hlk hli (HBT.out xk hmk) (HBT.out xi hmi))
                  clear hy6 hy0 hxi hxk hmi hmk hCi hCk hli hlk
                  have HS20 := Aside0.mk (show (fun W : World => Hid (Below wr.heap.size wr W) ∧ W.cell? ⟨gl, k * 6, none⟩ = some (.int .i64 y0) ∧ W.cell? ⟨p, 0, none⟩ = some (.int .i64 x0) ∧ W.cell? (ai.add k) = some (.slice Ak xk.length Ck) ∧ W.cell? (ai.add i) = some (.slice Ai xi.length Ci)) wr.drew from ⟨Lib.hid (Below.refl wr.heap.size wr).drew, hlab, hxc, hck, hci⟩)
                  have HK20 := Aside0.mk (show ∀ W : World, Below wr.heap.size wr W → (fun W : World => Hid (Below wr.heap.size wr W) ∧ W.cell? ⟨gl, k * 6, none⟩ = some (.int .i64 y0) ∧ W.cell? ⟨p, 0, none⟩ = some (.int .i64 x0) ∧ W.cell? (ai.add k) = some (.slice Ak xk.length Ck) ∧ W.cell? (ai.add i) = some (.slice Ai xi.length Ci)) W from fun W hW => ⟨Lib.hid hW, pw_cell_below hW hlab, pw_cell_below hW hxc, pw_cell_below hW hck, pw_cell_below hW hci⟩)
                  have HSD := Aside0.mk (HSm.out wr.drew (HBW.out.trans ((Below.refl wr.heap.size wr).drew.mono HBW.out.size)))
                  have hkn : k < n := by omega
                  clear HSm
                  by_cases hy : y0 = x0
                  · have hyb : (y0 == x0) = true := by simp [hy]
                    have HYX := Aside0.mk hy
                    clear hy
                    go_upto_region 20 with (fail)
                    refine wp_region_held_drew (S := (fun W : World => Hid (Below wr.heap.size wr W) ∧ W.cell? ⟨gl, k * 6, none⟩ = some (.int .i64 y0) ∧ W.cell? ⟨p, 0, none⟩ = some (.int .i64 x0) ∧ W.cell? (ai.add k) = some (.slice Ak xk.length Ck) ∧ W.cell? (ai.add i) = some (.slice Ai xi.length Ci))) (by kernel_rfl) ?_ (fun hHeld => ?_)
                    · exact HS20.out
                    refine wpAnyH_take (i := 0) (v := ?_) rfl (by kernel_rfl) (by kernel_rfl) (by kernel_rfl) (fun _ _ _ h => h) (Or.inl ⟨by rfl, ?_⟩) (by assumption) ?_; rotate_left; focus (intro w hSw; (try dsimp only at hSw); simp only [List.getElem_toArray, List.getElem_cons_succ, List.getElem_cons_zero]; go_simp; (try (with_reducible rfl)))
                    simp only [List.getElem_toArray, List.getElem_cons_succ, List.getElem_cons_zero, Act.put, List.setIfInBounds_toArray, List.set_cons_zero, List.set_cons_succ]
                    refine wpAnyH_take (i := 1) (v := ?_) rfl (by kernel_rfl) (by kernel_rfl) (by kernel_rfl) (fun _ _ _ h => h) (Or.inl ⟨by rfl, ?_⟩) (by assumption) ?_; rotate_left; focus (intro w hSw; (try dsimp only at hSw); simp only [List.getElem_toArray, List.getElem_cons_succ, List.getElem_cons_zero]; go_simp; (try (with_reducible rfl)))
                    simp only [List.getElem_toArray, List.getElem_cons_succ, List.getElem_cons_zero, Act.put, List.setIfInBounds_toArray, List.set_cons_zero, List.set_cons_succ]
                    refine wpAnyH_take (i := 2) (v := ?_) rfl (by kernel_rfl) (by kernel_rfl) (by kernel_rfl) (fun _ _ _ h => h) (Or.inl ⟨by rfl, ?_⟩) (by assumption) ?_; rotate_left; focus (intro w hSw; (try dsimp only at hSw); simp only [List.getElem_toArray, List.getElem_cons_succ, List.getElem_cons_zero]; go_simp; (try (with_reducible rfl)))
                    simp only [List.getElem_toArray, List.getElem_cons_succ, List.getElem_cons_zero, Act.put, List.setIfInBounds_toArray, List.set_cons_zero, List.set_cons_succ]
                    refine wpAnyH_take (i := 3) (v := ?_) rfl (by kernel_rfl) (by kernel_rfl) (by kernel_rfl) (fun _ _ _ h => h) (Or.inl ⟨by rfl, ?_⟩) (by assumption) ?_; rotate_left; focus (intro w hSw; (try dsimp only at hSw); simp only [List.getElem_toArray, List.getElem_cons_succ, List.getElem_cons_zero]; go_simp; (try (with_reducible rfl)))
                    simp only [List.getElem_toArray, List.getElem_cons_succ, List.getElem_cons_zero, Act.put, List.setIfInBounds_toArray, List.set_cons_zero, List.set_cons_succ]
                    refine wpAnyH_take (i := 4) (v := ?_) rfl (by kernel_rfl) (by kernel_rfl) (by kernel_rfl) (fun _ _ _ h => h) (Or.inl ⟨by rfl, ?_⟩) (by assumption) ?_; rotate_left; focus (intro w hSw; (try dsimp only at hSw); simp only [List.getElem_toArray, List.getElem_cons_succ, List.getElem_cons_zero]; go_simp; (try (with_reducible rfl)))
                    simp only [List.getElem_toArray, List.getElem_cons_succ, List.getElem_cons_zero, Act.put, List.setIfInBounds_toArray, List.set_cons_zero, List.set_cons_succ]
                    refine wpAnyH_take (i := 5) (v := ?_) rfl (by kernel_rfl) (by kernel_rfl) (by kernel_rfl) (fun _ _ _ h => h) (Or.inl ⟨by rfl, ?_⟩) (by assumption) ?_; rotate_left; focus (intro w hSw; (try dsimp only at hSw); simp only [List.getElem_toArray, List.getElem_cons_succ, List.getElem_cons_zero]; go_simp; (try (with_reducible rfl)))
                    simp only [List.getElem_toArray, List.getElem_cons_succ, List.getElem_cons_zero, Act.put, List.setIfInBounds_toArray, List.set_cons_zero, List.set_cons_succ]
                    refine wpAnyH_take (i := 6) (v := ?_) rfl (by kernel_rfl) (by kernel_rfl) (by kernel_rfl) (fun _ _ _ h => h) (Or.inl ⟨by rfl, ?_⟩) (by assumption) ?_; rotate_left; focus (intro w hSw; (try dsimp only at hSw); simp only [List.getElem_toArray, List.getElem_cons_succ, List.getElem_cons_zero]; go_simp; (try (with_reducible rfl)))
                    simp only [List.getElem_toArray, List.getElem_cons_succ, List.getElem_cons_zero, Act.put, List.setIfInBounds_toArray, List.set_cons_zero, List.set_cons_succ]
                    refine wpAnyH_take (i := 7) (v := ?_) rfl (by kernel_rfl) (by kernel_rfl) (by kernel_rfl) (fun _ _ _ h => h) (Or.inl ⟨by rfl, ?_⟩) (by assumption) ?_; rotate_left; focus (intro w hSw; (try dsimp only at hSw); simp only [List.getElem_toArray, List.getElem_cons_succ, List.getElem_cons_zero]; go_simp; (try (with_reducible rfl)))
                    simp only [List.getElem_toArray, List.getElem_cons_succ, List.getElem_cons_zero, Act.put, List.setIfInBounds_toArray, List.set_cons_zero, List.set_cons_succ]
                    refine wpAnyH_take (i := 8) (v := ?_) rfl (by kernel_rfl) (by kernel_rfl) (by kernel_rfl) (fun _ _ _ h => h) (Or.inl ⟨by rfl, ?_⟩) (by assumption) ?_; rotate_left; focus (intro w hSw; (try dsimp only at hSw); simp only [List.getElem_toArray, List.getElem_cons_succ, List.getElem_cons_zero]; go_simp; (try (with_reducible rfl)))
                    simp only [List.getElem_toArray, List.getElem_cons_succ, List.getElem_cons_zero, Act.put, List.setIfInBounds_toArray, List.set_cons_zero, List.set_cons_succ]
                    refine wpAnyH_take (i := 9) (v := ?_) rfl (by kernel_rfl) (by kernel_rfl) (by kernel_rfl) (fun _ _ _ h => h) (Or.inl ⟨by rfl, ?_⟩) (by assumption) ?_; rotate_left; focus (intro w hSw; (try dsimp only at hSw); simp only [List.getElem_toArray, List.getElem_cons_succ, List.getElem_cons_zero]; go_simp; (try (with_reducible rfl)))
                    simp only [List.getElem_toArray, List.getElem_cons_succ, List.getElem_cons_zero, Act.put, List.setIfInBounds_toArray, List.set_cons_zero, List.set_cons_succ]
                    refine wpAnyH_take (i := 10) (v := ?_) rfl (by kernel_rfl) (by kernel_rfl) (by kernel_rfl) (fun _ _ _ h => h) (Or.inl ⟨by rfl, ?_⟩) (by assumption) ?_; rotate_left; focus (intro w hSw; (try dsimp only at hSw); simp only [List.getElem_toArray, List.getElem_cons_succ, List.getElem_cons_zero]; go_simp; (try (with_reducible rfl)))
                    simp only [List.getElem_toArray, List.getElem_cons_succ, List.getElem_cons_zero, Act.put, List.setIfInBounds_toArray, List.set_cons_zero, List.set_cons_succ]
                    refine wpAnyH_take (i := 11) (v := ?_) rfl (by kernel_rfl) (by kernel_rfl) (by kernel_rfl) (fun _ _ _ h => h) (Or.inl ⟨by rfl, ?_⟩) (by assumption) ?_; rotate_left; focus (intro w hSw; (try dsimp only at hSw); simp only [List.getElem_toArray, List.getElem_cons_succ, List.getElem_cons_zero]; go_simp; (try (with_reducible rfl)))
                    simp only [List.getElem_toArray, List.getElem_cons_succ, List.getElem_cons_zero, Act.put, List.setIfInBounds_toArray, List.set_cons_zero, List.set_cons_succ]
                    refine wpAnyH_take (i := 12) (v := ?_) rfl (by kernel_rfl) (by kernel_rfl) (by kernel_rfl) (fun _ _ _ h => h) (Or.inl ⟨by rfl, ?_⟩) (by assumption) ?_; rotate_left; focus (intro w hSw; (try dsimp only at hSw); simp only [List.getElem_toArray, List.getElem_cons_succ, List.getElem_cons_zero]; go_simp; (try (with_reducible rfl)))
                    simp only [List.getElem_toArray, List.getElem_cons_succ, List.getElem_cons_zero, Act.put, List.setIfInBounds_toArray, List.set_cons_zero, List.set_cons_succ]
                    refine wpAnyH_take (i := 13) (v := ?_) rfl (by kernel_rfl) (by kernel_rfl) (by kernel_rfl) (fun _ _ _ h => h) (Or.inl ⟨by rfl, ?_⟩) (by assumption) ?_; rotate_left; focus (intro w hSw; (try dsimp only at hSw); simp only [List.getElem_toArray, List.getElem_cons_succ, List.getElem_cons_zero]; go_simp; (try (with_reducible rfl)))
                    simp only [List.getElem_toArray, List.getElem_cons_succ, List.getElem_cons_zero, Act.put, List.setIfInBounds_toArray, List.set_cons_zero, List.set_cons_succ]
                    refine wpAnyH_take (i := 14) (v := ?_) rfl (by kernel_rfl) (by kernel_rfl) (by kernel_rfl) (fun _ _ _ h => h) (Or.inl ⟨by rfl, ?_⟩) (by assumption) ?_; rotate_left; focus (intro w hSw; (try dsimp only at hSw); simp only [List.getElem_toArray, List.getElem_cons_succ, List.getElem_cons_zero]; go_simp; (try (with_reducible rfl)))
                    simp only [List.getElem_toArray, List.getElem_cons_succ, List.getElem_cons_zero, Act.put, List.setIfInBounds_toArray, List.set_cons_zero, List.set_cons_succ]
                    refine wpAnyH_take (i := 15) (v := ?_) rfl (by kernel_rfl) (by kernel_rfl) (by kernel_rfl) (fun _ _ _ h => h) (Or.inl ⟨by rfl, ?_⟩) (by assumption) ?_; rotate_left; focus (intro w hSw; (try dsimp only at hSw); simp only [List.getElem_toArray, List.getElem_cons_succ, List.getElem_cons_zero]; go_simp; (try (with_reducible rfl)))
                    simp only [List.getElem_toArray, List.getElem_cons_succ, List.getElem_cons_zero, Act.put, List.setIfInBounds_toArray, List.set_cons_zero, List.set_cons_succ]
                    refine wpAnyH_take (i := 16) (v := ?_) rfl (by kernel_rfl) (by kernel_rfl) (by kernel_rfl) (fun _ _ _ h => h) (Or.inl ⟨by rfl, ?_⟩) (by assumption) ?_; rotate_left; focus (intro w hSw; (try dsimp only at hSw); simp only [List.getElem_toArray, List.getElem_cons_succ, List.getElem_cons_zero]; go_simp; (try (with_reducible rfl)))
                    simp only [List.getElem_toArray, List.getElem_cons_succ, List.getElem_cons_zero, Act.put, List.setIfInBounds_toArray, List.set_cons_zero, List.set_cons_succ]
                    refine wpAnyH_ready (rs := [17]) (by kernel_rfl) (by simp) ?_
                    refine AllReadyH.cons rfl (fun K hK => ?_) AllReadyH.nil
                    go_simp
                    (with_reducible refine (HSD.out).mono ?_)
                    rintro e w8 ⟨rfl, hb8⟩
                    refine hK.out _ _ (HK20.out _ ((Below.refl wr.heap.size wr).drew.trans (hb8.mono (Below.refl wr.heap.size wr).drew.size))) (fun hHeld => ?_)
                    clear hK K
                    try simp only [List.getElem_toArray, List.getElem_cons_succ, List.getElem_cons_zero, Act.put, List.setIfInBounds_toArray, List.set_cons_zero, List.set_cons_succ]
                    have HB9 := Aside0.mk (HB3.out.trans (((Below.refl wr.heap.size wr).drew.trans (hb8.mono (Below.refl wr.heap.size wr).drew.size)).mono HB3.out.size))
                    clear hb8
                    by_cases hsame : xk = xi
                    · rw [decide_eq_true hsame]
                      refine wpAnyH_take (i := 18) (v := ?_) rfl (by kernel_rfl) (by kernel_rfl) (by kernel_rfl) (fun _ _ _ h => h) (Or.inl ⟨by rfl, ?_⟩) (by assumption) ?_; rotate_left; focus (intro w hSw; (try dsimp only at hSw); simp only [List.getElem_toArray, List.getElem_cons_succ, List.getElem_cons_zero]; go_simp; (try (with_reducible rfl)))
                      simp only [List.getElem_toArray, List.getElem_cons_succ, List.getElem_cons_zero, Act.put, List.setIfInBounds_toArray, List.set_cons_zero, List.set_cons_succ]
                      refine wpAnyH_take (i := 19) (v := ?_) rfl (by kernel_rfl) (by kernel_rfl) (by kernel_rfl) (fun _ _ _ h => h) (Or.inl ⟨by rfl, ?_⟩) (by assumption) ?_; rotate_left; focus (intro w hSw; (try dsimp only at hSw); simp only [List.getElem_toArray, List.getElem_cons_succ, List.getElem_cons_zero]; go_simp; (try (with_reducible rfl)))
                      simp only [List.getElem_toArray, List.getElem_cons_succ, List.getElem_cons_zero, Act.put, List.setIfInBounds_toArray, List.set_cons_zero, List.set_cons_succ]
                      refine wpAnyH_done (by kernel_rfl) ?_ _
                      clear hHeld
                      have HNB4 := Aside0.mk (show ∀ j, j < k + 1 → ¬ (labN L j 0 = labN L i 0 ∧ L.getD j [] ≠ L.getD i []) by
                        intro j hj
                        rcases Nat.lt_succ_iff_lt_or_eq.1 hj with h | h
                        · exact HNB3.out j h
                        · subst h
                          rw [HDK.out, HDI.out]
                          exact fun h => h.2 hsame)
                      clear hsame
                      go_wp2_with fail
                      go_roundg g1
                      case measure => exact Nat.lt_succ_self _
                      case rel => exact ⟨k + 1, by go_num, by have := HNK.out; omega, HNB4.out, HB9.out⟩
                    · rw [decide_eq_false hsame]
                      refine wpAnyH_take (i := 18) (v := ?_) rfl (by kernel_rfl) (by kernel_rfl) (by kernel_rfl) (fun _ _ _ h => h) (Or.inl ⟨by rfl, ?_⟩) (by assumption) ?_; rotate_left; focus (intro w hSw; (try dsimp only at hSw); simp only [List.getElem_toArray, List.getElem_cons_succ, List.getElem_cons_zero]; go_simp; (try (with_reducible rfl)))
                      simp only [List.getElem_toArray, List.getElem_cons_succ, List.getElem_cons_zero, Act.put, List.setIfInBounds_toArray, List.set_cons_zero, List.set_cons_succ]
                      refine wpAnyH_take (i := 19) (v := ?_) rfl (by kernel_rfl) (by kernel_rfl) (by kernel_rfl) (fun _ _ _ h => h) (Or.inl ⟨by rfl, ?_⟩) (by assumption) ?_; rotate_left; focus (intro w hSw; (try dsimp only at hSw); simp only [List.getElem_toArray, List.getElem_cons_succ, List.getElem_cons_zero]; go_simp; (try (with_reducible rfl)))
                      simp only [List.getElem_toArray, List.getElem_cons_succ, List.getElem_cons_zero, Act.put, List.setIfInBounds_toArray, List.set_cons_zero, List.set_cons_succ]
                      refine wpAnyH_done (by kernel_rfl) ?_ _
                      clear hHeld
                      have HSI := Aside0.mk (show SetIs L (some (i, 2)) from ⟨hiL, .inr ⟨rfl, HCZ.out, .inr (.inr (.inr ⟨k, hki, by rw [HY0.out, HA.out.1.1, HYX.out], by rw [HDK.out, HDI.out]; exact hsame⟩)), HNB.out⟩⟩)
                      have HBf := Aside0.mk (HBO.out.trans (HB9.out.mono HBO.out.size))
                      clear hsame
                      go_wp2_with fail
                      (try simp only [Exit.inBlock, Exit.then])
                      refine bodyPost_ret (results_tmp4 rfl _ _ _) rfl ?_
                      exact ⟨.inl ⟨i, 2, HSI.out, rfl⟩, HBf.out⟩
                  · have hyb : (y0 == x0) = false := by simp [hy]
                    have HNB4 := Aside0.mk (show ∀ j, j < k + 1 → ¬ (labN L j 0 = labN L i 0 ∧ L.getD j [] ≠ L.getD i []) by
                      intro j hj
                      rcases Nat.lt_succ_iff_lt_or_eq.1 hj with h | h
                      · exact HNB3.out j h
                      · subst h
                        rw [HY0.out, HA.out.1.1]
                        exact fun h => hy h.1)
                    clear hy
                    go_upto_region 20 with (fail)
                    refine wp_region_held_drew (S := (fun W : World => Hid (Below wr.heap.size wr W) ∧ W.cell? ⟨gl, k * 6, none⟩ = some (.int .i64 y0) ∧ W.cell? ⟨p, 0, none⟩ = some (.int .i64 x0) ∧ W.cell? (ai.add k) = some (.slice Ak xk.length Ck) ∧ W.cell? (ai.add i) = some (.slice Ai xi.length Ci))) (by kernel_rfl) ?_ (fun hHeld => ?_)
                    · exact HS20.out
                    refine wpAnyH_take (i := 0) (v := ?_) rfl (by kernel_rfl) (by kernel_rfl) (by kernel_rfl) (fun _ _ _ h => h) (Or.inl ⟨by rfl, ?_⟩) (by assumption) ?_; rotate_left; focus (intro w hSw; (try dsimp only at hSw); simp only [List.getElem_toArray, List.getElem_cons_succ, List.getElem_cons_zero]; go_simp; (try (with_reducible rfl)))
                    simp only [List.getElem_toArray, List.getElem_cons_succ, List.getElem_cons_zero, Act.put, List.setIfInBounds_toArray, List.set_cons_zero, List.set_cons_succ]
                    refine wpAnyH_take (i := 1) (v := ?_) rfl (by kernel_rfl) (by kernel_rfl) (by kernel_rfl) (fun _ _ _ h => h) (Or.inl ⟨by rfl, ?_⟩) (by assumption) ?_; rotate_left; focus (intro w hSw; (try dsimp only at hSw); simp only [List.getElem_toArray, List.getElem_cons_succ, List.getElem_cons_zero]; go_simp; (try (with_reducible rfl)))
                    simp only [List.getElem_toArray, List.getElem_cons_succ, List.getElem_cons_zero, Act.put, List.setIfInBounds_toArray, List.set_cons_zero, List.set_cons_succ]
                    refine wpAnyH_take (i := 2) (v := ?_) rfl (by kernel_rfl) (by kernel_rfl) (by kernel_rfl) (fun _ _ _ h => h) (Or.inl ⟨by rfl, ?_⟩) (by assumption) ?_; rotate_left; focus (intro w hSw; (try dsimp only at hSw); simp only [List.getElem_toArray, List.getElem_cons_succ, List.getElem_cons_zero]; go_simp; (try (with_reducible rfl)))
                    simp only [List.getElem_toArray, List.getElem_cons_succ, List.getElem_cons_zero, Act.put, List.setIfInBounds_toArray, List.set_cons_zero, List.set_cons_succ]
                    refine wpAnyH_take (i := 3) (v := ?_) rfl (by kernel_rfl) (by kernel_rfl) (by kernel_rfl) (fun _ _ _ h => h) (Or.inl ⟨by rfl, ?_⟩) (by assumption) ?_; rotate_left; focus (intro w hSw; (try dsimp only at hSw); simp only [List.getElem_toArray, List.getElem_cons_succ, List.getElem_cons_zero]; go_simp; (try (with_reducible rfl)))
                    simp only [List.getElem_toArray, List.getElem_cons_succ, List.getElem_cons_zero, Act.put, List.setIfInBounds_toArray, List.set_cons_zero, List.set_cons_succ]
                    refine wpAnyH_take (i := 4) (v := ?_) rfl (by kernel_rfl) (by kernel_rfl) (by kernel_rfl) (fun _ _ _ h => h) (Or.inl ⟨by rfl, ?_⟩) (by assumption) ?_; rotate_left; focus (intro w hSw; (try dsimp only at hSw); simp only [List.getElem_toArray, List.getElem_cons_succ, List.getElem_cons_zero]; go_simp; (try (with_reducible rfl)))
                    simp only [List.getElem_toArray, List.getElem_cons_succ, List.getElem_cons_zero, Act.put, List.setIfInBounds_toArray, List.set_cons_zero, List.set_cons_succ]
                    refine wpAnyH_take (i := 5) (v := ?_) rfl (by kernel_rfl) (by kernel_rfl) (by kernel_rfl) (fun _ _ _ h => h) (Or.inl ⟨by rfl, ?_⟩) (by assumption) ?_; rotate_left; focus (intro w hSw; (try dsimp only at hSw); simp only [List.getElem_toArray, List.getElem_cons_succ, List.getElem_cons_zero]; go_simp; (try (with_reducible rfl)))
                    simp only [List.getElem_toArray, List.getElem_cons_succ, List.getElem_cons_zero, Act.put, List.setIfInBounds_toArray, List.set_cons_zero, List.set_cons_succ]
                    refine wpAnyH_take (i := 6) (v := ?_) rfl (by kernel_rfl) (by kernel_rfl) (by kernel_rfl) (fun _ _ _ h => h) (Or.inl ⟨by rfl, ?_⟩) (by assumption) ?_; rotate_left; focus (intro w hSw; (try dsimp only at hSw); simp only [List.getElem_toArray, List.getElem_cons_succ, List.getElem_cons_zero]; go_simp; (try (with_reducible rfl)))
                    simp only [List.getElem_toArray, List.getElem_cons_succ, List.getElem_cons_zero, Act.put, List.setIfInBounds_toArray, List.set_cons_zero, List.set_cons_succ]
                    refine wpAnyH_take (i := 7) (v := ?_) rfl (by kernel_rfl) (by kernel_rfl) (by kernel_rfl) (fun _ _ _ h => h) (Or.inl ⟨by rfl, ?_⟩) (by assumption) ?_; rotate_left; focus (intro w hSw; (try dsimp only at hSw); simp only [List.getElem_toArray, List.getElem_cons_succ, List.getElem_cons_zero]; go_simp; (try (with_reducible rfl)))
                    simp only [List.getElem_toArray, List.getElem_cons_succ, List.getElem_cons_zero, Act.put, List.setIfInBounds_toArray, List.set_cons_zero, List.set_cons_succ]
                    refine wpAnyH_take (i := 8) (v := ?_) rfl (by kernel_rfl) (by kernel_rfl) (by kernel_rfl) (fun _ _ _ h => h) (Or.inl ⟨by rfl, ?_⟩) (by assumption) ?_; rotate_left; focus (intro w hSw; (try dsimp only at hSw); simp only [List.getElem_toArray, List.getElem_cons_succ, List.getElem_cons_zero]; go_simp; (try (with_reducible rfl)))
                    simp only [List.getElem_toArray, List.getElem_cons_succ, List.getElem_cons_zero, Act.put, List.setIfInBounds_toArray, List.set_cons_zero, List.set_cons_succ]
                    refine wpAnyH_take (i := 9) (v := undef) rfl (by kernel_rfl) (by kernel_rfl) (by kernel_rfl) (fun _ _ _ h => h) (Or.inr ⟨by rfl, rfl⟩) (by assumption) ?_
                    simp only [List.getElem_toArray, List.getElem_cons_succ, List.getElem_cons_zero, Act.put, List.setIfInBounds_toArray, List.set_cons_zero, List.set_cons_succ]
                    refine wpAnyH_take (i := 10) (v := undef) rfl (by kernel_rfl) (by kernel_rfl) (by kernel_rfl) (fun _ _ _ h => h) (Or.inr ⟨by rfl, rfl⟩) (by assumption) ?_
                    simp only [List.getElem_toArray, List.getElem_cons_succ, List.getElem_cons_zero, Act.put, List.setIfInBounds_toArray, List.set_cons_zero, List.set_cons_succ]
                    refine wpAnyH_take (i := 11) (v := undef) rfl (by kernel_rfl) (by kernel_rfl) (by kernel_rfl) (fun _ _ _ h => h) (Or.inr ⟨by rfl, rfl⟩) (by assumption) ?_
                    simp only [List.getElem_toArray, List.getElem_cons_succ, List.getElem_cons_zero, Act.put, List.setIfInBounds_toArray, List.set_cons_zero, List.set_cons_succ]
                    refine wpAnyH_take (i := 12) (v := undef) rfl (by kernel_rfl) (by kernel_rfl) (by kernel_rfl) (fun _ _ _ h => h) (Or.inr ⟨by rfl, rfl⟩) (by assumption) ?_
                    simp only [List.getElem_toArray, List.getElem_cons_succ, List.getElem_cons_zero, Act.put, List.setIfInBounds_toArray, List.set_cons_zero, List.set_cons_succ]
                    refine wpAnyH_take (i := 13) (v := undef) rfl (by kernel_rfl) (by kernel_rfl) (by kernel_rfl) (fun _ _ _ h => h) (Or.inr ⟨by rfl, rfl⟩) (by assumption) ?_
                    simp only [List.getElem_toArray, List.getElem_cons_succ, List.getElem_cons_zero, Act.put, List.setIfInBounds_toArray, List.set_cons_zero, List.set_cons_succ]
                    refine wpAnyH_take (i := 14) (v := undef) rfl (by kernel_rfl) (by kernel_rfl) (by kernel_rfl) (fun _ _ _ h => h) (Or.inr ⟨by rfl, rfl⟩) (by assumption) ?_
                    simp only [List.getElem_toArray, List.getElem_cons_succ, List.getElem_cons_zero, Act.put, List.setIfInBounds_toArray, List.set_cons_zero, List.set_cons_succ]
                    refine wpAnyH_take (i := 15) (v := undef) rfl (by kernel_rfl) (by kernel_rfl) (by kernel_rfl) (fun _ _ _ h => h) (Or.inr ⟨by rfl, rfl⟩) (by assumption) ?_
                    simp only [List.getElem_toArray, List.getElem_cons_succ, List.getElem_cons_zero, Act.put, List.setIfInBounds_toArray, List.set_cons_zero, List.set_cons_succ]
                    refine wpAnyH_take (i := 16) (v := undef) rfl (by kernel_rfl) (by kernel_rfl) (by kernel_rfl) (fun _ _ _ h => h) (Or.inr ⟨by rfl, rfl⟩) (by assumption) ?_
                    simp only [List.getElem_toArray, List.getElem_cons_succ, List.getElem_cons_zero, Act.put, List.setIfInBounds_toArray, List.set_cons_zero, List.set_cons_succ]
                    refine wpAnyH_take (i := 17) (v := undef) rfl (by kernel_rfl) (by kernel_rfl) (by kernel_rfl) (fun _ _ _ h => h) (Or.inr ⟨by rfl, rfl⟩) (by assumption) ?_
                    simp only [List.getElem_toArray, List.getElem_cons_succ, List.getElem_cons_zero, Act.put, List.setIfInBounds_toArray, List.set_cons_zero, List.set_cons_succ]
                    refine wpAnyH_take (i := 18) (v := undef) rfl (by kernel_rfl) (by kernel_rfl) (by kernel_rfl) (fun _ _ _ h => h) (Or.inr ⟨by rfl, rfl⟩) (by assumption) ?_
                    simp only [List.getElem_toArray, List.getElem_cons_succ, List.getElem_cons_zero, Act.put, List.setIfInBounds_toArray, List.set_cons_zero, List.set_cons_succ]
                    refine wpAnyH_take (i := 19) (v := ?_) rfl (by kernel_rfl) (by kernel_rfl) (by kernel_rfl) (fun _ _ _ h => h) (Or.inl ⟨by rfl, ?_⟩) (by assumption) ?_; rotate_left; focus (intro w hSw; (try dsimp only at hSw); simp only [List.getElem_toArray, List.getElem_cons_succ, List.getElem_cons_zero]; go_simp; (try (with_reducible rfl)))
                    simp only [List.getElem_toArray, List.getElem_cons_succ, List.getElem_cons_zero, Act.put, List.setIfInBounds_toArray, List.set_cons_zero, List.set_cons_succ]
                    refine wpAnyH_done (by kernel_rfl) ?_ _
                    have HB9 := Aside0.mk (HB3.out.drew)
                    clear hHeld
                    go_wp2_with fail
                    go_roundg g1
                    case measure => exact Nat.lt_succ_self _
                    case rel => exact ⟨k + 1, by go_num, by have := HNK.out; omega, HNB4.out, HB9.out⟩
                · obtain ⟨rfl, rfl⟩ : gk = 0 ∧ k = i := by have := HNK.out; omega
                  have HNB5 := Aside0.mk (show ∀ j, j < k + 1 → ¬ Bad L j by
                    intro j hj
                    rcases Nat.lt_succ_iff_lt_or_eq.1 hj with h | h
                    · exact HNB.out j h
                    · subst h
                      rintro (h | h | h | ⟨m, hm, h⟩)
                      · exact h (by rw [HA.out.1.2.1, HA.out.2.1, HE.out.1])
                      · exact h (by rw [HA.out.1.2.2.1, HA.out.2.2.1, HE.out.2.1])
                      · exact h (by rw [HA.out.1.2.2.2, HA.out.2.2.2, HE.out.2.2])
                      · exact HNB3.out m hm h)
                  obtain ⟨g1, rfl⟩ : ∃ g1, gn = g1 + 1 := ⟨gn - 1, by have := HNI.out; omega⟩
                  go_wp2_with fail
                  go_roundg g1
                  case measure => exact Nat.lt_succ_self _
                  case rel => exact ⟨k + 1, by go_num, by rw [← HN.out]; have := HNI.out; omega, HNB5.out, HBB.out⟩
            · have HSI := Aside0.mk (show SetIs L (some (i, 2)) from ⟨hiL, .inr ⟨rfl, HCZ.out, by
                unfold Bad
                rw [HA.out.1.2.1, HA.out.1.2.2.1, HA.out.1.2.2.2, HA.out.2.1, HA.out.2.2.1, HA.out.2.2.2]
                by_cases h1 : x1 = f1
                · by_cases h2 : x2 = f2
                  · exact .inr (.inr (.inl fun h4 => hbad ⟨h1, h2, h4⟩))
                  · exact .inr (.inl h2)
                · exact .inl h1, HNB.out⟩⟩)
              have HBf := Aside0.mk (HB.out.trans (HBX.out.mono HB.out.size))
              by_cases h1 : x1 = f1
              · have hb1 : (x1 != f1) = false := by simp [h1]
                by_cases h2 : x2 = f2
                · have hb2 : (x2 != f2) = false := by simp [h2]
                  have hb4 : (x4 != f4) = true := by simpa using fun h4 => hbad ⟨h1, h2, h4⟩
                  clear hbad h1 h2
                  go_wp2_with fail
                  (try simp only [Exit.inBlock, Exit.then])
                  refine bodyPost_ret (results_tmp4 rfl _ _ _) rfl ?_
                  exact ⟨.inl ⟨i, 2, HSI.out, rfl⟩, HBf.out⟩
                · have hb2 : (x2 != f2) = true := by simpa using h2
                  clear hbad h1 h2
                  go_wp2_with fail
                  (try simp only [Exit.inBlock, Exit.then])
                  refine bodyPost_ret (results_tmp4 rfl _ _ _) rfl ?_
                  exact ⟨.inl ⟨i, 2, HSI.out, rfl⟩, HBf.out⟩
              · have hb1 : (x1 != f1) = true := by simpa using h1
                clear hbad h1
                go_wp2_with fail
                (try simp only [Exit.inBlock, Exit.then])
                refine bodyPost_ret (results_tmp4 rfl _ _ _) rfl ?_
                exact ⟨.inl ⟨i, 2, HSI.out, rfl⟩, HBf.out⟩
        · obtain ⟨rfl, rfl⟩ : gk = 0 ∧ i = n := by have := HNI.out; omega
          have HSI := Aside0.mk (show SetIs L none from ⟨HCZ.out, by rw [← HN.out]; exact HNB.out⟩)
          have HLf := Aside0.mk (own_below HL6.out HB2.out)
          have HPf := Aside0.mk (own_below HO7.out HB2.out)
          go_wp2_with fail
          (try simp only [Exit.inBlock, Exit.then])
          refine bodyPost_ret (results_tmp4 rfl _ _ _) rfl ?_
          exact ⟨.inr ⟨HSI.out, _, _, _, rfl, by rw [← HN.out]; exact HLf.out, by rw [← HN.out]; exact HPf.out, HPL.out⟩, HBw.out⟩
end Go.Proofs.YtkcgioggnbnfkaaDoor.RSet
