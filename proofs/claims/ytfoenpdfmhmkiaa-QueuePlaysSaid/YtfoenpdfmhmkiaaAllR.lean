/- All things of a queue, taken out: the loop, and the call. Written by wip/c12/mka.py. -/
import Derived.Test.YtfoenpdfmhmkiaaQueue
import Derived.Maps.AppendAt
import Derived.Laws.Rows
set_option linter.unusedVariables false
set_option linter.unusedSimpArgs false
namespace Go.Proofs.YtfoenpdfmhmkiaaLone
open Go.Conc Go.RowKit
def findLoop : Code → Option Code
  | .seq a b => (findLoop a).orElse fun _ => findLoop b
  | .block _ c => findLoop c
  | .loop c => some c
  | _ => none
def bodyOf (b : Option Code) : Code := (findLoop (b.getD .skip)).getD .skip
theorem own_stays {w w' : World} {B e n s : Nat} {v : Value} {xs : List Value} (h : w.ownsRow B e s v n xs) (hb : ∀ q, v.ownBlock = some q → w'.heap[q]? = w.heap[q]?) : w'.ownsRow B e s v n xs := by
  obtain ⟨h1, h2⟩ := h
  refine ⟨h1, ?_⟩
  rcases h2 with h2 | ⟨g, cap, cur, rfl, hg, hh, r⟩
  · exact .inl h2
  · exact .inr ⟨g, cap, cur, rfl, hg, (hb g rfl).trans hh, r⟩
theorem own_ge {w : World} {B e n s : Nat} {v : Value} {xs : List Value} (h : w.ownsRow B e s v n xs) (q : Nat) (hq : v.ownBlock = some q) : B ≤ q ∧ q < w.heap.size := by
  rcases h.2 with ⟨rfl, _⟩ | ⟨g, cap, cur, rfl, hg, hh, r⟩
  · cases hq
  · cases hq
    refine ⟨hg, ?_⟩
    rcases Nat.lt_or_ge g w.heap.size with h | h
    · exact h
    · rw [Array.getElem?_eq_none h] at hh; cases hh
/-- Only block c, and blocks from B on, have turned. -/
structure Only (B c : Nat) (w w' : World) : Prop where
  os : w'.os = w.os
  tape : w'.tape = w.tape
  output : w'.output = w.output
  size : w.heap.size ≤ w'.heap.size
  other : ∀ k, k < B → k ≠ c → w'.heap[k]? = w.heap[k]?
theorem Only.refl (B c : Nat) (w : World) : Only B c w w := ⟨rfl, rfl, rfl, Nat.le_refl _, fun _ _ _ => rfl⟩
theorem Only.trans {B c : Nat} {a b d : World} (h : Only B c a b) (k : Only B c b d) : Only B c a d := ⟨k.os.trans h.os, k.tape.trans h.tape, k.output.trans h.output, Nat.le_trans h.size k.size, fun i h1 h2 => (k.other i h1 h2).trans (h.other i h1 h2)⟩
theorem Only.below {B c b : Nat} {w w' : World} (h : Only B c w w') (h1 : b ≤ c) (h2 : b ≤ B) : Below b w w' := ⟨h.os, h.tape, h.output, h.size, fun k hk => h.other k (by omega) (by omega)⟩
theorem cell_block_ne {w : World} {q c : Nat} {v : Value} {cap s r : Nat} {buf : Array Value} {a b : Bool} (hq : w.cell? ⟨q, 0, none⟩ = some v) (hc : w.heap[c]? = some (.chan cap buf a s r b)) : q ≠ c := by
  rintro rfl
  simp [World.cell?, hc] at hq
theorem cell_lt {w : World} {q : Nat} {v : Value} (hq : w.cell? ⟨q, 0, none⟩ = some v) : q < w.heap.size := by
  rcases Nat.lt_or_ge q w.heap.size with h | h
  · exact h
  · simp [World.cell?, Array.getElem?_eq_none h] at hq
theorem chan_lt {w : World} {c : Nat} {o : Obj} (hc : w.heap[c]? = some o) : c < w.heap.size := by
  rcases Nat.lt_or_ge c w.heap.size with h | h
  · exact h
  · rw [Array.getElem?_eq_none h] at hc; cases hc
/-- One thing is taken off the channel, and appended. -/
theorem round_append {P : Program} (t e : TypeId) (i : TypeInfo) (z : Value) (bytes : Nat) (ht : P.underlying t = some (.slice e)) (hi : P.info? e = some i) (hz : i.zero = some z)
    (hsize : i.size = 1) (hby : i.bytes = bytes) (hzs : z.cells.size = 1) (B q c cap s r n : Nat) (w : World) (v : Value) (acc : List Value) (u : Value) (hu : u.oneCell' = true) (hcs : ∀ W : World, (W.alloc (.cells #[u] e)).cell? ⟨W.heap.size, 0, none⟩ = some u) (x : Value) (hq : w.cell? ⟨q, 0, none⟩ = some x) (buf : Array Value) (rest : List Value) (hc : w.heap[c]? = some (.chan cap buf false s r false))
    (ho : w.ownsRow B e 1 v n acc) (hcB : c < B) (hqB : q < B) (hB : B ≤ w.heap.size) (hn : n + 1 ≤ 100000) (hbb : bytes ≤ 100) :
    ∃ v' w', (Builtin.append_ #[t, t] t #[v, .slice (some ⟨(w.setChan c cap rest.toArray false s (r + 1) false).heap.size, 0, none⟩) 1 1]).run P ((w.setChan c cap rest.toArray false s (r + 1) false).alloc (.cells #[u] e)) = .ok v' w' ∧
      w'.ownsRow B e 1 v' (n + 1) (acc ++ [u]) ∧ w'.heap[c]? = some (.chan cap rest.toArray false s (r + 1) false) ∧ w'.cell? ⟨q, 0, none⟩ = some x ∧ Only B c w w' := by
  have hqc := cell_block_ne hq hc
  have hlt := chan_lt hc
  have hqlt := cell_lt hq
  have hs1 : (w.setChan c cap rest.toArray false s (r + 1) false).heap.size = w.heap.size := size_setChan _ _ _ _ _ _ _ _
  have hsame1 : ∀ k, k ≠ c → (w.setChan c cap rest.toArray false s (r + 1) false).heap[k]? = w.heap[k]? := fun k hk => by simp only [World.setChan]; rw [Array.getElem?_setIfInBounds_ne (by omega)]
  have hch1 := heap_setChan w c cap rest.toArray false s (r + 1) false hlt
  generalize hw1 : w.setChan c cap rest.toArray false s (r + 1) false = w1 at *
  have e1 : w1.os = w.os ∧ w1.tape = w.tape ∧ w1.output = w.output := by subst hw1; exact ⟨rfl, rfl, rfl⟩
  clear hw1
  have hold : ∀ k, k < w1.heap.size → (w1.alloc (.cells #[u] e)).heap[k]? = w1.heap[k]? := fun k hk => heap_alloc_old _ _ hk
  have hs2 : (w1.alloc (.cells #[u] e)).heap.size = w1.heap.size + 1 := by simp
  have hcell := hcs w1
  have e2 : (w1.alloc (.cells #[u] e)).os = w.os ∧ (w1.alloc (.cells #[u] e)).tape = w.tape ∧ (w1.alloc (.cells #[u] e)).output = w.output := e1
  generalize hw2 : w1.alloc (.cells #[u] e) = w2 at *
  clear hw2
  have ho2 : w2.ownsRow B e 1 v n acc := own_stays ho fun k hk => by
    have := own_ge ho k hk
    rw [hold k (by omega), hsame1 k (by omega)]
  obtain ⟨v', w', h1, h2, h3, _, h5⟩ := run_append_own_at w2 B t t e i z 1 bytes ht hi hz hsize hby hzs (by decide) v n acc ho2 ⟨w1.heap.size, 0, none⟩ 1 1 [u] rfl (by
      intro j y hj
      rcases j with _ | j
      · simp at hj; subst hj; simpa [Addr.add] using hcell
      · simp at hj) (by simpa using hu) (by simp only [maxLen]; omega) (by have : (n + 1) * bytes ≤ 100000 * 100 := Nat.mul_le_mul hn hbb; omega) (by omega)
  obtain ⟨g1, g2, g3, g4, g5⟩ := h3
  have hrow : ∀ k, k < B → w'.heap[k]? = w2.heap[k]? := fun k hk => g5 k (by omega) (fun h => by have := (own_ge ho2 k h.symm).1; omega)
  refine ⟨v', w', h1, h2, ?_, ?_, ⟨g1.trans e2.1, g2.trans e2.2.1, g3.trans e2.2.2, by omega, fun k hk hkc => ?_⟩⟩
  · rw [hrow c hcB, hold c (by omega), hch1]
  · rw [← hq]
    exact World.cell?_of_block (by rw [hrow q hqB, hold q (by omega), hsame1 q hqc])
  · rcases Nat.lt_or_ge k w1.heap.size with hk2 | hk2
    · rw [hrow k hk, hold k hk2, hsame1 k hkc]
    · omega
theorem run_bind_ok (m : Sem Value) (f : Value → Sem Next) (W W' : World) (u : Value) (hm : m.run Try.prog W = .ok u W') : (m.bind f).run Try.prog W = (f u).run Try.prog W' := by
  have h := Sem.run_bind' Try.prog m f W
  rw [hm] at h
  exact h

/-- What All leaves. -/
structure AllPostS (B c cap s r : Nat) (w : World) (acc : List Value) (e : Ending) (w' : World) : Prop where
  row : ∃ v', e = .returned v' ∧ w'.ownsRow B 9 1 v' acc.length acc
  chan : w'.heap[c]? = some (.chan cap #[] false s r false)
  only : Only B c w w'
set_option maxRecDepth 100000 in
set_option maxHeartbeats 1000000 in
theorem all_endS (cs : List Frame) (q c cap s r B : Nat) (w : World) (v v2 t4 t5 t6 t7 t8 t9 t10 t11 t12 t13 t14 t15 : Value) (acc : List Value) (hq : w.cell? ⟨q, 0, none⟩ = some (.chan (some c))) (hc : w.heap[c]? = some (.chan cap #[] false s r false)) (ho : w.ownsRow B 9 1 v acc.length acc) :
    LoneTo Try.prog (fun g' w' => ∃ e fr, g' = G fr cs ∧ AllPostS B c cap s r w acc e w' ∧ fr.fn = 11 ∧ fr.leaving Try.prog w' e) (G ((base 11).at ⟨#[.pointer (some ⟨q, 0, none⟩), undef, v2, v, t4, t5, t6, t7, t8, t9, t10, t11, t12, t13, t14, t15], []⟩ [.code (bodyOf Try.f11.body), .inLoop (bodyOf Try.f11.body), .inBlock 0]) cs) w := by
  have HO := Lib.hid ho
  clear ho
  refine LoneTo.goes (n := 100) ?_
  simp only [bodyOf, Try.f11, findLoop, Option.getD_some, Option.orElse]
  repeat (first | s_reg | s_op | s_c stepG_seq | s_c stepG_region_end | s_c stepG_skip | s_c stepG_block | s_cond true | s_cond false | s_exit)
  s_call Try.func22 (by kernel_rfl) Try.f22
  repeat (first | s_reg | s_op | s_c stepG_seq | s_c stepG_region_end | s_c stepG_skip | s_c stepG_block | s_cond true | s_cond false | s_exit)
  s_c stepG_ret'
  s_leave1 Try.func22
  repeat (first | s_reg | s_op | s_c stepG_seq | s_c stepG_region_end | s_c stepG_skip | s_c stepG_block | s_cond true | s_cond false | s_exit)
  s_stop
  refine LoneTo.step (step_lone_select_default (c := c) (cap := cap) (s := s) (r := r) (tm := false) (z := (.string ⟨#[]⟩)) (stepG_comm (cases := #[rcase c (.string ⟨#[]⟩)]) (blocking := false) (shape := .select) (w' := w) rfl rfl (by decide) (by simp [go_sem, execOp, rcase, Act.eval])) hc) ?_
  rw [Frame.finish_at]
  walk_nrm
  refine LoneTo.goes (n := 100) ?_
  repeat (first | s_reg | s_op | s_c stepG_seq | s_c stepG_region_end | s_c stepG_skip | s_c stepG_block | s_cond true | s_cond false | s_exit)
  s_c stepG_ret'
  s_stop
  exact LoneTo.done ⟨.returned v, _, rfl, ⟨⟨v, rfl, HO.out⟩, hc, Only.refl _ _ _⟩, rfl, rfl, rfl, rfl, _, Try.func11, by simp [results, Try.f11, Frame.at]⟩
set_option maxRecDepth 100000 in
set_option maxHeartbeats 1000000 in
theorem all_roundS (cs : List Frame) (q c cap s r : Nat) (w : World) (v v2 t4 t5 t6 t7 t8 t9 t10 t11 t12 t13 t14 t15 : Value) (x : ByteArray) (rest : List Value) (hq : w.cell? ⟨q, 0, none⟩ = some (.chan (some c))) (hc : w.heap[c]? = some (.chan cap ((.string x) :: rest).toArray false s r false)) (Q : Goroutine → World → Prop)
    (v' : Value) (w' : World) (ha : (Builtin.append_ #[22, 22] 22 #[v, .slice (some ⟨(w.setChan c cap rest.toArray false s (r + 1) false).heap.size, 0, none⟩) 1 1]).run Try.prog ((w.setChan c cap rest.toArray false s (r + 1) false).alloc (.cells #[.string x] 9)) = .ok v' w')
    (h : ∀ u4 u5 u6 u7 u8 u9 u10 u11 u12 u13 u14 u15 : Value, LoneTo Try.prog Q (G ((base 11).at ⟨#[.pointer (some ⟨q, 0, none⟩), undef, v2, v', u4, u5, u6, u7, u8, u9, u10, u11, u12, u13, u14, u15], []⟩ [.code (bodyOf Try.f11.body), .inLoop (bodyOf Try.f11.body), .inBlock 0]) cs) w') :
    LoneTo Try.prog Q (G ((base 11).at ⟨#[.pointer (some ⟨q, 0, none⟩), undef, v2, v, t4, t5, t6, t7, t8, t9, t10, t11, t12, t13, t14, t15], []⟩ [.code (bodyOf Try.f11.body), .inLoop (bodyOf Try.f11.body), .inBlock 0]) cs) w := by
  have HH := Lib.hid h
  have HA := Lib.hid ha
  clear h ha
  refine LoneTo.goes (n := 100) ?_
  simp only [bodyOf, Try.f11, findLoop, Option.getD_some, Option.orElse]
  repeat (first | s_reg | s_op | s_c stepG_seq | s_c stepG_region_end | s_c stepG_skip | s_c stepG_block | s_cond true | s_cond false | s_exit)
  s_call Try.func22 (by kernel_rfl) Try.f22
  repeat (first | s_reg | s_op | s_c stepG_seq | s_c stepG_region_end | s_c stepG_skip | s_c stepG_block | s_cond true | s_cond false | s_exit)
  s_c stepG_ret'
  s_leave1 Try.func22
  repeat (first | s_reg | s_op | s_c stepG_seq | s_c stepG_region_end | s_c stepG_skip | s_c stepG_block | s_cond true | s_cond false | s_exit)
  s_stop
  refine LoneTo.step (step_lone_select_recv_buf (c := c) (cap := cap) (buf := ((.string x) :: rest).toArray) (s := s) (r := r) (tm := false) (z := (.string ⟨#[]⟩)) (stepG_comm (cases := #[rcase c (.string ⟨#[]⟩)]) (blocking := false) (shape := .select) (w' := w) rfl rfl (by decide) (by simp [go_sem, execOp, rcase, Act.eval])) hc (by simp)) ?_
  rw [Frame.finish_at]
  walk_nrm
  refine LoneTo.goes (n := 100) ?_
  repeat (first | s_reg | s_op | s_c stepG_seq | s_c stepG_region_end | s_c stepG_skip | s_c stepG_block | s_cond true | s_cond false | s_exit)
  s_in
  refine goes_oper_k rfl rfl (by decide) (fun K hK => ?_)
  simp only [List.getElem_toArray, List.getElem_cons_succ, List.getElem_cons_zero, execOp, Act.eval, uponK]
  have ha := HA.out
  simp [resolve, invoke, builtin, Act.eval, bind, Sem.bind, pure, Sem.run]
  rw [run_bind_ok _ _ _ _ _ ha]
  simp only [Sem.run, Sem.pure]
  simp [Act.put]
  refine hK _ _ ⟨trivial, ?_⟩
  clear hK K
  repeat (first | s_reg | s_op | s_c stepG_seq | s_c stepG_region_end | s_c stepG_skip | s_c stepG_inBlock | s_c stepG_inLoop)
  have HX := HH.out (.string x) (.pointer (some ⟨q, 0, none⟩)) (.chan (some c)) (.tuple #[.int .i64 0, .bool true, .string x]) (.int .i64 0) (.bool true) t10 (.string x) v (.string x) (.slice (some ⟨(w.setChan c cap rest.toArray false s (r + 1) false).heap.size, 0, none⟩) 1 1) v'
  simp only [bodyOf, Try.f11, findLoop, Option.getD_some, Option.orElse] at HX
  s_stop
  exact HX
theorem all_loopS (cs : List Frame) (q c cap s B : Nat) (hcB : c < B) (hqB : q < B) (xs : List ByteArray) : ∀ (r : Nat) (w : World) (v v2 t4 t5 t6 t7 t8 t9 t10 t11 t12 t13 t14 t15 : Value) (acc : List Value), w.cell? ⟨q, 0, none⟩ = some (.chan (some c)) → w.heap[c]? = some (.chan cap (xs.map (Value.string)).toArray false s r false) → w.ownsRow B 9 1 v acc.length acc → B ≤ w.heap.size → acc.length + xs.length ≤ 100000 →
    LoneTo Try.prog (fun g' w' => ∃ e fr, g' = G fr cs ∧ AllPostS B c cap s (r + xs.length) w (acc ++ xs.map (Value.string)) e w' ∧ fr.fn = 11 ∧ fr.leaving Try.prog w' e) (G ((base 11).at ⟨#[.pointer (some ⟨q, 0, none⟩), undef, v2, v, t4, t5, t6, t7, t8, t9, t10, t11, t12, t13, t14, t15], []⟩ [.code (bodyOf Try.f11.body), .inLoop (bodyOf Try.f11.body), .inBlock 0]) cs) w := by
  induction xs with
  | nil =>
    intro r w v v2 t4 t5 t6 t7 t8 t9 t10 t11 t12 t13 t14 t15 acc hq hc ho hB hn
    have := all_endS cs q c cap s r B w v v2 t4 t5 t6 t7 t8 t9 t10 t11 t12 t13 t14 t15 acc hq (by simpa using hc) ho
    simpa using this
  | cons x xs ih =>
    intro r w v v2 t4 t5 t6 t7 t8 t9 t10 t11 t12 t13 t14 t15 acc hq hc ho hB hn
    simp only [List.length_cons] at hn
    have hinf : (Try.prog.info? 9).map (fun i => (i.zero.map (·.cells.size), i.size, i.bytes)) = some (some 1, 1, 16) := by kernel_rfl
    obtain ⟨i, hi, hp⟩ := Option.map_eq_some_iff.1 hinf
    injection hp with hz hp
    injection hp with hsz hby
    obtain ⟨z, hz, hzs⟩ := Option.map_eq_some_iff.1 hz
    obtain ⟨v', w', ha, ho', hc', hq', hO⟩ := round_append (P := Try.prog) 22 9 i z 16 Try.underlying22 hi hz hsz hby hzs B q c cap s r acc.length w v acc (.string x) rfl (fun W => by
      have h := heap_alloc_new W (.cells #[.string x] 9)
      simp only [World.cell?, h]
      rfl) (.chan (some c)) hq _ (xs.map (Value.string)) hc ho hcB hqB hB (by omega) (by decide)
    refine all_roundS cs q c cap s r w v v2 t4 t5 t6 t7 t8 t9 t10 t11 t12 t13 t14 t15 x (xs.map (Value.string)) hq (by simpa using hc) _ v' w' ha ?_
    intro u4 u5 u6 u7 u8 u9 u10 u11 u12 u13 u14 u15
    have hlen : acc.length + 1 = (acc ++ [Value.string x]).length := by simp
    rw [hlen] at ho'
    have h := ih (r + 1) w' v' v2 u4 u5 u6 u7 u8 u9 u10 u11 u12 u13 u14 u15 (acc ++ [Value.string x]) hq' hc' ho' (Nat.le_trans hB hO.size) (by simp; omega)
    obtain ⟨g', w3, hst, e, fr, hg, hpost, hf, hl⟩ := h
    refine ⟨g', w3, hst, e, fr, hg, ?_, hf, hl⟩
    obtain ⟨p1, p2, p3⟩ := hpost
    have e1 : acc ++ [Value.string x] ++ xs.map (Value.string) = acc ++ (x :: xs).map (Value.string) := by simp
    have e2 : r + 1 + xs.length = r + (x :: xs).length := by simp; omega
    rw [e1] at p1
    rw [e2] at p2
    exact ⟨p1, p2, hO.trans p3⟩
set_option maxRecDepth 100000 in
set_option maxHeartbeats 1000000 in
theorem allS (w : World) (q c cap s r : Nat) (xs : List ByteArray) (hq : w.cell? ⟨q, 0, none⟩ = some (.chan (some c))) (hc : w.heap[c]? = some (.chan cap (xs.map (Value.string)).toArray false s r false)) (hn : xs.length ≤ 100000) :
    Calls Try.prog 11 #[.pointer (some ⟨q, 0, none⟩)] w fun e w' => AllPostS w.heap.size c cap s (r + xs.length) w (xs.map (Value.string)) e w' := by
  refine calls_of_loneTo (hno := by rintro _ ⟨⟨_, h, _⟩, _⟩; cases h) fun cs => ?_
  have e : Frame.enter Try.prog 11 #[.pointer (some ⟨q, 0, none⟩)] .normal = (base 11).at ⟨#[.pointer (some ⟨q, 0, none⟩), undef, undef, undef, undef, undef, undef, undef, undef, undef, undef, undef, undef, undef, undef, undef], []⟩ [.code (Try.f11.body.getD .skip)] := by
    simp [Frame.enter, Frame.at, Try.func11, base, Try.f11]
  rw [e]
  have HX := Lib.hid (all_loopS cs q c cap s w.heap.size (chan_lt hc) (cell_lt hq) xs r w (.slice none 0 0) (.slice none 0 0) undef undef undef undef undef undef undef undef undef undef undef undef [] hq hc ⟨rfl, .inl ⟨rfl, rfl⟩⟩ (Nat.le_refl _) (by simpa using hn))
  clear hq hc
  refine LoneTo.goes (n := 100) ?_
  simp only [Try.f11, Option.getD_some]
  repeat (first | s_reg | s_op | s_c stepG_seq | s_c stepG_region_end | s_c stepG_skip | s_c stepG_block | s_cond true | s_cond false | s_exit)
  s_c stepG_loop
  s_stop
  have HX := HX.out
  simp only [bodyOf, Try.f11, findLoop, Option.getD_some, Option.orElse, List.nil_append] at HX
  exact HX

/-- What All leaves. -/
structure AllPostJ (B c cap s r : Nat) (w : World) (acc : List Value) (e : Ending) (w' : World) : Prop where
  row : ∃ v', e = .returned v' ∧ w'.ownsRow B 3 1 v' acc.length acc
  chan : w'.heap[c]? = some (.chan cap #[] false s r false)
  only : Only B c w w'
set_option maxRecDepth 100000 in
set_option maxHeartbeats 1000000 in
theorem all_endJ (cs : List Frame) (q c cap s r B : Nat) (w : World) (v v2 t4 t5 t6 t7 t8 t9 t10 t11 t12 t13 t14 t15 : Value) (acc : List Value) (hq : w.cell? ⟨q, 0, none⟩ = some (.chan (some c))) (hc : w.heap[c]? = some (.chan cap #[] false s r false)) (ho : w.ownsRow B 3 1 v acc.length acc) :
    LoneTo Try.prog (fun g' w' => ∃ e fr, g' = G fr cs ∧ AllPostJ B c cap s r w acc e w' ∧ fr.fn = 21 ∧ fr.leaving Try.prog w' e) (G ((base 21).at ⟨#[.pointer (some ⟨q, 0, none⟩), undef, v2, v, t4, t5, t6, t7, t8, t9, t10, t11, t12, t13, t14, t15], []⟩ [.code (bodyOf Try.f21.body), .inLoop (bodyOf Try.f21.body), .inBlock 0]) cs) w := by
  have HO := Lib.hid ho
  clear ho
  refine LoneTo.goes (n := 100) ?_
  simp only [bodyOf, Try.f21, findLoop, Option.getD_some, Option.orElse]
  repeat (first | s_reg | s_op | s_c stepG_seq | s_c stepG_region_end | s_c stepG_skip | s_c stepG_block | s_cond true | s_cond false | s_exit)
  s_call Try.func29 (by kernel_rfl) Try.f29
  repeat (first | s_reg | s_op | s_c stepG_seq | s_c stepG_region_end | s_c stepG_skip | s_c stepG_block | s_cond true | s_cond false | s_exit)
  s_c stepG_ret'
  s_leave1 Try.func29
  repeat (first | s_reg | s_op | s_c stepG_seq | s_c stepG_region_end | s_c stepG_skip | s_c stepG_block | s_cond true | s_cond false | s_exit)
  s_stop
  refine LoneTo.step (step_lone_select_default (c := c) (cap := cap) (s := s) (r := r) (tm := false) (z := (.int .i64 0)) (stepG_comm (cases := #[rcase c (.int .i64 0)]) (blocking := false) (shape := .select) (w' := w) rfl rfl (by decide) (by simp [go_sem, execOp, rcase, Act.eval])) hc) ?_
  rw [Frame.finish_at]
  walk_nrm
  refine LoneTo.goes (n := 100) ?_
  repeat (first | s_reg | s_op | s_c stepG_seq | s_c stepG_region_end | s_c stepG_skip | s_c stepG_block | s_cond true | s_cond false | s_exit)
  s_c stepG_ret'
  s_stop
  exact LoneTo.done ⟨.returned v, _, rfl, ⟨⟨v, rfl, HO.out⟩, hc, Only.refl _ _ _⟩, rfl, rfl, rfl, rfl, _, Try.func21, by simp [results, Try.f21, Frame.at]⟩
set_option maxRecDepth 100000 in
set_option maxHeartbeats 1000000 in
theorem all_roundJ (cs : List Frame) (q c cap s r : Nat) (w : World) (v v2 t4 t5 t6 t7 t8 t9 t10 t11 t12 t13 t14 t15 : Value) (x : Int) (rest : List Value) (hq : w.cell? ⟨q, 0, none⟩ = some (.chan (some c))) (hc : w.heap[c]? = some (.chan cap ((.int .i64 x) :: rest).toArray false s r false)) (Q : Goroutine → World → Prop)
    (v' : Value) (w' : World) (ha : (Builtin.append_ #[35, 35] 35 #[v, .slice (some ⟨(w.setChan c cap rest.toArray false s (r + 1) false).heap.size, 0, none⟩) 1 1]).run Try.prog ((w.setChan c cap rest.toArray false s (r + 1) false).alloc (.cells #[.int .i64 x] 3)) = .ok v' w')
    (h : ∀ u4 u5 u6 u7 u8 u9 u10 u11 u12 u13 u14 u15 : Value, LoneTo Try.prog Q (G ((base 21).at ⟨#[.pointer (some ⟨q, 0, none⟩), undef, v2, v', u4, u5, u6, u7, u8, u9, u10, u11, u12, u13, u14, u15], []⟩ [.code (bodyOf Try.f21.body), .inLoop (bodyOf Try.f21.body), .inBlock 0]) cs) w') :
    LoneTo Try.prog Q (G ((base 21).at ⟨#[.pointer (some ⟨q, 0, none⟩), undef, v2, v, t4, t5, t6, t7, t8, t9, t10, t11, t12, t13, t14, t15], []⟩ [.code (bodyOf Try.f21.body), .inLoop (bodyOf Try.f21.body), .inBlock 0]) cs) w := by
  have HH := Lib.hid h
  have HA := Lib.hid ha
  clear h ha
  refine LoneTo.goes (n := 100) ?_
  simp only [bodyOf, Try.f21, findLoop, Option.getD_some, Option.orElse]
  repeat (first | s_reg | s_op | s_c stepG_seq | s_c stepG_region_end | s_c stepG_skip | s_c stepG_block | s_cond true | s_cond false | s_exit)
  s_call Try.func29 (by kernel_rfl) Try.f29
  repeat (first | s_reg | s_op | s_c stepG_seq | s_c stepG_region_end | s_c stepG_skip | s_c stepG_block | s_cond true | s_cond false | s_exit)
  s_c stepG_ret'
  s_leave1 Try.func29
  repeat (first | s_reg | s_op | s_c stepG_seq | s_c stepG_region_end | s_c stepG_skip | s_c stepG_block | s_cond true | s_cond false | s_exit)
  s_stop
  refine LoneTo.step (step_lone_select_recv_buf (c := c) (cap := cap) (buf := ((.int .i64 x) :: rest).toArray) (s := s) (r := r) (tm := false) (z := (.int .i64 0)) (stepG_comm (cases := #[rcase c (.int .i64 0)]) (blocking := false) (shape := .select) (w' := w) rfl rfl (by decide) (by simp [go_sem, execOp, rcase, Act.eval])) hc (by simp)) ?_
  rw [Frame.finish_at]
  walk_nrm
  refine LoneTo.goes (n := 100) ?_
  repeat (first | s_reg | s_op | s_c stepG_seq | s_c stepG_region_end | s_c stepG_skip | s_c stepG_block | s_cond true | s_cond false | s_exit)
  s_in
  refine goes_oper_k rfl rfl (by decide) (fun K hK => ?_)
  simp only [List.getElem_toArray, List.getElem_cons_succ, List.getElem_cons_zero, execOp, Act.eval, uponK]
  have ha := HA.out
  simp [resolve, invoke, builtin, Act.eval, bind, Sem.bind, pure, Sem.run]
  rw [run_bind_ok _ _ _ _ _ ha]
  simp only [Sem.run, Sem.pure]
  simp [Act.put]
  refine hK _ _ ⟨trivial, ?_⟩
  clear hK K
  repeat (first | s_reg | s_op | s_c stepG_seq | s_c stepG_region_end | s_c stepG_skip | s_c stepG_inBlock | s_c stepG_inLoop)
  have HX := HH.out (.int .i64 x) (.pointer (some ⟨q, 0, none⟩)) (.chan (some c)) (.tuple #[.int .i64 0, .bool true, .int .i64 x]) (.int .i64 0) (.bool true) t10 (.int .i64 x) v (.int .i64 x) (.slice (some ⟨(w.setChan c cap rest.toArray false s (r + 1) false).heap.size, 0, none⟩) 1 1) v'
  simp only [bodyOf, Try.f21, findLoop, Option.getD_some, Option.orElse] at HX
  s_stop
  exact HX
theorem all_loopJ (cs : List Frame) (q c cap s B : Nat) (hcB : c < B) (hqB : q < B) (xs : List Int) : ∀ (r : Nat) (w : World) (v v2 t4 t5 t6 t7 t8 t9 t10 t11 t12 t13 t14 t15 : Value) (acc : List Value), w.cell? ⟨q, 0, none⟩ = some (.chan (some c)) → w.heap[c]? = some (.chan cap (xs.map (Value.int .i64)).toArray false s r false) → w.ownsRow B 3 1 v acc.length acc → B ≤ w.heap.size → acc.length + xs.length ≤ 100000 →
    LoneTo Try.prog (fun g' w' => ∃ e fr, g' = G fr cs ∧ AllPostJ B c cap s (r + xs.length) w (acc ++ xs.map (Value.int .i64)) e w' ∧ fr.fn = 21 ∧ fr.leaving Try.prog w' e) (G ((base 21).at ⟨#[.pointer (some ⟨q, 0, none⟩), undef, v2, v, t4, t5, t6, t7, t8, t9, t10, t11, t12, t13, t14, t15], []⟩ [.code (bodyOf Try.f21.body), .inLoop (bodyOf Try.f21.body), .inBlock 0]) cs) w := by
  induction xs with
  | nil =>
    intro r w v v2 t4 t5 t6 t7 t8 t9 t10 t11 t12 t13 t14 t15 acc hq hc ho hB hn
    have := all_endJ cs q c cap s r B w v v2 t4 t5 t6 t7 t8 t9 t10 t11 t12 t13 t14 t15 acc hq (by simpa using hc) ho
    simpa using this
  | cons x xs ih =>
    intro r w v v2 t4 t5 t6 t7 t8 t9 t10 t11 t12 t13 t14 t15 acc hq hc ho hB hn
    simp only [List.length_cons] at hn
    have hinf : (Try.prog.info? 3).map (fun i => (i.zero.map (·.cells.size), i.size, i.bytes)) = some (some 1, 1, 8) := by kernel_rfl
    obtain ⟨i, hi, hp⟩ := Option.map_eq_some_iff.1 hinf
    injection hp with hz hp
    injection hp with hsz hby
    obtain ⟨z, hz, hzs⟩ := Option.map_eq_some_iff.1 hz
    obtain ⟨v', w', ha, ho', hc', hq', hO⟩ := round_append (P := Try.prog) 35 3 i z 8 Try.underlying35 hi hz hsz hby hzs B q c cap s r acc.length w v acc (.int .i64 x) rfl (fun W => by
      have h := heap_alloc_new W (.cells #[.int .i64 x] 3)
      simp only [World.cell?, h]
      rfl) (.chan (some c)) hq _ (xs.map (Value.int .i64)) hc ho hcB hqB hB (by omega) (by decide)
    refine all_roundJ cs q c cap s r w v v2 t4 t5 t6 t7 t8 t9 t10 t11 t12 t13 t14 t15 x (xs.map (Value.int .i64)) hq (by simpa using hc) _ v' w' ha ?_
    intro u4 u5 u6 u7 u8 u9 u10 u11 u12 u13 u14 u15
    have hlen : acc.length + 1 = (acc ++ [Value.int .i64 x]).length := by simp
    rw [hlen] at ho'
    have h := ih (r + 1) w' v' v2 u4 u5 u6 u7 u8 u9 u10 u11 u12 u13 u14 u15 (acc ++ [Value.int .i64 x]) hq' hc' ho' (Nat.le_trans hB hO.size) (by simp; omega)
    obtain ⟨g', w3, hst, e, fr, hg, hpost, hf, hl⟩ := h
    refine ⟨g', w3, hst, e, fr, hg, ?_, hf, hl⟩
    obtain ⟨p1, p2, p3⟩ := hpost
    have e1 : acc ++ [Value.int .i64 x] ++ xs.map (Value.int .i64) = acc ++ (x :: xs).map (Value.int .i64) := by simp
    have e2 : r + 1 + xs.length = r + (x :: xs).length := by simp; omega
    rw [e1] at p1
    rw [e2] at p2
    exact ⟨p1, p2, hO.trans p3⟩
set_option maxRecDepth 100000 in
set_option maxHeartbeats 1000000 in
theorem allJ (w : World) (q c cap s r : Nat) (xs : List Int) (hq : w.cell? ⟨q, 0, none⟩ = some (.chan (some c))) (hc : w.heap[c]? = some (.chan cap (xs.map (Value.int .i64)).toArray false s r false)) (hn : xs.length ≤ 100000) :
    Calls Try.prog 21 #[.pointer (some ⟨q, 0, none⟩)] w fun e w' => AllPostJ w.heap.size c cap s (r + xs.length) w (xs.map (Value.int .i64)) e w' := by
  refine calls_of_loneTo (hno := by rintro _ ⟨⟨_, h, _⟩, _⟩; cases h) fun cs => ?_
  have e : Frame.enter Try.prog 21 #[.pointer (some ⟨q, 0, none⟩)] .normal = (base 21).at ⟨#[.pointer (some ⟨q, 0, none⟩), undef, undef, undef, undef, undef, undef, undef, undef, undef, undef, undef, undef, undef, undef, undef], []⟩ [.code (Try.f21.body.getD .skip)] := by
    simp [Frame.enter, Frame.at, Try.func21, base, Try.f21]
  rw [e]
  have HX := Lib.hid (all_loopJ cs q c cap s w.heap.size (chan_lt hc) (cell_lt hq) xs r w (.slice none 0 0) (.slice none 0 0) undef undef undef undef undef undef undef undef undef undef undef undef [] hq hc ⟨rfl, .inl ⟨rfl, rfl⟩⟩ (Nat.le_refl _) (by simpa using hn))
  clear hq hc
  refine LoneTo.goes (n := 100) ?_
  simp only [Try.f21, Option.getD_some]
  repeat (first | s_reg | s_op | s_c stepG_seq | s_c stepG_region_end | s_c stepG_skip | s_c stepG_block | s_cond true | s_cond false | s_exit)
  s_c stepG_loop
  s_stop
  have HX := HX.out
  simp only [bodyOf, Try.f21, findLoop, Option.getD_some, Option.orElse, List.nil_append] at HX
  exact HX
end Go.Proofs.YtfoenpdfmhmkiaaLone
