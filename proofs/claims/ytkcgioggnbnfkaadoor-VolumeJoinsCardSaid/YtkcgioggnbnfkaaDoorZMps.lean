/- Maps of numbered rows: laws over any program. -/
import Derived.Test.YtkcgioggnbnfkaaDoorZWWords
import Derived.Test.YtkcgioggnbnfkaaDoorZWLast
import Derived.Test.YtkcgioggnbnfkaaDoorZWMore
import Derived.Test.YtkcgioggnbnfkaaDoorZHKit
import Derived.Test.YtkcgioggnbnfkaaDoorZKA
import Derived.Maps.OwnSet
import Derived.Maps.OwnOps
import Derived.Maps.Views
set_option linter.unusedVariables false
set_option linter.unusedSimpArgs false
namespace Go.Proofs.YtkcgioggnbnfkaaDoorW.Mps
open Go Go.RowKit Go.Proofs.YtkcgioggnbnfkaaDoorW.PrintWords Go.Proofs.YtkcgioggnbnfkaaDoorW.PrintLast Go.Proofs.YtkcgioggnbnfkaaDoorW.PrintMore Go.Proofs.YtkcgioggnbnfkaaDoorW.HKit Go.Proofs.YtkcgioggnbnfkaaDoorW.Mv Go.Proofs.YtkcgioggnbnfkaaDoorW.But Go.Proofs.YtkcgioggnbnfkaaDoorW.App Go.Proofs.YtkcgioggnbnfkaaDoorW.Rwb

/-- How an element reads: as itself. -/
def heldR (v : Value) : Option (DataW Value × List MemPlace) := some (.held v, [])
theorem map_below {w w' : World} {P : Program} {k : TypeId} {b n : Nat} {D : DataW Value} (h : w.ownsMap P k heldR b n D) (hb : Below w.heap.size w w') : w'.ownsMap P k heldR b n D := by
  obtain ⟨es, clock, he, r⟩ := h
  exact ⟨es, clock, (hb.block b (Array.getElem?_eq_some_iff.1 he).1).trans he, r⟩
theorem map_other {w w' : World} {P : Program} {k : TypeId} {b n : Nat} {D : DataW Value} (h : w.ownsMap P k heldR b n D) (hb : w'.heap[b]? = w.heap[b]?) : w'.ownsMap P k heldR b n D := by
  obtain ⟨es, clock, he, r⟩ := h
  exact ⟨es, clock, hb.trans he, r⟩
theorem map_ne {w : World} {P : Program} {k : TypeId} {b n g : Nat} {D : DataW Value} {cells : Array Value} {t : TypeId} {fr : Nat × Nat} (h : w.ownsMap P k heldR b n D) (hg : w.heap[g]? = some (.cells cells t fr)) : b ≠ g := by
  obtain ⟨es, clock, he, r⟩ := h
  intro e
  subst e
  rw [he] at hg
  cases hg
section
variable {P : Program} {ops : Array Oper} {rest : List Oper} {o : Oper} {a : Act} {Q : Exit → Act → World → Prop}
theorem wpList_look_ok (w : World) (hg : o.guard = none) (m x : Operand) (t : TypeId) (hop : o.op = Op.lookup t m x true)
    (k e : TypeId) (K : Go.Maps.Keyed P k) (ht : P.underlying t = some (.map k e)) {z : Value} (hz : (zeroValue e).run P w = .ok z w) (b n : Nat) (D : DataW Value)
    (hm : a.eval m = .map (some b)) (hown : w.ownsMap P k heldR b n D) (key : Value) (kl : Lit) (hx : a.eval x = key) (hkey : keyOf P k key = some kl) (X : Value) (bo : Bool) (hX : D.atKey kl (.held z) = .held X) (hbo : Go.Maps.has D kl = bo)
    (h : wpList P ops Q rest (a.put o.dst (.tuple #[X, .bool bo])) w) : wpList P ops Q (o :: rest) a w := by
  refine wpList_lookup_own_ok w hg m x t hop k e K ht heldR hz (.held z) [] rfl b n D hm hown key kl hx hkey (fun v ps hv => ?_)
  have e1 : v = X := by
    rw [hX] at hv
    simp [heldR] at hv
    exact hv.1
  rw [e1, hbo]
  exact h
theorem wpList_look (w : World) (hg : o.guard = none) (m x : Operand) (t : TypeId) (hop : o.op = Op.lookup t m x false)
    (k e : TypeId) (K : Go.Maps.Keyed P k) (ht : P.underlying t = some (.map k e)) {z : Value} (hz : (zeroValue e).run P w = .ok z w) (b n : Nat) (D : DataW Value)
    (hm : a.eval m = .map (some b)) (hown : w.ownsMap P k heldR b n D) (key : Value) (kl : Lit) (hx : a.eval x = key) (hkey : keyOf P k key = some kl) (X : Value) (hX : D.atKey kl (.held z) = .held X)
    (h : wpList P ops Q rest (a.put o.dst X) w) : wpList P ops Q (o :: rest) a w := by
  obtain ⟨v, ps, hrun, hv⟩ := hown.lookup (R := heldR) K ht hz (zd := .held z) (zp := []) rfl hkey
  have e1 : v = X := by
    rw [hX] at hv
    simp [heldR] at hv
    exact hv.1
  subst e1
  refine wpList_plain hg fun K' hK' => ?_
  unfold Oper.wp
  simp [execOp, hop, hm, hx, hrun, Result.andThen]
  exact hK' _ _ h
end
/-- Numbers without those that stand twice. -/
def dd (ns : List Int) : List Int := ns.foldl (fun acc n => if n ∈ acc then acc else acc ++ [n]) []
theorem dd_snoc (ns : List Int) (n : Int) : dd (ns ++ [n]) = if n ∈ dd ns then dd ns else dd ns ++ [n] := by
  unfold dd
  rw [List.foldl_append]
  rfl
theorem snoc_ind {P : List Int → Prop} (h0 : P []) (h1 : ∀ l a, P l → P (l ++ [a])) (l : List Int) : P l := by
  have : ∀ r : List Int, P r.reverse := by
    intro r
    induction r with
    | nil => exact h0
    | cons a r ih => rw [List.reverse_cons]; exact h1 _ _ ih
  have h := this l.reverse
  rwa [List.reverse_reverse] at h
theorem dd_mem (ns : List Int) : ∀ n, n ∈ dd ns ↔ n ∈ ns := by
  refine snoc_ind (P := fun ns => ∀ n, n ∈ dd ns ↔ n ∈ ns) (fun n => by simp [dd]) (fun l a ih => ?_) ns
  · intro n
    rw [dd_snoc]
    split
    · rename_i h
      rw [ih] at h ⊢
      simp only [List.mem_append, List.mem_singleton]
      constructor
      · exact .inl
      · rintro (h1 | rfl)
        · exact h1
        · exact h
    · simp only [List.mem_append, ih]
theorem dd_nodup (ns : List Int) : (dd ns).Nodup := by
  refine snoc_ind (P := fun ns => (dd ns).Nodup) (by simp [dd]) (fun l a ih => ?_) ns
  · rw [dd_snoc]
    split
    · exact ih
    · rename_i h
      rw [List.nodup_append]
      exact ⟨ih, by simp, fun x hx y hy => by simp at hy; subst hy; intro e; subst e; exact h hx⟩
theorem nodup_sub : ∀ (d s : List Int), d.Nodup → (∀ x ∈ d, x ∈ s) → d.length ≤ s.length
  | [], s, _, _ => Nat.zero_le _
  | x :: r, s, hd, hs => by
    have hx := hs x List.mem_cons_self
    rw [List.nodup_cons] at hd
    have h1 := nodup_sub r (s.erase x) hd.2 (fun y hy => (List.mem_erase_of_ne (by intro e; rw [e] at hy; exact hd.1 hy)).2 (hs y (List.mem_cons_of_mem _ hy)))
    rw [List.length_erase_of_mem hx] at h1
    have : 0 < s.length := List.length_pos_of_mem hx
    rw [List.length_cons]
    omega
/-- A map's datum, and the rows that it was filled with: each number leads to a row that bears it. -/
structure Got (w : World) (D : DataW Value) (num : List Int → Int) (L : List (List Int)) : Prop where
  tidy : Go.Maps.Tidy D
  none : ∀ n, (∀ x ∈ L, num x ≠ n) → ∀ z, D.atKey (.int .i64 n) z = z
  some : ∀ x ∈ L, ∃ y ∈ L, num y = num x ∧ ∃ A c, y.length ≤ c ∧ Kd.C (Kd.int .u8) w A y.length y ∧ ∀ z, D.atKey (.int .i64 (num x)) z = .held (.slice A y.length c)
  size : Go.Maps.size D = (dd (L.map num)).length
theorem Got.empty (w : World) (num : List Int → Int) : Got w (.map []) num [] := ⟨Go.Maps.tidy_empty, fun _ _ z => rfl, fun x hx => absurd hx (List.not_mem_nil), rfl⟩
theorem isKey_int (n : Int) : WideAt.IsKeyLit (.int .i64 n) := by first | exact ⟨⟩ | trivial | (constructor) | simp [WideAt.IsKeyLit]
theorem lit_ne {n m : Int} (h : n ≠ m) : (Lit.int .i64 n) ≠ (Lit.int .i64 m) := fun e => h (by injection e)
theorem Got.has {w : World} {D : DataW Value} {num : List Int → Int} {L : List (List Int)} (h : Got w D num L) (n : Int) : Go.Maps.has D (.int .i64 n) = decide (n ∈ L.map num) := by
  by_cases hn : n ∈ L.map num
  · rw [decide_eq_true hn]
    obtain ⟨x, hx, rfl⟩ := List.mem_map.1 hn
    obtain ⟨y, hy, hyn, A, c, _, _, hat⟩ := h.some x hx
    exact Go.Maps.has_true_of_atKey hat
  · rw [decide_eq_false hn]
    exact Go.Maps.has_false_of_atKey (h.none n (fun x hx e => hn (List.mem_map.2 ⟨x, hx, e⟩)))
theorem Got.put {w : World} {D : DataW Value} {num : List Int → Int} {L : List (List Int)} (h : Got w D num L) (x : List Int) (A : Option Addr) (c : Nat) (hc : x.length ≤ c) (hr : Kd.C (Kd.int .u8) w A x.length x) :
    Got w (D.put (.int .i64 (num x)) (.held (.slice A x.length c))) num (L ++ [x]) := by
  refine ⟨h.tidy.put (isKey_int _) _, fun n hn z => ?_, fun y hy => ?_, ?_⟩
  · have hne : n ≠ num x := fun e => hn x (by simp) e.symm
    rw [Go.Maps.atKey_put_other (lit_ne hne)]
    exact h.none n (fun y hy => hn y (by simp [hy])) z
  · by_cases e : num y = num x
    · refine ⟨x, by simp, e.symm, A, c, hc, hr, fun z => ?_⟩
      rw [e]
      exact Go.Maps.atKey_put_same h.tidy.isMap (isKey_int _) _ _
    · have hy' : y ∈ L := by
        rcases List.mem_append.1 hy with hy | hy
        · exact hy
        · simp at hy; subst hy; exact absurd rfl e
      obtain ⟨y2, hy2, hn2, A2, c2, hc2, hr2, hat2⟩ := h.some y hy'
      refine ⟨y2, by simp [hy2], hn2, A2, c2, hc2, hr2, fun z => ?_⟩
      rw [Go.Maps.atKey_put_other (lit_ne e)]
      exact hat2 z
  · rw [Go.Maps.size_put h.tidy, h.has, List.map_append, List.map_singleton, dd_snoc, h.size]
    by_cases hm : num x ∈ L.map num
    · rw [if_pos (by simpa using hm), if_pos ((dd_mem _ _).2 hm)]
    · rw [if_neg (by simpa using hm), if_neg (fun h => hm ((dd_mem _ _).1 h)), List.length_append]
      rfl

end Go.Proofs.YtkcgioggnbnfkaaDoorW.Mps
