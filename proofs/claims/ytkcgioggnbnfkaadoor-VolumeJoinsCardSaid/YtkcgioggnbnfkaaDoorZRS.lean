/- The document's Split: walked once. -/
import Derived.Test.YtkcgioggnbnfkaaDoorZRB
import Derived.Test.YtkcgioggnbnfkaaDoorZKN
set_option linter.unusedVariables false
set_option linter.unusedSimpArgs false
namespace Go.Proofs.YtkcgioggnbnfkaaDoor.RS
open Go.RowKit Go.Proofs.YtkcgioggnbnfkaaDoorW.PrintWords Go.Proofs.YtkcgioggnbnfkaaDoorW.PrintLast Go.Proofs.YtkcgioggnbnfkaaDoorW.PrintMore Go.Proofs.YtkcgioggnbnfkaaDoorW.Mv Go.Proofs.YtkcgioggnbnfkaaDoorW.HKit Go.Proofs.YtkcgioggnbnfkaaDoorW.But Go.Proofs.YtkcgioggnbnfkaaDoorW.App Go.Proofs.YtkcgioggnbnfkaaDoorW.Rwb Go.Proofs.YtkcgioggnbnfkaaDoorW.Live Go.Proofs.YtkcgioggnbnfkaaDoor.PVolumeJoins Go.Proofs.YtkcgioggnbnfkaaDoor.CrcA Go.Proofs.YtkcgioggnbnfkaaDoor.Crc Go.Proofs.YtkcgioggnbnfkaaDoor.NumP Go.Proofs.YtkcgioggnbnfkaaDoor.NumG Go.Proofs.YtkcgioggnbnfkaaDoor.PutN Go.Proofs.YtkcgioggnbnfkaaDoor.Num Go.Proofs.YtkcgioggnbnfkaaDoor.Lab Go.Proofs.YtkcgioggnbnfkaaDoor.Read Go.Proofs.YtkcgioggnbnfkaaDoor.Open Go.Proofs.YtkcgioggnbnfkaaDoor.Vol Go.Proofs.YtkcgioggnbnfkaaDoor.Spl Go.Proofs.YtkcgioggnbnfkaaDoor.RB
attribute [local go_sem] max2_int min2_int max_two min_two   -- for this text's walks alone
/-- Rows of bytes, each perhaps with a mark behind its last cell. -/
def RowsLive (W : World) (B : Nat) (cs : List Value) (xss : List (List Int)) : Prop := cs.length = xss.length ∧ ∀ r, ∀ h : r < cs.length, ∀ h2 : r < xss.length, Live 5 W B cs[r] xss[r]
theorem RowsLive.nil (W : World) (B : Nat) : RowsLive W B [] [] := ⟨rfl, fun r h => absurd h (Nat.not_lt_zero _)⟩
theorem RowsLive.below {W W' : World} {B : Nat} {cs : List Value} {xss : List (List Int)} (h : RowsLive W B cs xss) (hb : Below W.heap.size W W') : RowsLive W' B cs xss :=
  ⟨h.1, fun r hr h2 => live_moves (h.2 r hr h2) hb⟩
theorem live_but {W W' : World} {B g t : Nat} {v : Value} {xs : List Int} (h : Live 5 W B v xs) (hb : But (fun k => k = g) W W') {cells : Array Value} {fr : Nat × Nat} (hg : W.heap[g]? = some (.cells cells t fr)) (ht : 5 ≠ t) : Live 5 W' B v xs := by
  obtain ⟨g1, cap, cells1, fr1, hv, hB, hg1, r⟩ := h
  refine ⟨g1, cap, cells1, fr1, hv, hB, (hb.block g1 (Array.getElem?_eq_some_iff.1 hg1).1 fun e => ?_).trans hg1, r⟩
  subst e
  rw [hg1] at hg
  injection hg with hg
  injection hg with _ h3 _
  exact ht h3
theorem RowsLive.grown {t : Nat} {W W' : World} {B b s n : Nat} {cs ds : List Value} {xss : List (List Int)} {v : Value} (h : RowsLive W B cs xss) (hv : W.ownsRow b t s v n ds) (hg : W.grownBy W' v.ownBlock) (ht : 5 ≠ t) : RowsLive W' B cs xss := by
  cases hq : v.ownBlock with
  | none => rw [hq] at hg; exact h.below (below_of_grown_none hg)
  | some g =>
    rw [hq] at hg
    obtain ⟨cells, hc⟩ := own_typed hv g hq
    exact ⟨h.1, fun r hr h2 => live_but (h.2 r hr h2) (But.of_grown hg) hc ht⟩
theorem RowsLive.snoc {W : World} {B : Nat} {cs : List Value} {xss : List (List Int)} (h : RowsLive W B cs xss) (u : Value) (xs : List Int) (hu : Live 5 W B u xs) : RowsLive W B (cs ++ [u]) (xss ++ [xs]) := by
  refine ⟨by simp [h.1], fun r hr h2 => ?_⟩
  by_cases hlt : r < cs.length
  · have h3 : r < xss.length := by rw [← h.1]; exact hlt
    rw [List.getElem_append_left hlt, List.getElem_append_left h3]
    exact h.2 r hlt h3
  · have h1 : r = cs.length := by simp at hr; omega
    subst h1
    have h4 : (cs ++ [u])[cs.length] = u := by simp
    have h5 : (xss ++ [xs])[cs.length]'h2 = xs := by
      rw [List.getElem_append_right (by rw [h.1]; exact Nat.le_refl _)]
      simp [h.1]
    rw [h4, h5]
    exact hu
/-- Rows of bytes that are read in an elder world. -/
def RowsRd (w : World) (cs : List Value) (xss : List (List Int)) : Prop := cs.length = xss.length ∧ ∀ r, ∀ h : r < cs.length, ∀ h2 : r < xss.length, ∃ Ar Cr, cs[r] = .slice Ar xss[r].length Cr ∧ xss[r].length ≤ Cr ∧ Kd.C (Kd.int .u8) w Ar xss[r].length xss[r]
theorem RowsRd.nil (w : World) : RowsRd w [] [] := ⟨rfl, fun r h => absurd h (Nat.not_lt_zero _)⟩
theorem RowsRd.snoc {w : World} {cs : List Value} {xss : List (List Int)} (h : RowsRd w cs xss) (A : Option Addr) (n c : Nat) (xs : List Int) (hc : n ≤ c) (hr : Kd.C (Kd.int .u8) w A n xs) : RowsRd w (cs ++ [.slice A n c]) (xss ++ [xs]) := by
  have hl := C_len hr
  refine ⟨by simp [h.1], fun r hr' h2 => ?_⟩
  by_cases hlt : r < cs.length
  · have h3 : r < xss.length := by rw [← h.1]; exact hlt
    rw [List.getElem_append_left hlt, List.getElem_append_left h3]
    exact h.2 r hlt h3
  · have h1 : r = cs.length := by simp at hr'; omega
    subst h1
    have h4 : (cs ++ [Value.slice A n c])[cs.length] = .slice A n c := by simp
    have h5 : (xss ++ [xs])[cs.length]'h2 = xs := by
      rw [List.getElem_append_right (by rw [h.1]; exact Nat.le_refl _)]
      simp [h.1]
    rw [h4, h5]
    exact ⟨A, c, by rw [hl], by rw [hl]; exact hc, by rw [hl]; exact hr⟩
theorem own_slice {w : World} {B e s n : Nat} {v : Value} {xs : List Value} (h : w.ownsRow B e s v n xs) : ∃ A c, v = .slice A n c ∧ n ≤ c := by
  rcases h.2 with ⟨rfl, rfl⟩ | ⟨g, cap, cur, rfl, _, _, hnc, _⟩
  · exact ⟨none, 0, rfl, Nat.le_refl _⟩
  · exact ⟨_, _, rfl, hnc⟩
theorem rsum_any (A : Option Addr) (n c : Nat) (l : List Int) (w : World) (hr : Kd.C (Kd.int .u8) w A n l) (hc : n ≤ c) (hn : n ≤ 100000) (hb : ∀ y ∈ l, 0 ≤ y ∧ y ≤ 255) :
    Calls Tryd.prog 21 #[.int .u32 0, .slice A n c] w (SumPost w l) := by
  have hl := C_len hr
  subst hl
  obtain ⟨k, hk⟩ := (CrcP.more_ev l hn hb).rounds
  refine (oakumref32_More.calls k 0 A c l _ w hr hc hk).mono ?_
  rintro e w' ⟨rfl, hd⟩
  exact ⟨rfl, hd.below⟩
/-- What the document's Split hands back. -/
def RSPost (w : World) (xss : List (List Int)) (code : Int) (e : Ending) (w' : World) : Prop := ∃ A c, e = .returned (.tuple #[.slice A xss.length c, .int .i64 code]) ∧ RowsB w' A c xss ∧ Below w.heap.size w w'
end Go.Proofs.YtkcgioggnbnfkaaDoor.RS
