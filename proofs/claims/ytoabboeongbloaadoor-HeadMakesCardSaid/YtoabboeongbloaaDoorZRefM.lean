/- The document's Make of a header: what it makes, over lists and numbers. -/
import Derived.Test.YtoabboeongbloaaDoorZGT
set_option linter.unusedVariables false
set_option linter.unusedSimpArgs false
namespace Go.Proofs.YtoabboeongbloaaDoor.RefM
open Go.RowKit Go.Proofs.YtoabboeongbloaaDoorW.PrintWords Go.Proofs.YtoabboeongbloaaDoorW.PrintLast Go.Proofs.YtoabboeongbloaaDoorW.PrintMore Go.Proofs.YtoabboeongbloaaDoorW.Mv Go.Proofs.YtoabboeongbloaaDoorW.HKit Go.Proofs.YtoabboeongbloaaDoorW.But Go.Proofs.YtoabboeongbloaaDoor.HeadA Go.Proofs.YtoabboeongbloaaDoor.PHeadGets Go.Proofs.YtoabboeongbloaaDoor.SumP Go.Proofs.YtoabboeongbloaaDoor.Sums Go.Proofs.YtoabboeongbloaaDoor.Maker Go.Proofs.YtoabboeongbloaaDoor.GetW Go.Proofs.YtoabboeongbloaaDoor.Fmt
theorem splice_get (xs ys : List Int) (f j : Nat) (hf : f ≤ xs.length) : (splice xs f ys)[j]? = if j < f then xs[j]? else if j < f + ys.length then ys[j - f]? else xs[j]? := by
  unfold splice
  by_cases h1 : j < f
  · rw [if_pos h1, List.getElem?_append_left (by rw [List.length_take]; omega), List.getElem?_take, if_pos h1]
  · rw [if_neg h1, List.getElem?_append_right (by rw [List.length_take]; omega), List.length_take, Nat.min_eq_left hf]
    by_cases h2 : j < f + ys.length
    · rw [if_pos h2, List.getElem?_append_left (by omega)]
    · rw [if_neg h2, List.getElem?_append_right (by omega), List.getElem?_drop]
      congr 1
      omega
theorem splice_len (xs ys : List Int) (f : Nat) (hf : f + ys.length ≤ xs.length) : (splice xs f ys).length = xs.length := by
  unfold splice
  simp
  omega
theorem splice_set (xs ys : List Int) (f i : Nat) (v : Int) (hf : f + ys.length ≤ xs.length) (h : i < f ∨ f + ys.length ≤ i) : splice (xs.set i v) f ys = (splice xs f ys).set i v := by
  apply List.ext_getElem?
  intro j
  rw [splice_get _ _ _ _ (by rw [List.length_set]; omega), List.getElem?_set, List.getElem?_set, splice_get _ _ _ _ (by omega), splice_len _ _ _ hf]
  by_cases hij : i = j
  · subst hij
    simp only [if_true]
    by_cases h1 : i < f
    · simp only [if_pos h1]
    · simp only [if_neg h1, if_neg (show ¬ i < f + ys.length by omega)]
  · simp only [if_neg hij]
theorem splice_two (xs ys zs : List Int) (f g : Nat) (hf : f + ys.length ≤ xs.length) (hg : g + zs.length ≤ xs.length) (h : g + zs.length ≤ f ∨ f + ys.length ≤ g) : splice (splice xs g zs) f ys = splice (splice xs f ys) g zs := by
  apply List.ext_getElem?
  intro j
  rw [splice_get _ _ _ _ (by rw [splice_len _ _ _ hg]; omega), splice_get _ _ _ _ (by omega), splice_get _ _ _ _ (by rw [splice_len _ _ _ hf]; omega), splice_get _ _ _ _ (by omega)]
  repeat' split
  all_goals first | rfl | omega
theorem splice_over (xs ys zs : List Int) (f : Nat) (hl : zs.length = ys.length) (hf : f + ys.length ≤ xs.length) : splice (splice xs f ys) f zs = splice xs f zs := by
  apply List.ext_getElem?
  intro j
  rw [splice_get _ _ _ _ (by rw [splice_len _ _ _ hf]; omega), splice_get _ _ _ _ (by omega), splice_get _ _ _ _ (by omega)]
  repeat' split
  all_goals first | rfl | omega
/-- A turn of the bytes that lets each field of its kind be. -/
def Lets (g : List Int → List Int) (f s : Nat) : Prop := ∀ xs ys : List Int, xs.length = 512 → ys.length = s → splice (g xs) f ys = g (splice xs f ys)
def onL (g : List Int → List Int) (st : List Int × Int) : List Int × Int := (g st.1, st.2)
theorem text_on {g : List Int → List Int} {f s : Nat} (h : Lets g f s) (st : List Int × Int) (hl : st.1.length = 512) (t : ByteArray) : mText (onL g st) f s t = onL g (mText st f s t) := by
  unfold mText onL
  dsimp only
  by_cases he : st.2 = 0
  · rw [if_pos he, if_pos he]
    by_cases hp : (Txt.putOf t s).2 = 0
    · rw [if_pos hp, if_pos hp, h _ _ hl (putOf_len t s hp)]
    · rw [if_neg hp, if_neg hp]
  · rw [if_neg he, if_neg he]
theorem num_on {g : List Int → List Int} {f s : Nat} (h : Lets g f s) (h2 : 2 ≤ s) (st : List Int × Int) (hl : st.1.length = 512) (fld n : Int) (wide : Bool) : mNum (onL g st) f s fld n wide = onL g (mNum st f s fld n wide) := by
  unfold mNum onL
  dsimp only
  by_cases he : st.2 = 0
  · rw [if_pos he, if_pos he]
    by_cases hn : n < 0 ∧ ¬ fld = 8
    · rw [if_pos hn, if_pos hn]
    · rw [if_neg hn, if_neg hn]
      by_cases hp : (NumP.putOf n s wide).2 = 0
      · rw [if_pos hp, if_pos hp, h _ _ hl (numput_len n s wide h2 hp)]
      · rw [if_neg hp, if_neg hp]
  · rw [if_neg he, if_neg he]
theorem text_len (st : List Int × Int) (f s : Nat) (t : ByteArray) (hl : st.1.length = 512) (hf : f + s ≤ 512) : (mText st f s t).1.length = 512 := by
  unfold mText
  repeat' split
  · rename_i h1 h2
    show (splice st.1 f _).length = 512
    rw [splice_len _ _ _ (by rw [putOf_len t s h2]; omega), hl]
  · exact hl
  · exact hl
theorem num_len (st : List Int × Int) (f s : Nat) (fld n : Int) (wide : Bool) (hl : st.1.length = 512) (h2 : 2 ≤ s) (hf : f + s ≤ 512) : (mNum st f s fld n wide).1.length = 512 := by
  unfold mNum
  repeat' split
  · exact hl
  · rename_i h1 h3 h4
    show (splice st.1 f _).length = 512
    rw [splice_len _ _ _ (by rw [numput_len n s wide h2 h4]; omega), hl]
  · exact hl
  · exact hl
theorem lets_set (v : Int) (i f s : Nat) (hf : f + s ≤ 512) (h : i < f ∨ f + s ≤ i) : Lets (fun l => l.set i v) f s := fun xs ys hx hy => splice_set xs ys f i v (by omega) (by omega)
theorem lets_splice (zs : List Int) (g f s : Nat) (hf : f + s ≤ 512) (hg : g + zs.length ≤ 512) (h : g + zs.length ≤ f ∨ f + s ≤ g) : Lets (fun l => splice l g zs) f s := fun xs ys hx hy => splice_two xs ys zs f g (by omega) (by omega) (by omega)
/-- One item of the document's order. -/
def stepR (r : Raw) (wide dev : Bool) (st : List Int × Int) (j : Nat) : List Int × Int :=
  match j with
  | 0 => mText st 0 100 r.name
  | 1 => mNum st 100 8 4 r.mode wide
  | 2 => mNum st 108 8 5 r.uid wide
  | 3 => mNum st 116 8 6 r.gid wide
  | 4 => mNum st 124 12 7 r.size wide
  | 5 => mNum st 136 12 8 r.time wide
  | 6 => mText st 157 100 r.link
  | 7 => if r.mark = 0 then st else mText st 265 32 r.user
  | 8 => if r.mark = 0 then st else mText st 297 32 r.group
  | 9 => if r.mark = 0 ∨ dev = false then st else mNum st 329 8 11 r.major wide
  | 10 => if r.mark = 0 ∨ dev = false then st else mNum st 337 8 12 r.minor wide
  | _ => if r.mark = 1 then mText st 345 155 r.pre else st
def foldR (r : Raw) (wide dev : Bool) (st : List Int × Int) : Nat → List Int × Int
  | 0 => st
  | j + 1 => stepR r wide dev (foldR r wide dev st j) j
def headR (r : Raw) : List Int := if r.mark = 1 then splice ((List.replicate 512 0).set 156 r.flag) 257 ustarP else if r.mark = 2 then splice ((List.replicate 512 0).set 156 r.flag) 257 ustarG else (List.replicate 512 0).set 156 r.flag
theorem seven_on {g : List Int → List Int} (r : Raw) (wide dev : Bool) (z : List Int) (hz : z.length = 512) (h : ∀ f s, (f, s) ∈ [(0, 100), (100, 8), (108, 8), (116, 8), (124, 12), (136, 12), (157, 100)] → Lets g f s) :
    foldR r wide dev (onL g (z, 0)) 7 = onL g (foldR r wide dev (z, 0) 7) := by
  simp only [foldR, stepR]
  have l0 := text_len (z, 0) 0 100 r.name hz (by omega)
  have l1 := num_len _ 100 8 4 r.mode wide l0 (by omega) (by omega)
  have l2 := num_len _ 108 8 5 r.uid wide l1 (by omega) (by omega)
  have l3 := num_len _ 116 8 6 r.gid wide l2 (by omega) (by omega)
  have l4 := num_len _ 124 12 7 r.size wide l3 (by omega) (by omega)
  have l5 := num_len _ 136 12 8 r.time wide l4 (by omega) (by omega)
  rw [text_on (h 0 100 (by simp)) (z, 0) hz, num_on (h 100 8 (by simp)) (by omega) _ l0, num_on (h 108 8 (by simp)) (by omega) _ l1, num_on (h 116 8 (by simp)) (by omega) _ l2, num_on (h 124 12 (by simp)) (by omega) _ l3, num_on (h 136 12 (by simp)) (by omega) _ l4, text_on (h 157 100 (by simp)) _ l5]
theorem seven_A (r : Raw) (wide dev : Bool) : foldR r wide dev (List.replicate 512 0, 0) 7 = makeA r wide := rfl
theorem seven_len (r : Raw) (wide : Bool) : (makeA r wide).1.length = 512 := by
  unfold makeA
  exact text_len _ _ _ _ (num_len _ _ _ _ _ _ (num_len _ _ _ _ _ _ (num_len _ _ _ _ _ _ (num_len _ _ _ _ _ _ (num_len _ _ _ _ _ _ (text_len _ _ _ _ List.length_replicate (by omega)) (by omega) (by omega)) (by omega) (by omega)) (by omega) (by omega)) (by omega) (by omega)) (by omega) (by omega)) (by omega)
theorem late_on {g : List Int → List Int} (r : Raw) (wide dev : Bool) (st : List Int × Int) (hl : st.1.length = 512) (h : ∀ f s, (f, s) ∈ [(265, 32), (297, 32), (329, 8), (337, 8), (345, 155)] → Lets g f s) :
    lateOf (onL g st) r wide dev = onL g (lateOf st r wide dev) := by
  unfold lateOf
  have l1 := text_len st 265 32 r.user hl (by omega)
  have l2 := text_len _ 297 32 r.group l1 (by omega)
  have l3 := num_len _ 329 8 11 r.major wide l2 (by omega) (by omega)
  have l4 := num_len _ 337 8 12 r.minor wide l3 (by omega) (by omega)
  rw [text_on (h 265 32 (by simp)) st hl, text_on (h 297 32 (by simp)) _ l1]
  cases dev
  · simp only [Bool.false_eq_true, ↓reduceIte]
    split
    · exact text_on (h 345 155 (by simp)) _ l2 _
    · rfl
  · simp only [↓reduceIte]
    rw [num_on (h 329 8 (by simp)) (by omega) _ l2, num_on (h 337 8 (by simp)) (by omega) _ l3]
    split
    · exact text_on (h 345 155 (by simp)) _ l4 _
    · rfl
theorem fold_late (r : Raw) (wide dev : Bool) (st : List Int × Int) (hm : ¬ r.mark = 0) : foldR r wide dev st 12 = lateOf (foldR r wide dev st 7) r wide dev := by
  simp only [foldR, stepR, lateOf, hm, if_false, false_or]
  cases dev <;> simp
theorem fold_old (r : Raw) (wide dev : Bool) (st : List Int × Int) (hm : r.mark = 0) : foldR r wide dev st 12 = foldR r wide dev st 7 := by
  simp [foldR, stepR, hm]
theorem two_on (r : Raw) (wide dev : Bool) (z zs : List Int) (hz : z.length = 512)
    (s7 : ∀ f s, (f, s) ∈ [(0, 100), (100, 8), (108, 8), (116, 8), (124, 12), (136, 12), (157, 100)] → Lets (fun l => l.set 156 r.flag) f s)
    (g7 : ∀ f s, (f, s) ∈ [(0, 100), (100, 8), (108, 8), (116, 8), (124, 12), (136, 12), (157, 100)] → Lets (fun l => splice l 257 zs) f s) :
    foldR r wide dev (splice (z.set 156 r.flag) 257 zs, 0) 7 = onL (fun l => splice l 257 zs) (onL (fun l => l.set 156 r.flag) (foldR r wide dev (z, 0) 7)) := by
  rw [← seven_on r wide dev z hz s7]
  have e1 : ((splice (z.set 156 r.flag) 257 zs, 0) : List Int × Int) = onL (fun l => splice l 257 zs) (z.set 156 r.flag, 0) := rfl
  have e2 : onL (fun l => l.set 156 r.flag) (z, 0) = (z.set 156 r.flag, 0) := rfl
  rw [e1, e2]
  exact seven_on r wide dev (z.set 156 r.flag) (by rw [List.length_set]; exact hz) g7
theorem one_on (r : Raw) (wide dev : Bool) (z : List Int) (hz : z.length = 512)
    (s7 : ∀ f s, (f, s) ∈ [(0, 100), (100, 8), (108, 8), (116, 8), (124, 12), (136, 12), (157, 100)] → Lets (fun l => l.set 156 r.flag) f s) :
    foldR r wide dev (z.set 156 r.flag, 0) 7 = onL (fun l => l.set 156 r.flag) (foldR r wide dev (z, 0) 7) := by
  have e2 : ((z.set 156 r.flag, 0) : List Int × Int) = onL (fun l => l.set 156 r.flag) (z, 0) := rfl
  rw [e2]
  exact seven_on r wide dev z hz s7
theorem fold_make (r : Raw) (wide dev : Bool) (hm : r.mark = 0 ∨ r.mark = 1 ∨ r.mark = 2) : foldR r wide dev (headR r, 0) 12 = ((makeB r wide dev).1.set 156 r.flag, (makeB r wide dev).2) := by
  have hA := seven_len r wide
  have s7 : ∀ f s, (f, s) ∈ [(0, 100), (100, 8), (108, 8), (116, 8), (124, 12), (136, 12), (157, 100)] → Lets (fun l => l.set 156 r.flag) f s := by
    intro f s h
    simp only [List.mem_cons, Prod.mk.injEq, List.not_mem_nil, or_false] at h
    rcases h with ⟨rfl, rfl⟩ | ⟨rfl, rfl⟩ | ⟨rfl, rfl⟩ | ⟨rfl, rfl⟩ | ⟨rfl, rfl⟩ | ⟨rfl, rfl⟩ | ⟨rfl, rfl⟩ <;> exact lets_set _ _ _ _ (by omega) (by omega)
  have sL : ∀ f s, (f, s) ∈ [(265, 32), (297, 32), (329, 8), (337, 8), (345, 155)] → Lets (fun l => l.set 156 r.flag) f s := by
    intro f s h
    simp only [List.mem_cons, Prod.mk.injEq, List.not_mem_nil, or_false] at h
    rcases h with ⟨rfl, rfl⟩ | ⟨rfl, rfl⟩ | ⟨rfl, rfl⟩ | ⟨rfl, rfl⟩ | ⟨rfl, rfl⟩ <;> exact lets_set _ _ _ _ (by omega) (by omega)
  have g7 : ∀ zs : List Int, zs.length = 8 → ∀ f s, (f, s) ∈ [(0, 100), (100, 8), (108, 8), (116, 8), (124, 12), (136, 12), (157, 100)] → Lets (fun l => splice l 257 zs) f s := by
    intro zs hz f s h
    simp only [List.mem_cons, Prod.mk.injEq, List.not_mem_nil, or_false] at h
    rcases h with ⟨rfl, rfl⟩ | ⟨rfl, rfl⟩ | ⟨rfl, rfl⟩ | ⟨rfl, rfl⟩ | ⟨rfl, rfl⟩ | ⟨rfl, rfl⟩ | ⟨rfl, rfl⟩ <;> exact lets_splice _ _ _ _ (by omega) (by omega) (by omega)
  have eA := seven_A r wide dev
  have e0 : foldR r wide dev ((List.replicate 512 0).set 156 r.flag, 0) 7 = onL (fun l => l.set 156 r.flag) (makeA r wide) := by
    rw [one_on r wide dev _ List.length_replicate s7, eA]
  have e1 : ∀ zs : List Int, zs.length = 8 → foldR r wide dev (splice ((List.replicate 512 0).set 156 r.flag) 257 zs, 0) 7 = onL (fun l => splice l 257 zs) (onL (fun l => l.set 156 r.flag) (makeA r wide)) := by
    intro zs hz
    rw [two_on r wide dev _ zs List.length_replicate s7 (g7 zs hz), eA]
  have eS : ∀ zs : List Int, zs.length = 8 → onL (fun l => splice l 257 zs) (onL (fun l => l.set 156 r.flag) (makeA r wide)) = onL (fun l => l.set 156 r.flag) (splice (makeA r wide).1 257 zs, (makeA r wide).2) := by
    intro zs hz
    unfold onL
    dsimp only
    rw [splice_set _ _ _ _ _ (by rw [hA]; omega) (by omega)]
  have hlS : ∀ zs : List Int, zs.length = 8 → (splice (makeA r wide).1 257 zs).length = 512 := fun zs hz => by rw [splice_len _ _ _ (by rw [hA]; omega), hA]
  rcases hm with h | h | h
  · rw [fold_old r wide dev _ h]
    unfold headR makeB
    dsimp only
    rw [if_neg (by omega), if_neg (by omega), if_pos h]
    exact e0
  · have hne : ¬ r.mark = 0 := by omega
    rw [fold_late r wide dev _ hne]
    unfold headR makeB
    dsimp only
    rw [if_pos h, if_neg hne, if_pos h, e1 ustarP rfl, eS ustarP rfl, late_on r wide dev _ (hlS ustarP rfl) sL]
    rw [splice_over _ ustarG ustarP 257 rfl (by rw [hA]; decide)]
    rfl
  · have hne : ¬ r.mark = 0 := by omega
    rw [fold_late r wide dev _ hne]
    unfold headR makeB
    dsimp only
    rw [if_neg (by omega), if_pos h, if_neg hne, if_neg (by omega), e1 ustarG rfl, eS ustarG rfl, late_on r wide dev _ (hlS ustarG rfl) sL]
    rfl
theorem fold_stays (r : Raw) (wide dev : Bool) (st : List Int × Int) (j : Nat) (h : ¬ (foldR r wide dev st j).2 = 0) : ∀ d, foldR r wide dev st (j + d) = foldR r wide dev st j := by
  have ht : ∀ (s : List Int × Int) (f n : Nat) (t : ByteArray), ¬ s.2 = 0 → mText s f n t = s := fun s f n t hs => by unfold mText; rw [if_neg hs]
  have hn : ∀ (s : List Int × Int) (f n : Nat) (a b : Int) (w : Bool), ¬ s.2 = 0 → mNum s f n a b w = s := fun s f n a b w hs => by unfold mNum; rw [if_neg hs]
  intro d
  induction d with
  | zero => rfl
  | succ d ih =>
    show stepR r wide dev (foldR r wide dev st (j + d)) (j + d) = _
    rw [ih]
    unfold stepR
    split <;> first | exact ht _ _ _ _ h | exact hn _ _ _ _ _ _ h | (split <;> first | rfl | exact ht _ _ _ _ h | exact hn _ _ _ _ _ _ h)
/-- What the document's Make tells. -/
def rmakeOf (r : Raw) (wide dev : Bool) : List Int × Int :=
  if r.mark < 0 ∨ 2 < r.mark then ([], 2) else if knownB r.flag = false then ([], 9) else
    let st := foldR r wide dev (headR r, 0) 12
    if st.2 = 0 then (sealOf st.1, 0) else ([], st.2)
theorem rmake_is (r : Raw) (wide dev : Bool) : rmakeOf r wide dev = makeOf r wide dev := by
  unfold rmakeOf makeOf
  dsimp only
  by_cases h : r.mark < 0 ∨ 2 < r.mark
  · rw [if_pos h, if_pos h]
  · rw [if_neg h, if_neg h, fold_make r wide dev (by omega)]
end Go.Proofs.YtoabboeongbloaaDoor.RefM
