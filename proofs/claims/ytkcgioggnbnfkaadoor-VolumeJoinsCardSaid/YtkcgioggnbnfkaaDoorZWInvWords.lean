/- Laws that the claim's theorem rests on: out of texts of this session and of the print, less what is not used. -/
import Derived.Test.YtkcgioggnbnfkaaDoorZWTab
import Derived.Test.YtkcgioggnbnfkaaDoorZWN
namespace Go.Proofs.YtkcgioggnbnfkaaDoorW.PrintWords
open Go.RowKit
/-- Two rows, one made behind the other's standing. -/
theorem own_apart {v1 v2 : Value} {n : Nat} (hlt : ∀ k, v1.ownBlock = some k → k < n) (hge : ∀ k, v2.ownBlock = some k → n ≤ k) : v1.ownBlock = none ∨ v1.ownBlock ≠ v2.ownBlock := by
  cases h : v1.ownBlock with
  | none => exact .inl rfl
  | some k => exact .inr (fun e => by have := hlt k h; have := hge k e.symm; omega)
end Go.Proofs.YtkcgioggnbnfkaaDoorW.PrintWords
namespace Go.Proofs.YtkcgioggnbnfkaaDoorW.PrintLast
end Go.Proofs.YtkcgioggnbnfkaaDoorW.PrintLast
