/- The pure statement of the law FnExactLengthOf: what is left of it when the machine is gone; no condition. -/
import Derived.Test.YtkcimmlaoipdkaaDoorPFnExactLengthOfx0
import Derived.Test.YtkcimmlaoipdkaaDoorPFnExactLengthOfx1
import Derived.Test.YtkcimmlaoipdkaaDoorPFnExactLengthOfx2
namespace Go.Proofs.YtkcimmlaoipdkaaDoor.PFnExactLengthOf
open Go.RowKit Go.Proofs.YtkcimmlaoipdkaaDoorW.PrintWords
def good77 (x : S77) : Prop := (x.f0.size ≤ maxLen) ∧ (x.f1.size ≤ maxLen)
def laws_FnExactLengthOf.Stmt : Prop := ∀ (x0 : List S77), (x0.length ≤ maxLen ∧ ∀ y ∈ x0, good77 y) → ∃ k, laws_FnExactLengthOf.f k x0 = some true
end Go.Proofs.YtkcimmlaoipdkaaDoor.PFnExactLengthOf
