/- The pure statement of the law FnExactRequestOf: what is left of it when the machine is gone; no condition. -/
import Derived.Test.YtkcimmlaoipdkaaDoorPFnExactRequestOfx0
import Derived.Test.YtkcimmlaoipdkaaDoorPFnExactRequestOfx1
import Derived.Test.YtkcimmlaoipdkaaDoorPFnExactRequestOfx2
import Derived.Test.YtkcimmlaoipdkaaDoorPFnExactRequestOfx3
import Derived.Test.YtkcimmlaoipdkaaDoorPFnExactRequestOfx4
import Derived.Test.YtkcimmlaoipdkaaDoorPFnExactRequestOfx5
import Derived.Test.YtkcimmlaoipdkaaDoorPFnExactRequestOfx6
import Derived.Test.YtkcimmlaoipdkaaDoorPFnExactRequestOfx7
import Derived.Test.YtkcimmlaoipdkaaDoorPFnExactRequestOfx8
import Derived.Test.YtkcimmlaoipdkaaDoorPFnExactRequestOfx9
import Derived.Test.YtkcimmlaoipdkaaDoorPFnExactRequestOfx10
import Derived.Test.YtkcimmlaoipdkaaDoorPFnExactRequestOfx11
namespace Go.Proofs.YtkcimmlaoipdkaaDoor.PFnExactRequestOf
open Go.RowKit Go.Proofs.YtkcimmlaoipdkaaDoorW.PrintWords
def good77 (x : S77) : Prop := (x.f0.size ≤ maxLen) ∧ (x.f1.size ≤ maxLen)
def laws_FnExactRequestOf.Stmt : Prop := ∀ (x0 : List S77), (x0.length ≤ maxLen ∧ ∀ y ∈ x0, good77 y) → ∃ k, laws_FnExactRequestOf.f k x0 = some true
end Go.Proofs.YtkcimmlaoipdkaaDoor.PFnExactRequestOf
