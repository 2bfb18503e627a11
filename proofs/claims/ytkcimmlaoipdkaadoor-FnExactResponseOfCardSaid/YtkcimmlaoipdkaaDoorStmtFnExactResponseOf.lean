/- The pure statement of the law FnExactResponseOf: what is left of it when the machine is gone; no condition. -/
import Derived.Test.YtkcimmlaoipdkaaDoorPFnExactResponseOfx0
import Derived.Test.YtkcimmlaoipdkaaDoorPFnExactResponseOfx1
import Derived.Test.YtkcimmlaoipdkaaDoorPFnExactResponseOfx2
import Derived.Test.YtkcimmlaoipdkaaDoorPFnExactResponseOfx3
import Derived.Test.YtkcimmlaoipdkaaDoorPFnExactResponseOfx4
import Derived.Test.YtkcimmlaoipdkaaDoorPFnExactResponseOfx5
import Derived.Test.YtkcimmlaoipdkaaDoorPFnExactResponseOfx6
import Derived.Test.YtkcimmlaoipdkaaDoorPFnExactResponseOfx7
import Derived.Test.YtkcimmlaoipdkaaDoorPFnExactResponseOfx8
import Derived.Test.YtkcimmlaoipdkaaDoorPFnExactResponseOfx9
namespace Go.Proofs.YtkcimmlaoipdkaaDoor.PFnExactResponseOf
open Go.RowKit Go.Proofs.YtkcimmlaoipdkaaDoorW.PrintWords
def good77 (x : S77) : Prop := (x.f0.size ≤ maxLen) ∧ (x.f1.size ≤ maxLen)
def laws_FnExactResponseOf.Stmt : Prop := ∀ (x0 : List S77), (x0.length ≤ maxLen ∧ ∀ y ∈ x0, good77 y) → ∃ k, laws_FnExactResponseOf.f k x0 = some true
end Go.Proofs.YtkcimmlaoipdkaaDoor.PFnExactResponseOf
