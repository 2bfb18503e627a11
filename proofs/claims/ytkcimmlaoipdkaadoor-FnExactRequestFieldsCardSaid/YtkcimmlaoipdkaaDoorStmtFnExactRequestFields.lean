/- The pure statement of the law FnExactRequestFields: what is left of it when the machine is gone; no condition. -/
import Derived.Test.YtkcimmlaoipdkaaDoorPFnExactRequestFieldsx0
import Derived.Test.YtkcimmlaoipdkaaDoorPFnExactRequestFieldsx1
import Derived.Test.YtkcimmlaoipdkaaDoorPFnExactRequestFieldsx2
import Derived.Test.YtkcimmlaoipdkaaDoorPFnExactRequestFieldsx3
import Derived.Test.YtkcimmlaoipdkaaDoorPFnExactRequestFieldsx4
import Derived.Test.YtkcimmlaoipdkaaDoorPFnExactRequestFieldsx5
import Derived.Test.YtkcimmlaoipdkaaDoorPFnExactRequestFieldsx6
import Derived.Test.YtkcimmlaoipdkaaDoorPFnExactRequestFieldsx7
import Derived.Test.YtkcimmlaoipdkaaDoorPFnExactRequestFieldsx8
namespace Go.Proofs.YtkcimmlaoipdkaaDoor.PFnExactRequestFields
open Go.RowKit Go.Proofs.YtkcimmlaoipdkaaDoorW.PrintWords
def good77 (x : S77) : Prop := (x.f0.size ≤ maxLen) ∧ (x.f1.size ≤ maxLen)
def good39 (x : S39) : Prop := (x.f0.size ≤ maxLen) ∧ (x.f1.size ≤ maxLen) ∧ (x.f2.size ≤ maxLen) ∧ (x.f3.size ≤ maxLen) ∧ (x.f4.length ≤ maxLen ∧ ∀ y ∈ x.f4, good77 y)
def laws_FnExactRequestFields.Stmt : Prop := ∀ (x0 : S39), (good39 x0) → ∃ k, laws_FnExactRequestFields.f k x0.f0 x0.f1 x0.f2 x0.f3 x0.f4 = some true
end Go.Proofs.YtkcimmlaoipdkaaDoor.PFnExactRequestFields
