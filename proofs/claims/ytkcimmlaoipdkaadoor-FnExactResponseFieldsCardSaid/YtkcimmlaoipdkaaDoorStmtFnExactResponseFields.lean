/- The pure statement of the law FnExactResponseFields: what is left of it when the machine is gone; no condition. -/
import Derived.Test.YtkcimmlaoipdkaaDoorPFnExactResponseFieldsx0
import Derived.Test.YtkcimmlaoipdkaaDoorPFnExactResponseFieldsx1
import Derived.Test.YtkcimmlaoipdkaaDoorPFnExactResponseFieldsx2
import Derived.Test.YtkcimmlaoipdkaaDoorPFnExactResponseFieldsx3
import Derived.Test.YtkcimmlaoipdkaaDoorPFnExactResponseFieldsx4
import Derived.Test.YtkcimmlaoipdkaaDoorPFnExactResponseFieldsx5
import Derived.Test.YtkcimmlaoipdkaaDoorPFnExactResponseFieldsx6
import Derived.Test.YtkcimmlaoipdkaaDoorPFnExactResponseFieldsx7
import Derived.Test.YtkcimmlaoipdkaaDoorPFnExactResponseFieldsx8
namespace Go.Proofs.YtkcimmlaoipdkaaDoor.PFnExactResponseFields
open Go.RowKit Go.Proofs.YtkcimmlaoipdkaaDoorW.PrintWords
def good77 (x : S77) : Prop := (x.f0.size ≤ maxLen) ∧ (x.f1.size ≤ maxLen)
def good53 (x : S53) : Prop := ((Lit.int .i64 x.f0).wf = true) ∧ (x.f1.length ≤ maxLen ∧ ∀ y ∈ x.f1, good77 y)
def laws_FnExactResponseFields.Stmt : Prop := ∀ (x0 : S53), (good53 x0) → ∃ k, laws_FnExactResponseFields.f k x0.f0 x0.f1 = some true
end Go.Proofs.YtkcimmlaoipdkaaDoor.PFnExactResponseFields
