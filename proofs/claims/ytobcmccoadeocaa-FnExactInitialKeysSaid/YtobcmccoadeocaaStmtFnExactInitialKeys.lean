/- The pure statement of the law FnExactInitialKeys: what is left of it when the machine is gone; no condition. -/
import Derived.Test.YtobcmccoadeocaaPFnExactInitialKeysx0
import Derived.Test.YtobcmccoadeocaaPFnExactInitialKeysx1
import Derived.Test.YtobcmccoadeocaaPFnExactInitialKeysx2
import Derived.Test.YtobcmccoadeocaaPFnExactInitialKeysx3
import Derived.Test.YtobcmccoadeocaaPFnExactInitialKeysx4
import Derived.Test.YtobcmccoadeocaaPFnExactInitialKeysx5
import Derived.Test.YtobcmccoadeocaaPFnExactInitialKeysx6
namespace Go.Proofs.Ytobcmccoadeocaa.PFnExactInitialKeys
open Go.RowKit Go.Proofs.YtobcmccoadeocaaW.PrintWords
def laws_FnExactInitialKeys.Stmt : Prop := ∀ (x0 : Int) (x1 : List Int), ((Lit.int .i64 x0).wf = true) → (x1.length ≤ maxLen ∧ ∀ y ∈ x1, (Lit.int .u8 y).wf = true) → (x1.length * 1 ≤ 140737488351232) → ∃ k, laws_FnExactInitialKeys.f k x0 x1 = some true
end Go.Proofs.Ytobcmccoadeocaa.PFnExactInitialKeys
