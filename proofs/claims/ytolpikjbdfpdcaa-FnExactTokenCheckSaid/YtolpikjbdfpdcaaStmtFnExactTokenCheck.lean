/- The pure statement of the law FnExactTokenCheck: what is left of it when the machine is gone; no condition. -/
import Derived.Test.YtolpikjbdfpdcaaPFnExactTokenCheckx0
import Derived.Test.YtolpikjbdfpdcaaPFnExactTokenCheckx1
import Derived.Test.YtolpikjbdfpdcaaPFnExactTokenCheckx2
import Derived.Test.YtolpikjbdfpdcaaPFnExactTokenCheckx3
import Derived.Test.YtolpikjbdfpdcaaPFnExactTokenCheckx4
import Derived.Test.YtolpikjbdfpdcaaPFnExactTokenCheckx5
import Derived.Test.YtolpikjbdfpdcaaPFnExactTokenCheckx6
import Derived.Test.YtolpikjbdfpdcaaPFnExactTokenCheckx7
import Derived.Test.YtolpikjbdfpdcaaPFnExactTokenCheckx8
import Derived.Test.YtolpikjbdfpdcaaPFnExactTokenCheckx9
import Derived.Test.YtolpikjbdfpdcaaPFnExactTokenCheckx10
import Derived.Test.YtolpikjbdfpdcaaPFnExactTokenCheckx11
import Derived.Test.YtolpikjbdfpdcaaPFnExactTokenCheckx12
namespace Go.Proofs.Ytolpikjbdfpdcaa.PFnExactTokenCheck
open Go.RowKit Go.Proofs.YtolpikjbdfpdcaaW.PrintWords
def laws_FnExactTokenCheck.Stmt : Prop := ∀ (x0 : List Int) (x1 : List Int) (x2 : Int) (x3 : List Int), (x0.length ≤ maxLen ∧ ∀ x ∈ x0, (Lit.int .u8 x).wf = true) → (x0.length * 1 ≤ 140737488351232) → (x1.length ≤ maxLen ∧ ∀ x ∈ x1, (Lit.int .u8 x).wf = true) → (x1.length * 1 ≤ 140737488351232) → ((Lit.int .i64 x2).wf = true) → (x3.length ≤ maxLen ∧ ∀ x ∈ x3, (Lit.int .u8 x).wf = true) → (x3.length * 1 ≤ 140737488351232) → ∃ k, laws_FnExactTokenCheck.f k x0 x1 x2 x3 = some true
end Go.Proofs.Ytolpikjbdfpdcaa.PFnExactTokenCheck
