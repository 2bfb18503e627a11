/- The pure statement of the law FnExactChooseVersion: what is left of it when the machine is gone; no condition. -/
import Derived.Test.YtffmebjogdemhaaPFnExactChooseVersionx0
import Derived.Test.YtffmebjogdemhaaPFnExactChooseVersionx1
import Derived.Test.YtffmebjogdemhaaPFnExactChooseVersionx2
namespace Go.Proofs.Ytffmebjogdemhaa.PFnExactChooseVersion
open Go.RowKit Go.Proofs.YtffmebjogdemhaaW.PrintWords
def laws_FnExactChooseVersion.Stmt : Prop := ∀ (x0 : List Int) (x1 : List Int), (x0.length ≤ maxLen ∧ ∀ x ∈ x0, (Lit.int .i64 x).wf = true) → (x0.length * 8 ≤ 140737488351232) → (x1.length ≤ maxLen ∧ ∀ x ∈ x1, (Lit.int .i64 x).wf = true) → (x1.length * 8 ≤ 140737488351232) → ∃ k, laws_FnExactChooseVersion.f k x0 x1 = some true
end Go.Proofs.Ytffmebjogdemhaa.PFnExactChooseVersion
