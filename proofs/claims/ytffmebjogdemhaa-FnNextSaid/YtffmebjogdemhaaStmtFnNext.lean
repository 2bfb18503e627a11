/- The pure statement of the law FnNext: what is left of it when the machine is gone; no condition. -/
import Derived.Test.YtffmebjogdemhaaPFnNextx0
import Derived.Test.YtffmebjogdemhaaPFnNextx1
import Derived.Test.YtffmebjogdemhaaPFnNextx2
import Derived.Test.YtffmebjogdemhaaPFnNextx3
namespace Go.Proofs.Ytffmebjogdemhaa.PFnNext
open Go.RowKit Go.Proofs.YtffmebjogdemhaaW.PrintWords
def laws_FnNext.Stmt : Prop := ∀ (x0 : List Int), (x0.length ≤ maxLen ∧ ∀ x ∈ x0, (Lit.int .u8 x).wf = true) → (x0.length * 1 ≤ 140737488351232) → ∃ k, laws_FnNext.f k x0 = some true
end Go.Proofs.Ytffmebjogdemhaa.PFnNext
