/- The pure statement of the law FnExactGetPrefix: what is left of it when the machine is gone; no condition. -/
import Derived.Test.YtffmebjogdemhaaPFnExactGetPrefixx0
import Derived.Test.YtffmebjogdemhaaPFnExactGetPrefixx1
import Derived.Test.YtffmebjogdemhaaPFnExactGetPrefixx2
import Derived.Test.YtffmebjogdemhaaPFnExactGetPrefixx3
namespace Go.Proofs.Ytffmebjogdemhaa.PFnExactGetPrefix
open Go.RowKit Go.Proofs.YtffmebjogdemhaaW.PrintWords
def laws_FnExactGetPrefix.Stmt : Prop := ∀ (x0 : List Int) (x1 : Int) (x2 : Int), (x0.length ≤ maxLen ∧ ∀ x ∈ x0, (Lit.int .u8 x).wf = true) → (x0.length * 1 ≤ 140737488351232) → ((Lit.int .i64 x1).wf = true) → ((Lit.int .i64 x2).wf = true) → ∃ k, laws_FnExactGetPrefix.f k x0 x1 x2 = some true
end Go.Proofs.Ytffmebjogdemhaa.PFnExactGetPrefix
