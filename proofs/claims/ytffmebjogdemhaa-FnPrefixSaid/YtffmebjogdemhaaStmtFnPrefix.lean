/- The pure statement of the law FnPrefix: what is left of it when the machine is gone; no condition. -/
import Derived.Test.YtffmebjogdemhaaPFnPrefixx0
import Derived.Test.YtffmebjogdemhaaPFnPrefixx1
import Derived.Test.YtffmebjogdemhaaPFnPrefixx2
import Derived.Test.YtffmebjogdemhaaPFnPrefixx3
namespace Go.Proofs.Ytffmebjogdemhaa.PFnPrefix
open Go.RowKit Go.Proofs.YtffmebjogdemhaaW.PrintWords
def laws_FnPrefix.Stmt : Prop := ∀ (x0 : List Int), (x0.length ≤ maxLen ∧ ∀ x ∈ x0, (Lit.int .u8 x).wf = true) → (x0.length * 1 ≤ 140737488351232) → ∃ k, laws_FnPrefix.f k x0 = some true
end Go.Proofs.Ytffmebjogdemhaa.PFnPrefix
