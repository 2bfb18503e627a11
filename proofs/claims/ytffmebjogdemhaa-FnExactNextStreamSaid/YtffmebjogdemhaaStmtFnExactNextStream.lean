/- The pure statement of the law FnExactNextStream: what is left of it when the machine is gone; no condition. -/
import Derived.Test.YtffmebjogdemhaaPFnExactNextStreamx0
import Derived.Test.YtffmebjogdemhaaPFnExactNextStreamx1
import Derived.Test.YtffmebjogdemhaaPFnExactNextStreamx2
import Derived.Test.YtffmebjogdemhaaPFnExactNextStreamx3
namespace Go.Proofs.Ytffmebjogdemhaa.PFnExactNextStream
open Go.RowKit Go.Proofs.YtffmebjogdemhaaW.PrintWords
def good99 (x : S99) : Prop := ((Lit.int .i64 x.f0).wf = true) ∧ ((Lit.int .i64 x.f1).wf = true) ∧ ((Lit.int .i64 x.f2).wf = true) ∧ (True)
def laws_FnExactNextStream.Stmt : Prop := ∀ (x0 : List S99), (x0.length ≤ maxLen ∧ ∀ x ∈ x0, good99 x) → ∃ k, laws_FnExactNextStream.f k x0 = some true
end Go.Proofs.Ytffmebjogdemhaa.PFnExactNextStream
