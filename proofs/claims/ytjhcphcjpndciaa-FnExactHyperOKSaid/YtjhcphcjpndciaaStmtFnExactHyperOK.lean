/- The pure statement of the law FnExactHyperOK: what is left of it when the machine is gone; no condition. -/
import Derived.Test.YtjhcphcjpndciaaPFnExactHyperOKx0
import Derived.Test.YtjhcphcjpndciaaPFnExactHyperOKx1
import Derived.Test.YtjhcphcjpndciaaPFnExactHyperOKx2
import Derived.Test.YtjhcphcjpndciaaPFnExactHyperOKx3
import Derived.Test.YtjhcphcjpndciaaPFnExactHyperOKx4
import Derived.Test.YtjhcphcjpndciaaPFnExactHyperOKx5
namespace Go.Proofs.Ytjhcphcjpndciaa.PFnExactHyperOK
open Go.RowKit Go.Proofs.YtjhcphcjpndciaaW.PrintWords
def good190 (x : S190) : Prop := ((Lit.int .i64 x.f0).wf = true) ∧ ((Lit.int .i64 x.f1).wf = true)
def good39 (x : S39) : Prop := ((Lit.int .i64 x.f0).wf = true) ∧ ((Lit.int .i64 x.f1).wf = true) ∧ (x.f2.length ≤ maxLen ∧ ∀ y ∈ x.f2, (Lit.int .u8 y).wf = true) ∧ (x.f3.length ≤ maxLen ∧ ∀ y ∈ x.f3, good190 y)
def laws_FnExactHyperOK.Stmt : Prop := ∀ (x0 : S39), (good39 x0) → ∃ k, laws_FnExactHyperOK.f k x0.f0 x0.f1 x0.f2 x0.f3 = some true
end Go.Proofs.Ytjhcphcjpndciaa.PFnExactHyperOK
