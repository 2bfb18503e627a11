/- The pure statement of the law FnExactTableOK: what is left of it when the machine is gone; no condition. -/
import Derived.Test.YtjhcphcjpndciaaPFnExactTableOKx0
import Derived.Test.YtjhcphcjpndciaaPFnExactTableOKx1
import Derived.Test.YtjhcphcjpndciaaPFnExactTableOKx2
import Derived.Test.YtjhcphcjpndciaaPFnExactTableOKx3
import Derived.Test.YtjhcphcjpndciaaPFnExactTableOKx4
import Derived.Test.YtjhcphcjpndciaaPFnExactTableOKx5
namespace Go.Proofs.Ytjhcphcjpndciaa.PFnExactTableOK
open Go.RowKit Go.Proofs.YtjhcphcjpndciaaW.PrintWords
def good78 (x : S78) : Prop := (x.f0.size ≤ maxLen) ∧ (x.f1.size ≤ maxLen)
def good64 (x : S64) : Prop := ((Lit.int .i64 x.f0).wf = true) ∧ ((Lit.int .i64 x.f1).wf = true) ∧ ((Lit.int .i64 x.f2).wf = true) ∧ (x.f3.length ≤ maxLen ∧ ∀ y ∈ x.f3, good78 y)
def laws_FnExactTableOK.Stmt : Prop := ∀ (x0 : S64), (good64 x0) → ∃ k, laws_FnExactTableOK.f k x0.f0 x0.f1 x0.f2 x0.f3 = some true
end Go.Proofs.Ytjhcphcjpndciaa.PFnExactTableOK
