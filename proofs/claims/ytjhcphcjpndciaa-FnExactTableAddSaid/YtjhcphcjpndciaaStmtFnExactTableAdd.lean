/- The pure statement of the law FnExactTableAdd: what is left of it when the machine is gone; no condition. -/
import Derived.Test.YtjhcphcjpndciaaPFnExactTableAddx0
import Derived.Test.YtjhcphcjpndciaaPFnExactTableAddx1
import Derived.Test.YtjhcphcjpndciaaPFnExactTableAddx2
import Derived.Test.YtjhcphcjpndciaaPFnExactTableAddx3
import Derived.Test.YtjhcphcjpndciaaPFnExactTableAddx4
import Derived.Test.YtjhcphcjpndciaaPFnExactTableAddx5
import Derived.Test.YtjhcphcjpndciaaPFnExactTableAddx6
import Derived.Test.YtjhcphcjpndciaaPFnExactTableAddx7
import Derived.Test.YtjhcphcjpndciaaPFnExactTableAddx8
import Derived.Test.YtjhcphcjpndciaaPFnExactTableAddx9
import Derived.Test.YtjhcphcjpndciaaPFnExactTableAddx10
namespace Go.Proofs.Ytjhcphcjpndciaa.PFnExactTableAdd
open Go.RowKit Go.Proofs.YtjhcphcjpndciaaW.PrintWords
def good78 (x : S78) : Prop := (x.f0.size ≤ maxLen) ∧ (x.f1.size ≤ maxLen)
def good64 (x : S64) : Prop := ((Lit.int .i64 x.f0).wf = true) ∧ ((Lit.int .i64 x.f1).wf = true) ∧ ((Lit.int .i64 x.f2).wf = true) ∧ (x.f3.length ≤ maxLen ∧ ∀ y ∈ x.f3, good78 y)
def laws_FnExactTableAdd.Stmt : Prop := ∀ (x0 : S64) (x1 : S78), (good64 x0) → (good78 x1) → ∃ k, laws_FnExactTableAdd.f k x0.f0 x0.f1 x0.f2 x0.f3 x1.f0 x1.f1 = some true
end Go.Proofs.Ytjhcphcjpndciaa.PFnExactTableAdd
