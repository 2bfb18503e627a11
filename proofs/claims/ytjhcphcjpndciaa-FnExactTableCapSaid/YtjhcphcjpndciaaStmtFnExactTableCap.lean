/- The pure statement of the law FnExactTableCap: what is left of it when the machine is gone; no condition. -/
import Derived.Test.YtjhcphcjpndciaaPFnExactTableCapx0
import Derived.Test.YtjhcphcjpndciaaPFnExactTableCapx1
import Derived.Test.YtjhcphcjpndciaaPFnExactTableCapx2
import Derived.Test.YtjhcphcjpndciaaPFnExactTableCapx3
import Derived.Test.YtjhcphcjpndciaaPFnExactTableCapx4
import Derived.Test.YtjhcphcjpndciaaPFnExactTableCapx5
import Derived.Test.YtjhcphcjpndciaaPFnExactTableCapx6
import Derived.Test.YtjhcphcjpndciaaPFnExactTableCapx7
import Derived.Test.YtjhcphcjpndciaaPFnExactTableCapx8
namespace Go.Proofs.Ytjhcphcjpndciaa.PFnExactTableCap
open Go.RowKit Go.Proofs.YtjhcphcjpndciaaW.PrintWords
def good78 (x : S78) : Prop := (x.f0.size ≤ maxLen) ∧ (x.f1.size ≤ maxLen)
def good64 (x : S64) : Prop := ((Lit.int .i64 x.f0).wf = true) ∧ ((Lit.int .i64 x.f1).wf = true) ∧ ((Lit.int .i64 x.f2).wf = true) ∧ (x.f3.length ≤ maxLen ∧ ∀ y ∈ x.f3, good78 y)
def laws_FnExactTableCap.Stmt : Prop := ∀ (x0 : S64) (x1 : Int), (good64 x0) → ((Lit.int .i64 x1).wf = true) → ∃ k, laws_FnExactTableCap.f k x0.f0 x0.f1 x0.f2 x0.f3 x1 = some true
end Go.Proofs.Ytjhcphcjpndciaa.PFnExactTableCap
