/- The pure statement of the law FnExactEncoderOK: what is left of it when the machine is gone; no condition. -/
import Derived.Test.YtjhcphcjpndciaaPFnExactEncoderOKx0
import Derived.Test.YtjhcphcjpndciaaPFnExactEncoderOKx1
import Derived.Test.YtjhcphcjpndciaaPFnExactEncoderOKx2
import Derived.Test.YtjhcphcjpndciaaPFnExactEncoderOKx3
import Derived.Test.YtjhcphcjpndciaaPFnExactEncoderOKx4
import Derived.Test.YtjhcphcjpndciaaPFnExactEncoderOKx5
import Derived.Test.YtjhcphcjpndciaaPFnExactEncoderOKx6
import Derived.Test.YtjhcphcjpndciaaPFnExactEncoderOKx7
import Derived.Test.YtjhcphcjpndciaaPFnExactEncoderOKx8
import Derived.Test.YtjhcphcjpndciaaPFnExactEncoderOKx9
import Derived.Test.YtjhcphcjpndciaaPFnExactEncoderOKx10
namespace Go.Proofs.Ytjhcphcjpndciaa.PFnExactEncoderOK
open Go.RowKit Go.Proofs.YtjhcphcjpndciaaW.PrintWords
def good78 (x : S78) : Prop := (x.f0.size ≤ maxLen) ∧ (x.f1.size ≤ maxLen)
def good64 (x : S64) : Prop := ((Lit.int .i64 x.f0).wf = true) ∧ ((Lit.int .i64 x.f1).wf = true) ∧ ((Lit.int .i64 x.f2).wf = true) ∧ (x.f3.length ≤ maxLen ∧ ∀ y ∈ x.f3, good78 y)
def good201 (x : S201) : Prop := ((Lit.int .i64 x.f0).wf = true) ∧ ((Lit.int .i64 x.f1).wf = true) ∧ ((Lit.int .i64 x.f2).wf = true)
def good85 (x : S85) : Prop := (good64 x.f0) ∧ ((Lit.int .i64 x.f1).wf = true) ∧ ((Lit.int .i64 x.f2).wf = true) ∧ (x.f3.length ≤ maxLen ∧ ∀ y ∈ x.f3, good201 y)
def laws_FnExactEncoderOK.Stmt : Prop := ∀ (x0 : S85), (good85 x0) → ∃ k, laws_FnExactEncoderOK.f k x0.f0.f0 x0.f0.f1 x0.f0.f2 x0.f0.f3 x0.f1 x0.f2 x0.f3 = some true
end Go.Proofs.Ytjhcphcjpndciaa.PFnExactEncoderOK
