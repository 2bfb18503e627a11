/- The pure statement of the law FnExactParamsOK: what is left of it when the machine is gone; no condition. -/
import Derived.Test.YtjhcphcjpndciaaPFnExactParamsOKx0
import Derived.Test.YtjhcphcjpndciaaPFnExactParamsOKx1
import Derived.Test.YtjhcphcjpndciaaPFnExactParamsOKx2
import Derived.Test.YtjhcphcjpndciaaPFnExactParamsOKx3
import Derived.Test.YtjhcphcjpndciaaPFnExactParamsOKx4
namespace Go.Proofs.Ytjhcphcjpndciaa.PFnExactParamsOK
open Go.RowKit Go.Proofs.YtjhcphcjpndciaaW.PrintWords
def good30 (x : S30) : Prop := ((Lit.int .i64 x.f0).wf = true) ∧ ((Lit.int .i64 x.f1).wf = true) ∧ ((Lit.int .i64 x.f2).wf = true) ∧ ((Lit.int .i64 x.f3).wf = true) ∧ ((Lit.int .i64 x.f4).wf = true) ∧ ((Lit.int .i64 x.f5).wf = true) ∧ ((Lit.int .i64 x.f6).wf = true) ∧ ((Lit.int .i64 x.f7).wf = true) ∧ ((Lit.int .i64 x.f8).wf = true) ∧ (True) ∧ (x.f10.length ≤ maxLen ∧ ∀ y ∈ x.f10, (Lit.int .u8 y).wf = true) ∧ (x.f11.length ≤ maxLen ∧ ∀ y ∈ x.f11, (Lit.int .u8 y).wf = true) ∧ (x.f12.length ≤ maxLen ∧ ∀ y ∈ x.f12, (Lit.int .u8 y).wf = true)
def laws_FnExactParamsOK.Stmt : Prop := ∀ (x0 : S30) (x1 : Bool), (good30 x0) → (True) → ∃ k, laws_FnExactParamsOK.f k x0.f0 x0.f1 x0.f2 x0.f3 x0.f4 x0.f5 x0.f6 x0.f7 x0.f8 x0.f9 x0.f10 x0.f11 x0.f12 x1 = some true
end Go.Proofs.Ytjhcphcjpndciaa.PFnExactParamsOK
