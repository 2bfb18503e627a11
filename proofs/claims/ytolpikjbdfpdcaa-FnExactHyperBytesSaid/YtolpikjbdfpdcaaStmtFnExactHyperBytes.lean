/- The pure statement of the law FnExactHyperBytes: what is left of it when the machine is gone; no condition. -/
import Derived.Test.YtolpikjbdfpdcaaPFnExactHyperBytesx0
import Derived.Test.YtolpikjbdfpdcaaPFnExactHyperBytesx1
import Derived.Test.YtolpikjbdfpdcaaPFnExactHyperBytesx2
import Derived.Test.YtolpikjbdfpdcaaPFnExactHyperBytesx3
import Derived.Test.YtolpikjbdfpdcaaPFnExactHyperBytesx4
import Derived.Test.YtolpikjbdfpdcaaPFnExactHyperBytesx5
import Derived.Test.YtolpikjbdfpdcaaPFnExactHyperBytesx6
import Derived.Test.YtolpikjbdfpdcaaPFnExactHyperBytesx7
import Derived.Test.YtolpikjbdfpdcaaPFnExactHyperBytesx8
namespace Go.Proofs.Ytolpikjbdfpdcaa.PFnExactHyperBytes
open Go.RowKit Go.Proofs.YtolpikjbdfpdcaaW.PrintWords
def good177 (x : S177) : Prop := ((Lit.int .i64 x.f0).wf = true) ∧ ((Lit.int .i64 x.f1).wf = true)
def good70 (x : S70) : Prop := ((Lit.int .i64 x.f0).wf = true) ∧ ((Lit.int .i64 x.f1).wf = true) ∧ (x.f2.length ≤ maxLen ∧ ∀ y ∈ x.f2, (Lit.int .u8 y).wf = true) ∧ (x.f3.length ≤ maxLen ∧ ∀ y ∈ x.f3, good177 y)
def laws_FnExactHyperBytes.Stmt : Prop := ∀ (x0 : S70), (good70 x0) → ∃ k, laws_FnExactHyperBytes.f k x0.f0 x0.f1 x0.f2 x0.f3 = some true
end Go.Proofs.Ytolpikjbdfpdcaa.PFnExactHyperBytes
