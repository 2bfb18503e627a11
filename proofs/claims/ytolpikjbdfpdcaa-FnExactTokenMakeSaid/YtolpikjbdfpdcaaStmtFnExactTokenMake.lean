/- The pure statement of the law FnExactTokenMake: what is left of it when the machine is gone; no condition. -/
import Derived.Test.YtolpikjbdfpdcaaPFnExactTokenMakex0
import Derived.Test.YtolpikjbdfpdcaaPFnExactTokenMakex1
import Derived.Test.YtolpikjbdfpdcaaPFnExactTokenMakex2
import Derived.Test.YtolpikjbdfpdcaaPFnExactTokenMakex3
import Derived.Test.YtolpikjbdfpdcaaPFnExactTokenMakex4
import Derived.Test.YtolpikjbdfpdcaaPFnExactTokenMakex5
import Derived.Test.YtolpikjbdfpdcaaPFnExactTokenMakex6
import Derived.Test.YtolpikjbdfpdcaaPFnExactTokenMakex7
import Derived.Test.YtolpikjbdfpdcaaPFnExactTokenMakex8
import Derived.Test.YtolpikjbdfpdcaaPFnExactTokenMakex9
import Derived.Test.YtolpikjbdfpdcaaPFnExactTokenMakex10
namespace Go.Proofs.Ytolpikjbdfpdcaa.PFnExactTokenMake
open Go.RowKit Go.Proofs.YtolpikjbdfpdcaaW.PrintWords
def laws_FnExactTokenMake.Stmt : Prop := ∀ (x0 : List Int) (x1 : List Int) (x2 : Int) (x3 : List Int), (x0.length ≤ maxLen ∧ ∀ x ∈ x0, (Lit.int .u8 x).wf = true) → (x0.length * 1 ≤ 140737488351232) → (x1.length ≤ maxLen ∧ ∀ x ∈ x1, (Lit.int .u8 x).wf = true) → (x1.length * 1 ≤ 140737488351232) → ((Lit.int .i64 x2).wf = true) → (x3.length ≤ maxLen ∧ ∀ x ∈ x3, (Lit.int .u8 x).wf = true) → (x3.length * 1 ≤ 140737488351232) → ∃ k, laws_FnExactTokenMake.f k x0 x1 x2 x3 = some true
end Go.Proofs.Ytolpikjbdfpdcaa.PFnExactTokenMake
