/- The program's StaticField answers what the reference's StaticField answers, for every number; no condition. -/
import Derived.Test.YtjhcphcjpndciaaPFnExactStaticFieldx0
import Derived.Test.YtjhcphcjpndciaaPFnExactStaticFieldx1
import Derived.Laws.BitsLemmas
import Derived.Laws.BitsAllLaws
set_option linter.unusedVariables false
set_option linter.unusedSimpArgs false
set_option maxRecDepth 4000
namespace Go.Proofs.Ytjhcphcjpndciaa.Pure
open Go.RowKit Go.Proofs.Ytjhcphcjpndciaa.PFnExactStaticField Go.Proofs.YtjhcphcjpndciaaW.PrintWords Go.Proofs.YtjhcphcjpndciaaW.PrintLast Go.Proofs.YtjhcphcjpndciaaW.PrintMore

theorem stat_same (a : Int) : impl_StaticField.f a = spec_StaticField.f a := by
  by_cases h1 : a < 0
  · unfold impl_StaticField.f spec_StaticField.f
    rw [if_pos h1, if_pos h1]
  · by_cases h2 : a ≥ 24
    · unfold impl_StaticField.f spec_StaticField.f
      rw [if_neg h1, if_neg h1, if_pos h2, if_pos h2]
    · obtain ⟨n, rfl⟩ : ∃ n : Nat, a = (n : Int) := ⟨a.toNat, by omega⟩
      have h : n = 0 ∨ n = 1 ∨ n = 2 ∨ n = 3 ∨ n = 4 ∨ n = 5 ∨ n = 6 ∨ n = 7 ∨ n = 8 ∨ n = 9 ∨ n = 10 ∨ n = 11 ∨ n = 12 ∨ n = 13 ∨ n = 14 ∨ n = 15 ∨ n = 16 ∨ n = 17 ∨ n = 18 ∨ n = 19 ∨ n = 20 ∨ n = 21 ∨ n = 22 ∨ n = 23 := by omega
      rcases h with rfl | rfl | rfl | rfl | rfl | rfl | rfl | rfl | rfl | rfl | rfl | rfl | rfl | rfl | rfl | rfl | rfl | rfl | rfl | rfl | rfl | rfl | rfl | rfl
      all_goals (show _ = _; kernel_rfl)
theorem stat_some (a : Int) : ∃ r, impl_StaticField.f a = some r := by
  unfold impl_StaticField.f
  repeat' split
  all_goals exact ⟨_, rfl⟩
theorem FnExactStaticField : laws_FnExactStaticField.Pure := by
  intro a _
  obtain ⟨r, hr⟩ := stat_some a
  unfold laws_FnExactStaticField.f
  rw [← stat_same, hr]
  simp [laws_eqField.f]

end Go.Proofs.Ytjhcphcjpndciaa.Pure
