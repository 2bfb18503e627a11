/- The program's PriorityText answers what the reference's PriorityText answers, for every urgency, in turns or not; no condition. -/
import Derived.Test.YtkcimmlaoipdkaaDoorPFnExactPriorityTextx0
import Derived.Test.YtkcimmlaoipdkaaDoorPFnExactPriorityTextx1
import Derived.Laws.BitsLemmas
import Derived.Laws.BitsAllLaws
set_option linter.unusedVariables false
set_option linter.unusedSimpArgs false
set_option maxRecDepth 4000
namespace Go.Proofs.YtkcimmlaoipdkaaDoor.Pure
open Go.RowKit Go.Proofs.YtkcimmlaoipdkaaDoor.PFnExactPriorityText Go.Proofs.YtkcimmlaoipdkaaDoorW.PrintWords Go.Proofs.YtkcimmlaoipdkaaDoorW.PrintLast Go.Proofs.YtkcimmlaoipdkaaDoorW.PrintMore

theorem itoa8 (n : Nat) (h : n < 8) : strconv_Itoa.f (n : Int) = some (strOfNums [(wrap64 (48 + (n : Int))) % 256]) := by
  unfold strconv_Itoa.f
  rw [if_pos ⟨by omega, by omega⟩, Int.toNat_natCast]
  unfold Go.Lib.decDigits
  rw [dif_pos (by omega)]
  have h8 : n = 0 ∨ n = 1 ∨ n = 2 ∨ n = 3 ∨ n = 4 ∨ n = 5 ∨ n = 6 ∨ n = 7 := by omega
  rcases h8 with rfl | rfl | rfl | rfl | rfl | rfl | rfl | rfl
  all_goals (show _ = _; kernel_rfl)
theorem prio_size (n : Int) : (strOfNums [n]).size = 1 := rfl
theorem prio_j (a : Int) (b x : Bool) (h : x = false → 0 ≤ a ∧ a ≤ 7) : ∃ r, spec_PriorityText.j0 1 a b x = some r ∧ impl_PriorityText.j0 1 a b x = some r := by
  cases x with
  | true => exact ⟨⟨#[]⟩, rfl, rfl⟩
  | false =>
    obtain ⟨h0, h7⟩ := h rfl
    obtain ⟨n, rfl⟩ : ∃ n : Nat, a = (n : Int) := ⟨a.toNat, by omega⟩
    simp only [spec_PriorityText.j0, impl_PriorityText.j0, itoa8 n (by omega), Bool.false_eq_true, if_false, Option.bind_some]
    have e : 2 + (strOfNums [(wrap64 (48 + (n : Int))) % 256]).size ≤ 9223372036854775807 := by rw [prio_size]; omega
    have e2 : ((⟨#[117, 61]⟩ : ByteArray) ++ strOfNums [(wrap64 (48 + (n : Int))) % 256]).size + 3 ≤ 9223372036854775807 := by
      rw [ByteArray.size_append, prio_size]
      decide
    rw [if_pos e, if_pos e2]
    cases b <;> exact ⟨_, rfl, rfl⟩
theorem FnExactPriorityText : laws_FnExactPriorityText.Pure := by
  intro a b _
  refine ⟨1, ?_⟩
  unfold laws_FnExactPriorityText.f
  have h : ∃ r, spec_PriorityText.f 1 a b = some r ∧ impl_PriorityText.f 1 a b = some r := by
    unfold spec_PriorityText.f impl_PriorityText.f
    by_cases h0 : a < 0
    · rw [if_pos h0, if_pos h0]
      exact prio_j a b true (fun h => by cases h)
    · rw [if_neg h0, if_neg h0]
      exact prio_j a b _ (fun h => by have := of_decide_eq_false h; omega)
  obtain ⟨r, h1, h2⟩ := h
  rw [h1, h2]
  simp

end Go.Proofs.YtkcimmlaoipdkaaDoor.Pure
