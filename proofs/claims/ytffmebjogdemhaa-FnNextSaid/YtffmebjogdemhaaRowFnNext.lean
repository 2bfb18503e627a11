/- The law FnNext returns true for every input, and leaves its arguments as they were: out of its pure statement; no condition. -/
import Derived.Test.YtffmebjogdemhaaRows
import Derived.Test.YtffmebjogdemhaaPFnNextx3
import Derived.Test.YtffmebjogdemhaaPureFnNext
import Derived.Test.YtffmebjogdemhaaOpens
import Derived.Test.YtffmebjogdemhaaWSized
import Derived.WalkKit
import Derived.ProofKit
import Derived.OpenShut
import Derived.ShutString
import Derived.ChangeOld
import Derived.Below
import Derived.SizedLaws
namespace Go.Proofs.Ytffmebjogdemhaa.fnNext
open Go.ChangeShapes Go.WideShapes Go.ChangeAt Go.RowKit Go.Proofs.Ytffmebjogdemhaa.PFnNext Go.Proofs.Ytffmebjogdemhaa.Opens Go.Proofs.YtffmebjogdemhaaW.PrintWords
open Go.ChangeMaps (open_string shut_string)
set_option linter.unusedVariables false
theorem own : ownKnob Try.prog.godebug = none := by kernel_rfl
theorem laidOut : laidOutB Try.prog = true := by kernel_rfl
set_option maxRecDepth 100000 in
set_option maxHeartbeats 1000000 in
theorem lifted (os : Os) (started : os.Started) (H : Type) (enc : TypeId × Value → H) :
    ReturnsInHanded {} Try.checked os 11 .any (Rows.fnNextSpec.pre6 enc Try.prog Try.f11 Rows.fnNextRow.domain false) (Rows.fnNextSpec.post enc Try.prog Try.f11 false true false false) := by
  refine returnsInHanded_of_change_sized (C := Try.checked) own started (by kernel_rfl) Try.func11
    (ChangeSpec.witness6 (enc := enc) (C := Try.checked) false ⟨#[], #[.slice none 0 0], []⟩ 8 (by kernel_rfl) (by kernel_rfl) (by kernel_rfl) (by kernel_rfl)) ?_
  intro W base args ds gs before hval0 hW hcnd hsz0 _
  have hsz : (DataW.weightsEach Try.prog (Try.f11.params.toList ++ Rows.fnNextSpec.plain.varTypes Try.prog) (ds ++ gs)).all (· ≤ reachBytes) = true := hsz0
  have hval : ∀ (j : Nat) t v, Try.f11.params[j]? = some t → args[j]? = some v → Value.okWide Try.prog W .any base t v := hval0
  have hW' := hW
  obtain ⟨p, q, hA0, hV, rfl, hfz, hnd⟩ := hW
  have hA : DataW.TrodAll enc Try.prog W 0 (fun _ => true) true Try.f11.params.toList args.toList ds p := hA0
  rw [Try.params11] at hA hval hsz
  obtain ⟨v0, vs0, d0, ds0, p0, q0, hargs, rfl, rfl, h0, r0⟩ := trodAll_cons hA
  obtain ⟨rfl, rfl, rfl⟩ := trodAll_nil r0
  obtain rfl : args = #[v0] := by cases args; simp_all
  obtain ⟨rfl, rfl⟩ := trodVars_none hV
  have kp0 := h0
  have lt0 : ∀ x ∈ p0, x.block < W.heap.size := by obtain ⟨m, hm⟩ := kp0; exact DataW.trod_lt m _ _ _ hm
  obtain ⟨a0, len0, cap0, rfl⟩ := okWide_slice Try.underlying35 (hval 0 35 v0 rfl rfl)
  have y0 : len0 * 1 ≤ 140737488351232 := sized_ints hsz (j := 0) (t := 35) rfl rfl Try.underlying35 Try.underlying5 (by kernel_rfl) (by kernel_rfl) h0
  obtain ⟨x0, ⟨A0, c0, he0, hc0, hr0⟩, g0⟩ := Opens.of (opens_slice Try.underlying35 (by kernel_rfl) (opens_int Try.underlying5 (by kernel_rfl))) h0
  injection he0 with he0 _
  injection he0 with e1_0 e2_0 e3_0
  subst e1_0 e2_0 e3_0
  clear hA0 hval0 hsz0 hsz
  obtain ⟨k, hk⟩ := Pure.FnNext x0 g0 y0
  refine (laws_FnNext.calls k _ _ x0 true W hr0 hc0 hk).mono fun e W' ⟨he_, hd_⟩ => ?_
  have bel : Below W.heap.size W W' := hd_
  subst he_
  exact ⟨_, rfl, _, _, _, [], _, [], hW', trodAll_mk1 (shut_bool Try.underlying4 _), (trodAll_cons_mk (Below.trod laidOut (by kernel_rfl) (of_decide_eq_true (by kernel_rfl)) kp0 bel lt0) trodAll_mk0), rfl, bel.frame _, fun h => by cases h⟩
theorem over : Rows.fnNextRow.holds Try.pinned (OpenSpec.ofChange Rows.fnNextSpec) :=
  OpenClaim.holds_of_wide 11 Try.f11 rfl rfl rfl rfl rfl rfl rfl ⟨rfl, rfl, rfl, rfl, rfl⟩ rfl rfl rfl rfl rfl (by kernel_rfl) Try.func11 (by kernel_rfl)
    (of_decide_eq_true (by kernel_rfl)) (by unfold Func.isWrapper; first | (rw [if_pos (by decide +kernel)]; kernel_rfl) | (rw [if_neg (by decide +kernel)]; exact ⟨rfl, rfl⟩))
    (fun os started H enc _ => lifted os started H enc)
end Go.Proofs.Ytffmebjogdemhaa.fnNext
namespace Go.Proofs.Ytffmebjogdemhaa
theorem fnNext_holds : Rows.FnNextSaid := fnNext.over
#print axioms fnNext_holds
end Go.Proofs.Ytffmebjogdemhaa
