/- The law FnExactTokenCheck returns true for every input, and leaves its arguments as they were: out of its pure statement; no condition. -/
import Derived.Test.YtolpikjbdfpdcaaRows
import Derived.Test.YtolpikjbdfpdcaaPFnExactTokenCheckx12
import Derived.Test.YtolpikjbdfpdcaaPureFnExactTokenCheck
import Derived.Test.YtolpikjbdfpdcaaVFnExactTokenCheck
import Derived.WalkKit
import Derived.ProofKit
import Derived.OpenShut
import Derived.ShutString
import Derived.ChangeOld
import Derived.Below
import Derived.SizedLaws
namespace Go.Proofs.Ytolpikjbdfpdcaa.fnExactTokenCheck
open Go.ChangeShapes Go.WideShapes Go.ChangeAt Go.RowKit Go.Proofs.Ytolpikjbdfpdcaa.PFnExactTokenCheck Go.Proofs.Ytolpikjbdfpdcaa.Opens Go.Proofs.YtolpikjbdfpdcaaW.PrintWords
open Go.ChangeMaps (open_string shut_string)
set_option linter.unusedVariables false
theorem own : ownKnob Try.prog.godebug = none := by kernel_rfl
theorem laidOut : laidOutB Try.prog = true := by kernel_rfl
set_option maxRecDepth 100000 in
set_option maxHeartbeats 1000000 in
theorem lifted (os : Os) (started : os.Started) (H : Type) (enc : TypeId × Value → H) :
    ReturnsInHanded {} Try.checked os 5 .any (Rows.fnExactTokenCheckSpec.pre6 enc Try.prog Try.f5 Rows.fnExactTokenCheckRow.domain false) (Rows.fnExactTokenCheckSpec.post enc Try.prog Try.f5 false true false false) := by
  refine returnsInHanded_of_change_sized (C := Try.checked) own started (by kernel_rfl) Try.func5
    (ChangeSpec.witness6 (enc := enc) (C := Try.checked) false ⟨#[], #[.slice none 0 0, .slice none 0 0, .int .i64 0, .slice none 0 0], []⟩ 8 (by kernel_rfl) (by kernel_rfl) (by kernel_rfl) (by kernel_rfl)) ?_
  intro W base args ds gs before hval0 hW hcnd hsz0 _
  have hsz : (DataW.weightsEach Try.prog (Try.f5.params.toList ++ Rows.fnExactTokenCheckSpec.plain.varTypes Try.prog) (ds ++ gs)).all (· ≤ reachBytes) = true := hsz0
  have hval : ∀ (j : Nat) t v, Try.f5.params[j]? = some t → args[j]? = some v → Value.okWide Try.prog W .any base t v := hval0
  have hW' := hW
  obtain ⟨p, q, hA0, hV, rfl, hfz, hnd⟩ := hW
  have hA : DataW.TrodAll enc Try.prog W 0 (fun _ => true) true Try.f5.params.toList args.toList ds p := hA0
  rw [Try.params5] at hA hval hsz
  obtain ⟨v0, vs0, d0, ds0, p0, q0, hargs, rfl, rfl, h0, r0⟩ := trodAll_cons hA
  obtain ⟨v1, vs1, d1, ds1, p1, q1, rfl, rfl, rfl, h1, r1⟩ := trodAll_cons r0
  obtain ⟨v2, vs2, d2, ds2, p2, q2, rfl, rfl, rfl, h2, r2⟩ := trodAll_cons r1
  obtain ⟨v3, vs3, d3, ds3, p3, q3, rfl, rfl, rfl, h3, r3⟩ := trodAll_cons r2
  obtain ⟨rfl, rfl, rfl⟩ := trodAll_nil r3
  obtain rfl : args = #[v0, v1, v2, v3] := by cases args; simp_all
  obtain ⟨rfl, rfl⟩ := trodVars_none hV
  have kp0 := h0
  have lt0 : ∀ x ∈ p0, x.block < W.heap.size := by obtain ⟨m, hm⟩ := kp0; exact DataW.trod_lt m _ _ _ hm
  obtain ⟨a0, len0, cap0, rfl⟩ := okWide_slice Try.underlying22 (hval 0 22 v0 rfl rfl)
  have y0 : len0 * 1 ≤ 140737488351232 := sized_ints hsz (j := 0) (t := 22) rfl rfl Try.underlying22 Try.underlying5 (by kernel_rfl) (by kernel_rfl) h0
  obtain ⟨x0, ⟨A0, c0, he0, hc0, hr0⟩, g0⟩ := Opens.of (opens_slice Try.underlying22 (by kernel_rfl) (opens_int Try.underlying5 (by kernel_rfl))) h0
  injection he0 with he0 _
  injection he0 with e1_0 e2_0 e3_0
  subst e1_0 e2_0 e3_0
  have kp1 := h1
  have lt1 : ∀ x ∈ p1, x.block < W.heap.size := by obtain ⟨m, hm⟩ := kp1; exact DataW.trod_lt m _ _ _ hm
  obtain ⟨a1, len1, cap1, rfl⟩ := okWide_slice Try.underlying22 (hval 1 22 v1 rfl rfl)
  have y1 : len1 * 1 ≤ 140737488351232 := sized_ints hsz (j := 1) (t := 22) rfl rfl Try.underlying22 Try.underlying5 (by kernel_rfl) (by kernel_rfl) h1
  obtain ⟨x1, ⟨A1, c1, he1, hc1, hr1⟩, g1⟩ := Opens.of (opens_slice Try.underlying22 (by kernel_rfl) (opens_int Try.underlying5 (by kernel_rfl))) h1
  injection he1 with he1 _
  injection he1 with e1_1 e2_1 e3_1
  subst e1_1 e2_1 e3_1
  obtain ⟨x2, rfl, rfl, rfl, g2⟩ := open_int Try.underlying3 (hval 2 3 v2 rfl rfl) h2
  have kp3 := h3
  have lt3 : ∀ x ∈ p3, x.block < W.heap.size := by obtain ⟨m, hm⟩ := kp3; exact DataW.trod_lt m _ _ _ hm
  obtain ⟨a3, len3, cap3, rfl⟩ := okWide_slice Try.underlying22 (hval 3 22 v3 rfl rfl)
  have y3 : len3 * 1 ≤ 140737488351232 := sized_ints hsz (j := 3) (t := 22) rfl rfl Try.underlying22 Try.underlying5 (by kernel_rfl) (by kernel_rfl) h3
  obtain ⟨x3, ⟨A3, c3, he3, hc3, hr3⟩, g3⟩ := Opens.of (opens_slice Try.underlying22 (by kernel_rfl) (opens_int Try.underlying5 (by kernel_rfl))) h3
  injection he3 with he3 _
  injection he3 with e1_3 e2_3 e3_3
  subst e1_3 e2_3 e3_3
  clear hA0 hval0 hsz0 hsz
  obtain ⟨k, hk⟩ := Pure.FnExactTokenCheck x0 x1 x2 x3 g0 y0 g1 y1 g2 g3 y3
  refine (laws_FnExactTokenCheck.calls k _ _ x0 _ _ x1 x2 _ _ x3 true W hr0 hc0 hr1 hc1 hr3 hc3 hk).mono fun e W' ⟨he_, hd_⟩ => ?_
  have bel : Below W.heap.size W W' := hd_
  subst he_
  exact ⟨_, rfl, _, _, _, [], _, [], hW', trodAll_mk1 (shut_bool Try.underlying4 _), (trodAll_cons_mk (Below.trod laidOut (by kernel_rfl) (of_decide_eq_true (by kernel_rfl)) kp0 bel lt0) (trodAll_cons_mk (Below.trod laidOut (by kernel_rfl) (of_decide_eq_true (by kernel_rfl)) kp1 bel lt1) (trodAll_cons_mk (shut_int Try.underlying3 g2) (trodAll_cons_mk (Below.trod laidOut (by kernel_rfl) (of_decide_eq_true (by kernel_rfl)) kp3 bel lt3) trodAll_mk0)))), rfl, bel.frame _, fun h => by cases h⟩
theorem over : Rows.fnExactTokenCheckRow.holds Try.pinned (OpenSpec.ofChange Rows.fnExactTokenCheckSpec) :=
  OpenClaim.holds_of_wide 5 Try.f5 rfl rfl rfl rfl rfl rfl rfl ⟨rfl, rfl, rfl, rfl, rfl⟩ rfl rfl rfl rfl rfl (by kernel_rfl) Try.func5 (by kernel_rfl)
    (of_decide_eq_true (by kernel_rfl)) (by unfold Func.isWrapper; first | (rw [if_pos (by decide +kernel)]; kernel_rfl) | (rw [if_neg (by decide +kernel)]; exact ⟨rfl, rfl⟩))
    (fun os started H enc _ => lifted os started H enc)
end Go.Proofs.Ytolpikjbdfpdcaa.fnExactTokenCheck
namespace Go.Proofs.Ytolpikjbdfpdcaa
theorem fnExactTokenCheck_holds : Rows.FnExactTokenCheckSaid := fnExactTokenCheck.over
#print axioms fnExactTokenCheck_holds
end Go.Proofs.Ytolpikjbdfpdcaa
