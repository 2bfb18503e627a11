/- The law FnExactNextStream returns true for every input, and leaves its arguments as they were: out of its pure statement; no condition. -/
import Derived.Test.YtffmebjogdemhaaRows
import Derived.Test.YtffmebjogdemhaaPFnExactNextStreamx3
import Derived.Test.YtffmebjogdemhaaPureFnExactNextStream
import Derived.Test.YtffmebjogdemhaaOpens
import Derived.Test.YtffmebjogdemhaaWSized
import Derived.WalkKit
import Derived.ProofKit
import Derived.OpenShut
import Derived.ShutString
import Derived.ChangeOld
import Derived.Below
import Derived.SizedLaws
namespace Go.Proofs.Ytffmebjogdemhaa.fnExactNextStream
open Go.ChangeShapes Go.WideShapes Go.ChangeAt Go.RowKit Go.Proofs.Ytffmebjogdemhaa.PFnExactNextStream Go.Proofs.Ytffmebjogdemhaa.Opens Go.Proofs.YtffmebjogdemhaaW.PrintWords
open Go.ChangeMaps (open_string shut_string)
set_option linter.unusedVariables false
theorem own : ownKnob Try.prog.godebug = none := by kernel_rfl
theorem laidOut : laidOutB Try.prog = true := by kernel_rfl
set_option maxRecDepth 100000 in
theorem opens99 {H : Type} (enc : TypeId × Value → H) (W : World) : Opens enc Try.prog W 99 k99 good99 := by
  refine opens_struct (α := (Int × (Int × (Int × Bool)))) (β := S99) (d := (Kd.pair (Kd.int .i64) (Kd.pair (Kd.int .i64) (Kd.pair (Kd.int .i64) Kd.bool)))) (f := fun x : S99 => (x.f0, x.f1, x.f2, x.f3)) (fun a => ⟨a.1, a.2.1, a.2.2.1, a.2.2.2⟩) (good := (fun a : (Int × (Int × (Int × Bool))) => ((Lit.int .i64 a.1).wf = true) ∧ ((Lit.int .i64 a.2.1).wf = true) ∧ ((Lit.int .i64 a.2.2.1).wf = true) ∧ (True))) (good' := good99) Try.underlying99 (by kernel_rfl) (fun _ => rfl) (fun _ h => h) ?_
  refine opensF_cons (d := (Kd.int .i64)) (good := fun a : Int => (Lit.int .i64 a).wf = true) (good2 := (fun a : (Int × (Int × Bool)) => ((Lit.int .i64 a.1).wf = true) ∧ ((Lit.int .i64 a.2.1).wf = true) ∧ (True))) rfl (opens_int Try.underlying3 (by kernel_rfl)) ?_
  refine opensF_cons (d := (Kd.int .i64)) (good := fun a : Int => (Lit.int .i64 a).wf = true) (good2 := (fun a : (Int × Bool) => ((Lit.int .i64 a.1).wf = true) ∧ (True))) rfl (opens_int Try.underlying3 (by kernel_rfl)) ?_
  refine opensF_cons (d := (Kd.int .i64)) (good := fun a : Int => (Lit.int .i64 a).wf = true) (good2 := (fun a : Bool => (True))) rfl (opens_int Try.underlying3 (by kernel_rfl)) ?_
  exact opensF_one rfl (opens_bool Try.underlying4 (by kernel_rfl))
set_option maxRecDepth 100000 in
set_option maxHeartbeats 1000000 in
theorem lifted (os : Os) (started : os.Started) (H : Type) (enc : TypeId × Value → H) :
    ReturnsInHanded {} Try.checked os 7 .any (Rows.fnExactNextStreamSpec.pre6 enc Try.prog Try.f7 Rows.fnExactNextStreamRow.domain false) (Rows.fnExactNextStreamSpec.post enc Try.prog Try.f7 false true false false) := by
  refine returnsInHanded_of_change_sized (C := Try.checked) own started (by kernel_rfl) Try.func7
    (ChangeSpec.witness6 (enc := enc) (C := Try.checked) false ⟨#[], #[.slice none 0 0], []⟩ 8 (by kernel_rfl) (by kernel_rfl) (by kernel_rfl) (by kernel_rfl)) ?_
  intro W base args ds gs before hval0 hW hcnd hsz0 _
  have hsz : (DataW.weightsEach Try.prog (Try.f7.params.toList ++ Rows.fnExactNextStreamSpec.plain.varTypes Try.prog) (ds ++ gs)).all (· ≤ reachBytes) = true := hsz0
  have hval : ∀ (j : Nat) t v, Try.f7.params[j]? = some t → args[j]? = some v → Value.okWide Try.prog W .any base t v := hval0
  have hW' := hW
  obtain ⟨p, q, hA0, hV, rfl, hfz, hnd⟩ := hW
  have hA : DataW.TrodAll enc Try.prog W 0 (fun _ => true) true Try.f7.params.toList args.toList ds p := hA0
  rw [Try.params7] at hA hval hsz
  obtain ⟨v0, vs0, d0, ds0, p0, q0, hargs, rfl, rfl, h0, r0⟩ := trodAll_cons hA
  obtain ⟨rfl, rfl, rfl⟩ := trodAll_nil r0
  obtain rfl : args = #[v0] := by cases args; simp_all
  obtain ⟨rfl, rfl⟩ := trodVars_none hV
  have kp0 := h0
  have lt0 : ∀ x ∈ p0, x.block < W.heap.size := by obtain ⟨m, hm⟩ := kp0; exact DataW.trod_lt m _ _ _ hm
  obtain ⟨a0, len0, cap0, rfl⟩ := okWide_slice Try.underlying41 (hval 0 41 v0 rfl rfl)
  obtain ⟨x0, ⟨A0, c0, he0, hc0, hr0⟩, g0⟩ := Opens.of (opens_slice Try.underlying41 (by kernel_rfl) (opens99 enc W)) h0
  injection he0 with he0 _
  injection he0 with e1_0 e2_0 e3_0
  subst e1_0 e2_0 e3_0
  clear hA0 hval0 hsz0 hsz
  obtain ⟨k, hk⟩ := Pure.FnExactNextStream x0 g0
  refine (laws_FnExactNextStream.calls k _ _ x0 true W hr0 hc0 hk).mono fun e W' ⟨he_, hd_⟩ => ?_
  have bel : Below W.heap.size W W' := hd_
  subst he_
  exact ⟨_, rfl, _, _, _, [], _, [], hW', trodAll_mk1 (shut_bool Try.underlying4 _), (trodAll_cons_mk (Below.trod laidOut (by kernel_rfl) (of_decide_eq_true (by kernel_rfl)) kp0 bel lt0) trodAll_mk0), rfl, bel.frame _, fun h => by cases h⟩
theorem over : Rows.fnExactNextStreamRow.holds Try.pinned (OpenSpec.ofChange Rows.fnExactNextStreamSpec) :=
  OpenClaim.holds_of_wide 7 Try.f7 rfl rfl rfl rfl rfl rfl rfl ⟨rfl, rfl, rfl, rfl, rfl⟩ rfl rfl rfl rfl rfl (by kernel_rfl) Try.func7 (by kernel_rfl)
    (of_decide_eq_true (by kernel_rfl)) (by unfold Func.isWrapper; first | (rw [if_pos (by decide +kernel)]; kernel_rfl) | (rw [if_neg (by decide +kernel)]; exact ⟨rfl, rfl⟩))
    (fun os started H enc _ => lifted os started H enc)
end Go.Proofs.Ytffmebjogdemhaa.fnExactNextStream
namespace Go.Proofs.Ytffmebjogdemhaa
theorem fnExactNextStream_holds : Rows.FnExactNextStreamSaid := fnExactNextStream.over
#print axioms fnExactNextStream_holds
end Go.Proofs.Ytffmebjogdemhaa
