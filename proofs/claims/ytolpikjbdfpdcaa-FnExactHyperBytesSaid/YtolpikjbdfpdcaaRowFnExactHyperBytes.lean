/- The law FnExactHyperBytes returns true for every input, and leaves its arguments as they were: out of its pure statement; no condition. -/
import Derived.Test.YtolpikjbdfpdcaaRows
import Derived.Test.YtolpikjbdfpdcaaPFnExactHyperBytesx8
import Derived.Test.YtolpikjbdfpdcaaPureFnExactHyperBytes
import Derived.Test.YtolpikjbdfpdcaaOpens
import Derived.Test.YtolpikjbdfpdcaaWSized
import Derived.WalkKit
import Derived.ProofKit
import Derived.OpenShut
import Derived.ShutString
import Derived.ChangeOld
import Derived.Below
import Derived.SizedLaws
namespace Go.Proofs.Ytolpikjbdfpdcaa.fnExactHyperBytes
open Go.ChangeShapes Go.WideShapes Go.ChangeAt Go.RowKit Go.Proofs.Ytolpikjbdfpdcaa.PFnExactHyperBytes Go.Proofs.Ytolpikjbdfpdcaa.Opens Go.Proofs.YtolpikjbdfpdcaaW.PrintWords
open Go.ChangeMaps (open_string shut_string)
set_option linter.unusedVariables false
theorem own : ownKnob Try.prog.godebug = none := by kernel_rfl
theorem laidOut : laidOutB Try.prog = true := by kernel_rfl
set_option maxRecDepth 100000 in
theorem opens177 {H : Type} (enc : TypeId × Value → H) (W : World) : Opens enc Try.prog W 177 k177 good177 := by
  refine opens_struct (α := (Int × Int)) (β := S177) (d := (Kd.pair (Kd.int .i64) (Kd.int .i64))) (f := fun x : S177 => (x.f0, x.f1)) (fun a => ⟨a.1, a.2⟩) (good := (fun a : (Int × Int) => ((Lit.int .i64 a.1).wf = true) ∧ ((Lit.int .i64 a.2).wf = true))) (good' := good177) Try.underlying177 (by kernel_rfl) (fun _ => rfl) (fun _ h => h) ?_
  refine opensF_cons (d := (Kd.int .i64)) (good := fun a : Int => (Lit.int .i64 a).wf = true) (good2 := (fun a : Int => ((Lit.int .i64 a).wf = true))) rfl (opens_int Try.underlying3 (by kernel_rfl)) ?_
  exact opensF_one rfl (opens_int Try.underlying3 (by kernel_rfl))
set_option maxRecDepth 100000 in
theorem opens70 {H : Type} (enc : TypeId × Value → H) (W : World) : Opens enc Try.prog W 70 k70 good70 := by
  refine opens_struct (α := (Int × (Int × ((List Int) × (List S177))))) (β := S70) (d := (Kd.pair (Kd.int .i64) (Kd.pair (Kd.int .i64) (Kd.pair (Kd.slice 5 (Kd.int .u8)) (Kd.slice 177 k177))))) (f := fun x : S70 => (x.f0, x.f1, x.f2, x.f3)) (fun a => ⟨a.1, a.2.1, a.2.2.1, a.2.2.2⟩) (good := (fun a : (Int × (Int × ((List Int) × (List S177)))) => ((Lit.int .i64 a.1).wf = true) ∧ ((Lit.int .i64 a.2.1).wf = true) ∧ (a.2.2.1.length ≤ maxLen ∧ ∀ y ∈ a.2.2.1, (Lit.int .u8 y).wf = true) ∧ (a.2.2.2.length ≤ maxLen ∧ ∀ y ∈ a.2.2.2, good177 y))) (good' := good70) Try.underlying70 (by kernel_rfl) (fun _ => rfl) (fun _ h => h) ?_
  refine opensF_cons (d := (Kd.int .i64)) (good := fun a : Int => (Lit.int .i64 a).wf = true) (good2 := (fun a : (Int × ((List Int) × (List S177))) => ((Lit.int .i64 a.1).wf = true) ∧ (a.2.1.length ≤ maxLen ∧ ∀ y ∈ a.2.1, (Lit.int .u8 y).wf = true) ∧ (a.2.2.length ≤ maxLen ∧ ∀ y ∈ a.2.2, good177 y))) rfl (opens_int Try.underlying3 (by kernel_rfl)) ?_
  refine opensF_cons (d := (Kd.int .i64)) (good := fun a : Int => (Lit.int .i64 a).wf = true) (good2 := (fun a : ((List Int) × (List S177)) => (a.1.length ≤ maxLen ∧ ∀ y ∈ a.1, (Lit.int .u8 y).wf = true) ∧ (a.2.length ≤ maxLen ∧ ∀ y ∈ a.2, good177 y))) rfl (opens_int Try.underlying3 (by kernel_rfl)) ?_
  refine opensF_cons (d := (Kd.slice 5 (Kd.int .u8))) (good := fun a : List Int => a.length ≤ maxLen ∧ ∀ y ∈ a, (Lit.int .u8 y).wf = true) (good2 := (fun a : (List S177) => (a.length ≤ maxLen ∧ ∀ y ∈ a, good177 y))) rfl (opens_slice Try.underlying22 (by kernel_rfl) (opens_int Try.underlying5 (by kernel_rfl))) ?_
  exact opensF_one rfl (opens_slice Try.underlying68 (by kernel_rfl) (opens177 enc W))
set_option maxRecDepth 100000 in
set_option maxHeartbeats 1000000 in
theorem lifted (os : Os) (started : os.Started) (H : Type) (enc : TypeId × Value → H) :
    ReturnsInHanded {} Try.checked os 11 .any (Rows.fnExactHyperBytesSpec.pre6 enc Try.prog Try.f11 Rows.fnExactHyperBytesRow.domain false) (Rows.fnExactHyperBytesSpec.post enc Try.prog Try.f11 false true false false) := by
  refine returnsInHanded_of_change_sized (C := Try.checked) own started (by kernel_rfl) Try.func11
    (ChangeSpec.witness6 (enc := enc) (C := Try.checked) false ⟨#[], #[.agg #[.int .i64 0, .int .i64 0, .slice none 0 0, .slice none 0 0]], []⟩ 8 (by kernel_rfl) (by kernel_rfl) (by kernel_rfl) (by kernel_rfl)) ?_
  intro W base args ds gs before hval0 hW hcnd hsz0 _
  have hsz : (DataW.weightsEach Try.prog (Try.f11.params.toList ++ Rows.fnExactHyperBytesSpec.plain.varTypes Try.prog) (ds ++ gs)).all (· ≤ reachBytes) = true := hsz0
  have hval : ∀ (j : Nat) t v, Try.f11.params[j]? = some t → args[j]? = some v → Value.okWide Try.prog W .any base t v := hval0
  have hW' := hW
  obtain ⟨p, q, hA0, hV, rfl, hfz, hnd⟩ := hW
  have hA : DataW.TrodAll enc Try.prog W 0 (fun _ => true) true Try.f11.params.toList args.toList ds p := hA0
  rw [Try.params11] at hA hval hsz
  obtain ⟨v0, vs0, d0, ds0, p0, q0, hargs, rfl, rfl, h0, r0⟩ := trodAll_cons hA
  obtain ⟨rfl, rfl, rfl⟩ := trodAll_nil r0
  obtain rfl : args = #[v0] := by cases args; simp_all
  obtain ⟨rfl, rfl⟩ := trodVars_none hV
  have kp0 := h0
  have lt0 : ∀ x ∈ p0, x.block < W.heap.size := by obtain ⟨m, hm⟩ := kp0; exact DataW.trod_lt m _ _ _ hm
  obtain ⟨cs0, rfl, hcs0⟩ := okWide_struct Try.underlying70 (hval 0 70 v0 rfl rfl)
  obtain ⟨x0, hk0, g0⟩ := Opens.of (opens70 enc W) h0
  obtain ⟨A0_2, c0_2, A0_3, c0_3, he0, hc0_2, hr0_2, hc0_3, hr0_3⟩ := k70_open hk0
  obtain rfl : cs0 = #[.int .i64 x0.f0, .int .i64 x0.f1, .slice A0_2 x0.f2.length c0_2, .slice A0_3 x0.f3.length c0_3] := Array.ext' he0
  clear hA0 hval0 hsz0 hsz
  obtain ⟨k, hk⟩ := Pure.FnExactHyperBytes x0 g0
  refine (laws_FnExactHyperBytes.calls k x0.f0 x0.f1 _ _ x0.f2 _ _ x0.f3 true W hr0_2 hc0_2 hr0_3 hc0_3 hk).mono fun e W' ⟨he_, hd_⟩ => ?_
  have bel : Below W.heap.size W W' := hd_
  subst he_
  exact ⟨_, rfl, _, _, _, [], _, [], hW', trodAll_mk1 (shut_bool Try.underlying4 _), (trodAll_cons_mk (Below.trod laidOut (by kernel_rfl) (of_decide_eq_true (by kernel_rfl)) kp0 bel lt0) trodAll_mk0), rfl, bel.frame _, fun h => by cases h⟩
theorem over : Rows.fnExactHyperBytesRow.holds Try.pinned (OpenSpec.ofChange Rows.fnExactHyperBytesSpec) :=
  OpenClaim.holds_of_wide 11 Try.f11 rfl rfl rfl rfl rfl rfl rfl ⟨rfl, rfl, rfl, rfl, rfl⟩ rfl rfl rfl rfl rfl (by kernel_rfl) Try.func11 (by kernel_rfl)
    (of_decide_eq_true (by kernel_rfl)) (by unfold Func.isWrapper; first | (rw [if_pos (by decide +kernel)]; kernel_rfl) | (rw [if_neg (by decide +kernel)]; exact ⟨rfl, rfl⟩))
    (fun os started H enc _ => lifted os started H enc)
end Go.Proofs.Ytolpikjbdfpdcaa.fnExactHyperBytes
namespace Go.Proofs.Ytolpikjbdfpdcaa
theorem fnExactHyperBytes_holds : Rows.FnExactHyperBytesSaid := fnExactHyperBytes.over
#print axioms fnExactHyperBytes_holds
end Go.Proofs.Ytolpikjbdfpdcaa
