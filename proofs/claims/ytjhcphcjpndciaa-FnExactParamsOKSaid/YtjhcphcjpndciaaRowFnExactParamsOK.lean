/- The law FnExactParamsOK returns true for every input, and leaves its arguments as they were: out of its pure statement; no condition. -/
import Derived.Test.YtjhcphcjpndciaaRows
import Derived.Test.YtjhcphcjpndciaaPFnExactParamsOKx4
import Derived.Test.YtjhcphcjpndciaaPureFnExactParamsOK
import Derived.Test.YtjhcphcjpndciaaOpens
import Derived.Test.YtjhcphcjpndciaaWSized
import Derived.WalkKit
import Derived.ProofKit
import Derived.OpenShut
import Derived.ShutString
import Derived.ChangeOld
import Derived.Below
import Derived.SizedLaws
namespace Go.Proofs.Ytjhcphcjpndciaa.fnExactParamsOK
open Go.ChangeShapes Go.WideShapes Go.ChangeAt Go.RowKit Go.Proofs.Ytjhcphcjpndciaa.PFnExactParamsOK Go.Proofs.Ytjhcphcjpndciaa.Opens Go.Proofs.YtjhcphcjpndciaaW.PrintWords
open Go.ChangeMaps (open_string shut_string)
set_option linter.unusedVariables false
theorem own : ownKnob Try.prog.godebug = none := by kernel_rfl
theorem laidOut : laidOutB Try.prog = true := by kernel_rfl
set_option maxRecDepth 100000 in
theorem opens30 {H : Type} (enc : TypeId × Value → H) (W : World) : Opens enc Try.prog W 30 k30 good30 := by
  refine opens_struct (α := (Int × (Int × (Int × (Int × (Int × (Int × (Int × (Int × (Int × (Bool × ((List Int) × ((List Int) × (List Int)))))))))))))) (β := S30) (d := (Kd.pair (Kd.int .i64) (Kd.pair (Kd.int .i64) (Kd.pair (Kd.int .i64) (Kd.pair (Kd.int .i64) (Kd.pair (Kd.int .i64) (Kd.pair (Kd.int .i64) (Kd.pair (Kd.int .i64) (Kd.pair (Kd.int .i64) (Kd.pair (Kd.int .i64) (Kd.pair Kd.bool (Kd.pair (Kd.slice 5 (Kd.int .u8)) (Kd.pair (Kd.slice 5 (Kd.int .u8)) (Kd.slice 5 (Kd.int .u8))))))))))))))) (f := fun x : S30 => (x.f0, x.f1, x.f2, x.f3, x.f4, x.f5, x.f6, x.f7, x.f8, x.f9, x.f10, x.f11, x.f12)) (fun a => ⟨a.1, a.2.1, a.2.2.1, a.2.2.2.1, a.2.2.2.2.1, a.2.2.2.2.2.1, a.2.2.2.2.2.2.1, a.2.2.2.2.2.2.2.1, a.2.2.2.2.2.2.2.2.1, a.2.2.2.2.2.2.2.2.2.1, a.2.2.2.2.2.2.2.2.2.2.1, a.2.2.2.2.2.2.2.2.2.2.2.1, a.2.2.2.2.2.2.2.2.2.2.2.2⟩) (good := (fun a : (Int × (Int × (Int × (Int × (Int × (Int × (Int × (Int × (Int × (Bool × ((List Int) × ((List Int) × (List Int))))))))))))) => ((Lit.int .i64 a.1).wf = true) ∧ ((Lit.int .i64 a.2.1).wf = true) ∧ ((Lit.int .i64 a.2.2.1).wf = true) ∧ ((Lit.int .i64 a.2.2.2.1).wf = true) ∧ ((Lit.int .i64 a.2.2.2.2.1).wf = true) ∧ ((Lit.int .i64 a.2.2.2.2.2.1).wf = true) ∧ ((Lit.int .i64 a.2.2.2.2.2.2.1).wf = true) ∧ ((Lit.int .i64 a.2.2.2.2.2.2.2.1).wf = true) ∧ ((Lit.int .i64 a.2.2.2.2.2.2.2.2.1).wf = true) ∧ (True) ∧ (a.2.2.2.2.2.2.2.2.2.2.1.length ≤ maxLen ∧ ∀ y ∈ a.2.2.2.2.2.2.2.2.2.2.1, (Lit.int .u8 y).wf = true) ∧ (a.2.2.2.2.2.2.2.2.2.2.2.1.length ≤ maxLen ∧ ∀ y ∈ a.2.2.2.2.2.2.2.2.2.2.2.1, (Lit.int .u8 y).wf = true) ∧ (a.2.2.2.2.2.2.2.2.2.2.2.2.length ≤ maxLen ∧ ∀ y ∈ a.2.2.2.2.2.2.2.2.2.2.2.2, (Lit.int .u8 y).wf = true))) (good' := good30) Try.underlying30 (by kernel_rfl) (fun _ => rfl) (fun _ h => h) ?_
  refine opensF_cons (d := (Kd.int .i64)) (good := fun a : Int => (Lit.int .i64 a).wf = true) (good2 := (fun a : (Int × (Int × (Int × (Int × (Int × (Int × (Int × (Int × (Bool × ((List Int) × ((List Int) × (List Int)))))))))))) => ((Lit.int .i64 a.1).wf = true) ∧ ((Lit.int .i64 a.2.1).wf = true) ∧ ((Lit.int .i64 a.2.2.1).wf = true) ∧ ((Lit.int .i64 a.2.2.2.1).wf = true) ∧ ((Lit.int .i64 a.2.2.2.2.1).wf = true) ∧ ((Lit.int .i64 a.2.2.2.2.2.1).wf = true) ∧ ((Lit.int .i64 a.2.2.2.2.2.2.1).wf = true) ∧ ((Lit.int .i64 a.2.2.2.2.2.2.2.1).wf = true) ∧ (True) ∧ (a.2.2.2.2.2.2.2.2.2.1.length ≤ maxLen ∧ ∀ y ∈ a.2.2.2.2.2.2.2.2.2.1, (Lit.int .u8 y).wf = true) ∧ (a.2.2.2.2.2.2.2.2.2.2.1.length ≤ maxLen ∧ ∀ y ∈ a.2.2.2.2.2.2.2.2.2.2.1, (Lit.int .u8 y).wf = true) ∧ (a.2.2.2.2.2.2.2.2.2.2.2.length ≤ maxLen ∧ ∀ y ∈ a.2.2.2.2.2.2.2.2.2.2.2, (Lit.int .u8 y).wf = true))) rfl (opens_int Try.underlying3 (by kernel_rfl)) ?_
  refine opensF_cons (d := (Kd.int .i64)) (good := fun a : Int => (Lit.int .i64 a).wf = true) (good2 := (fun a : (Int × (Int × (Int × (Int × (Int × (Int × (Int × (Bool × ((List Int) × ((List Int) × (List Int))))))))))) => ((Lit.int .i64 a.1).wf = true) ∧ ((Lit.int .i64 a.2.1).wf = true) ∧ ((Lit.int .i64 a.2.2.1).wf = true) ∧ ((Lit.int .i64 a.2.2.2.1).wf = true) ∧ ((Lit.int .i64 a.2.2.2.2.1).wf = true) ∧ ((Lit.int .i64 a.2.2.2.2.2.1).wf = true) ∧ ((Lit.int .i64 a.2.2.2.2.2.2.1).wf = true) ∧ (True) ∧ (a.2.2.2.2.2.2.2.2.1.length ≤ maxLen ∧ ∀ y ∈ a.2.2.2.2.2.2.2.2.1, (Lit.int .u8 y).wf = true) ∧ (a.2.2.2.2.2.2.2.2.2.1.length ≤ maxLen ∧ ∀ y ∈ a.2.2.2.2.2.2.2.2.2.1, (Lit.int .u8 y).wf = true) ∧ (a.2.2.2.2.2.2.2.2.2.2.length ≤ maxLen ∧ ∀ y ∈ a.2.2.2.2.2.2.2.2.2.2, (Lit.int .u8 y).wf = true))) rfl (opens_int Try.underlying3 (by kernel_rfl)) ?_
  refine opensF_cons (d := (Kd.int .i64)) (good := fun a : Int => (Lit.int .i64 a).wf = true) (good2 := (fun a : (Int × (Int × (Int × (Int × (Int × (Int × (Bool × ((List Int) × ((List Int) × (List Int)))))))))) => ((Lit.int .i64 a.1).wf = true) ∧ ((Lit.int .i64 a.2.1).wf = true) ∧ ((Lit.int .i64 a.2.2.1).wf = true) ∧ ((Lit.int .i64 a.2.2.2.1).wf = true) ∧ ((Lit.int .i64 a.2.2.2.2.1).wf = true) ∧ ((Lit.int .i64 a.2.2.2.2.2.1).wf = true) ∧ (True) ∧ (a.2.2.2.2.2.2.2.1.length ≤ maxLen ∧ ∀ y ∈ a.2.2.2.2.2.2.2.1, (Lit.int .u8 y).wf = true) ∧ (a.2.2.2.2.2.2.2.2.1.length ≤ maxLen ∧ ∀ y ∈ a.2.2.2.2.2.2.2.2.1, (Lit.int .u8 y).wf = true) ∧ (a.2.2.2.2.2.2.2.2.2.length ≤ maxLen ∧ ∀ y ∈ a.2.2.2.2.2.2.2.2.2, (Lit.int .u8 y).wf = true))) rfl (opens_int Try.underlying3 (by kernel_rfl)) ?_
  refine opensF_cons (d := (Kd.int .i64)) (good := fun a : Int => (Lit.int .i64 a).wf = true) (good2 := (fun a : (Int × (Int × (Int × (Int × (Int × (Bool × ((List Int) × ((List Int) × (List Int))))))))) => ((Lit.int .i64 a.1).wf = true) ∧ ((Lit.int .i64 a.2.1).wf = true) ∧ ((Lit.int .i64 a.2.2.1).wf = true) ∧ ((Lit.int .i64 a.2.2.2.1).wf = true) ∧ ((Lit.int .i64 a.2.2.2.2.1).wf = true) ∧ (True) ∧ (a.2.2.2.2.2.2.1.length ≤ maxLen ∧ ∀ y ∈ a.2.2.2.2.2.2.1, (Lit.int .u8 y).wf = true) ∧ (a.2.2.2.2.2.2.2.1.length ≤ maxLen ∧ ∀ y ∈ a.2.2.2.2.2.2.2.1, (Lit.int .u8 y).wf = true) ∧ (a.2.2.2.2.2.2.2.2.length ≤ maxLen ∧ ∀ y ∈ a.2.2.2.2.2.2.2.2, (Lit.int .u8 y).wf = true))) rfl (opens_int Try.underlying3 (by kernel_rfl)) ?_
  refine opensF_cons (d := (Kd.int .i64)) (good := fun a : Int => (Lit.int .i64 a).wf = true) (good2 := (fun a : (Int × (Int × (Int × (Int × (Bool × ((List Int) × ((List Int) × (List Int)))))))) => ((Lit.int .i64 a.1).wf = true) ∧ ((Lit.int .i64 a.2.1).wf = true) ∧ ((Lit.int .i64 a.2.2.1).wf = true) ∧ ((Lit.int .i64 a.2.2.2.1).wf = true) ∧ (True) ∧ (a.2.2.2.2.2.1.length ≤ maxLen ∧ ∀ y ∈ a.2.2.2.2.2.1, (Lit.int .u8 y).wf = true) ∧ (a.2.2.2.2.2.2.1.length ≤ maxLen ∧ ∀ y ∈ a.2.2.2.2.2.2.1, (Lit.int .u8 y).wf = true) ∧ (a.2.2.2.2.2.2.2.length ≤ maxLen ∧ ∀ y ∈ a.2.2.2.2.2.2.2, (Lit.int .u8 y).wf = true))) rfl (opens_int Try.underlying3 (by kernel_rfl)) ?_
  refine opensF_cons (d := (Kd.int .i64)) (good := fun a : Int => (Lit.int .i64 a).wf = true) (good2 := (fun a : (Int × (Int × (Int × (Bool × ((List Int) × ((List Int) × (List Int))))))) => ((Lit.int .i64 a.1).wf = true) ∧ ((Lit.int .i64 a.2.1).wf = true) ∧ ((Lit.int .i64 a.2.2.1).wf = true) ∧ (True) ∧ (a.2.2.2.2.1.length ≤ maxLen ∧ ∀ y ∈ a.2.2.2.2.1, (Lit.int .u8 y).wf = true) ∧ (a.2.2.2.2.2.1.length ≤ maxLen ∧ ∀ y ∈ a.2.2.2.2.2.1, (Lit.int .u8 y).wf = true) ∧ (a.2.2.2.2.2.2.length ≤ maxLen ∧ ∀ y ∈ a.2.2.2.2.2.2, (Lit.int .u8 y).wf = true))) rfl (opens_int Try.underlying3 (by kernel_rfl)) ?_
  refine opensF_cons (d := (Kd.int .i64)) (good := fun a : Int => (Lit.int .i64 a).wf = true) (good2 := (fun a : (Int × (Int × (Bool × ((List Int) × ((List Int) × (List Int)))))) => ((Lit.int .i64 a.1).wf = true) ∧ ((Lit.int .i64 a.2.1).wf = true) ∧ (True) ∧ (a.2.2.2.1.length ≤ maxLen ∧ ∀ y ∈ a.2.2.2.1, (Lit.int .u8 y).wf = true) ∧ (a.2.2.2.2.1.length ≤ maxLen ∧ ∀ y ∈ a.2.2.2.2.1, (Lit.int .u8 y).wf = true) ∧ (a.2.2.2.2.2.length ≤ maxLen ∧ ∀ y ∈ a.2.2.2.2.2, (Lit.int .u8 y).wf = true))) rfl (opens_int Try.underlying3 (by kernel_rfl)) ?_
  refine opensF_cons (d := (Kd.int .i64)) (good := fun a : Int => (Lit.int .i64 a).wf = true) (good2 := (fun a : (Int × (Bool × ((List Int) × ((List Int) × (List Int))))) => ((Lit.int .i64 a.1).wf = true) ∧ (True) ∧ (a.2.2.1.length ≤ maxLen ∧ ∀ y ∈ a.2.2.1, (Lit.int .u8 y).wf = true) ∧ (a.2.2.2.1.length ≤ maxLen ∧ ∀ y ∈ a.2.2.2.1, (Lit.int .u8 y).wf = true) ∧ (a.2.2.2.2.length ≤ maxLen ∧ ∀ y ∈ a.2.2.2.2, (Lit.int .u8 y).wf = true))) rfl (opens_int Try.underlying3 (by kernel_rfl)) ?_
  refine opensF_cons (d := (Kd.int .i64)) (good := fun a : Int => (Lit.int .i64 a).wf = true) (good2 := (fun a : (Bool × ((List Int) × ((List Int) × (List Int)))) => (True) ∧ (a.2.1.length ≤ maxLen ∧ ∀ y ∈ a.2.1, (Lit.int .u8 y).wf = true) ∧ (a.2.2.1.length ≤ maxLen ∧ ∀ y ∈ a.2.2.1, (Lit.int .u8 y).wf = true) ∧ (a.2.2.2.length ≤ maxLen ∧ ∀ y ∈ a.2.2.2, (Lit.int .u8 y).wf = true))) rfl (opens_int Try.underlying3 (by kernel_rfl)) ?_
  refine opensF_cons (d := Kd.bool) (good := fun a : Bool => True) (good2 := (fun a : ((List Int) × ((List Int) × (List Int))) => (a.1.length ≤ maxLen ∧ ∀ y ∈ a.1, (Lit.int .u8 y).wf = true) ∧ (a.2.1.length ≤ maxLen ∧ ∀ y ∈ a.2.1, (Lit.int .u8 y).wf = true) ∧ (a.2.2.length ≤ maxLen ∧ ∀ y ∈ a.2.2, (Lit.int .u8 y).wf = true))) rfl (opens_bool Try.underlying4 (by kernel_rfl)) ?_
  refine opensF_cons (d := (Kd.slice 5 (Kd.int .u8))) (good := fun a : List Int => a.length ≤ maxLen ∧ ∀ y ∈ a, (Lit.int .u8 y).wf = true) (good2 := (fun a : ((List Int) × (List Int)) => (a.1.length ≤ maxLen ∧ ∀ y ∈ a.1, (Lit.int .u8 y).wf = true) ∧ (a.2.length ≤ maxLen ∧ ∀ y ∈ a.2, (Lit.int .u8 y).wf = true))) rfl (opens_slice Try.underlying28 (by kernel_rfl) (opens_int Try.underlying5 (by kernel_rfl))) ?_
  refine opensF_cons (d := (Kd.slice 5 (Kd.int .u8))) (good := fun a : List Int => a.length ≤ maxLen ∧ ∀ y ∈ a, (Lit.int .u8 y).wf = true) (good2 := (fun a : (List Int) => (a.length ≤ maxLen ∧ ∀ y ∈ a, (Lit.int .u8 y).wf = true))) rfl (opens_slice Try.underlying28 (by kernel_rfl) (opens_int Try.underlying5 (by kernel_rfl))) ?_
  exact opensF_one rfl (opens_slice Try.underlying28 (by kernel_rfl) (opens_int Try.underlying5 (by kernel_rfl)))
set_option maxRecDepth 100000 in
set_option maxHeartbeats 1000000 in
theorem lifted (os : Os) (started : os.Started) (H : Type) (enc : TypeId × Value → H) :
    ReturnsInHanded {} Try.checked os 4 .any (Rows.fnExactParamsOKSpec.pre6 enc Try.prog Try.f4 Rows.fnExactParamsOKRow.domain false) (Rows.fnExactParamsOKSpec.post enc Try.prog Try.f4 false true false false) := by
  refine returnsInHanded_of_change_sized (C := Try.checked) own started (by kernel_rfl) Try.func4
    (ChangeSpec.witness6 (enc := enc) (C := Try.checked) false ⟨#[], #[.agg #[.int .i64 0, .int .i64 0, .int .i64 0, .int .i64 0, .int .i64 0, .int .i64 0, .int .i64 0, .int .i64 0, .int .i64 0, .bool false, .slice none 0 0, .slice none 0 0, .slice none 0 0], .bool false], []⟩ 8 (by kernel_rfl) (by kernel_rfl) (by kernel_rfl) (by kernel_rfl)) ?_
  intro W base args ds gs before hval0 hW hcnd hsz0 _
  have hsz : (DataW.weightsEach Try.prog (Try.f4.params.toList ++ Rows.fnExactParamsOKSpec.plain.varTypes Try.prog) (ds ++ gs)).all (· ≤ reachBytes) = true := hsz0
  have hval : ∀ (j : Nat) t v, Try.f4.params[j]? = some t → args[j]? = some v → Value.okWide Try.prog W .any base t v := hval0
  have hW' := hW
  obtain ⟨p, q, hA0, hV, rfl, hfz, hnd⟩ := hW
  have hA : DataW.TrodAll enc Try.prog W 0 (fun _ => true) true Try.f4.params.toList args.toList ds p := hA0
  rw [Try.params4] at hA hval hsz
  obtain ⟨v0, vs0, d0, ds0, p0, q0, hargs, rfl, rfl, h0, r0⟩ := trodAll_cons hA
  obtain ⟨v1, vs1, d1, ds1, p1, q1, rfl, rfl, rfl, h1, r1⟩ := trodAll_cons r0
  obtain ⟨rfl, rfl, rfl⟩ := trodAll_nil r1
  obtain rfl : args = #[v0, v1] := by cases args; simp_all
  obtain ⟨rfl, rfl⟩ := trodVars_none hV
  have kp0 := h0
  have lt0 : ∀ x ∈ p0, x.block < W.heap.size := by obtain ⟨m, hm⟩ := kp0; exact DataW.trod_lt m _ _ _ hm
  obtain ⟨cs0, rfl, hcs0⟩ := okWide_struct Try.underlying30 (hval 0 30 v0 rfl rfl)
  obtain ⟨x0, hk0, g0⟩ := Opens.of (opens30 enc W) h0
  obtain ⟨A0_10, c0_10, A0_11, c0_11, A0_12, c0_12, he0, hc0_10, hr0_10, hc0_11, hr0_11, hc0_12, hr0_12⟩ := k30_open hk0
  obtain rfl : cs0 = #[.int .i64 x0.f0, .int .i64 x0.f1, .int .i64 x0.f2, .int .i64 x0.f3, .int .i64 x0.f4, .int .i64 x0.f5, .int .i64 x0.f6, .int .i64 x0.f7, .int .i64 x0.f8, .bool x0.f9, .slice A0_10 x0.f10.length c0_10, .slice A0_11 x0.f11.length c0_11, .slice A0_12 x0.f12.length c0_12] := Array.ext' he0
  obtain ⟨x1, rfl, rfl, rfl⟩ := open_bool Try.underlying4 (hval 1 4 v1 rfl rfl) h1
  clear hA0 hval0 hsz0 hsz
  obtain ⟨k, hk⟩ := Pure.FnExactParamsOK x0 x1 g0 trivial
  refine (laws_FnExactParamsOK.calls k x0.f0 x0.f1 x0.f2 x0.f3 x0.f4 x0.f5 x0.f6 x0.f7 x0.f8 x0.f9 _ _ x0.f10 _ _ x0.f11 _ _ x0.f12 x1 true W hr0_10 hc0_10 hr0_11 hc0_11 hr0_12 hc0_12 hk).mono fun e W' ⟨he_, hd_⟩ => ?_
  have bel : Below W.heap.size W W' := hd_
  subst he_
  exact ⟨_, rfl, _, _, _, [], _, [], hW', trodAll_mk1 (shut_bool Try.underlying4 _), (trodAll_cons_mk (Below.trod laidOut (by kernel_rfl) (of_decide_eq_true (by kernel_rfl)) kp0 bel lt0) (trodAll_cons_mk (shut_bool Try.underlying4 _) trodAll_mk0)), rfl, bel.frame _, fun h => by cases h⟩
theorem over : Rows.fnExactParamsOKRow.holds Try.pinned (OpenSpec.ofChange Rows.fnExactParamsOKSpec) :=
  OpenClaim.holds_of_wide 4 Try.f4 rfl rfl rfl rfl rfl rfl rfl ⟨rfl, rfl, rfl, rfl, rfl⟩ rfl rfl rfl rfl rfl (by kernel_rfl) Try.func4 (by kernel_rfl)
    (of_decide_eq_true (by kernel_rfl)) (by unfold Func.isWrapper; first | (rw [if_pos (by decide +kernel)]; kernel_rfl) | (rw [if_neg (by decide +kernel)]; exact ⟨rfl, rfl⟩))
    (fun os started H enc _ => lifted os started H enc)
end Go.Proofs.Ytjhcphcjpndciaa.fnExactParamsOK
namespace Go.Proofs.Ytjhcphcjpndciaa
theorem fnExactParamsOK_holds : Rows.FnExactParamsOKSaid := fnExactParamsOK.over
#print axioms fnExactParamsOK_holds
end Go.Proofs.Ytjhcphcjpndciaa
