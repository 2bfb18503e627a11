/- The law FnExactTableAdd returns true for every input, and leaves its arguments as they were: out of its pure statement; no condition. -/
import Derived.Test.YtjhcphcjpndciaaRows
import Derived.Test.YtjhcphcjpndciaaPFnExactTableAddx10
import Derived.Test.YtjhcphcjpndciaaPureFnExactTableAdd
import Derived.Test.YtjhcphcjpndciaaOpens
import Derived.Test.YtjhcphcjpndciaaWSized
import Derived.WalkKit
import Derived.ProofKit
import Derived.OpenShut
import Derived.ShutString
import Derived.ChangeOld
import Derived.Below
import Derived.SizedLaws
namespace Go.Proofs.Ytjhcphcjpndciaa.fnExactTableAdd
open Go.ChangeShapes Go.WideShapes Go.ChangeAt Go.RowKit Go.Proofs.Ytjhcphcjpndciaa.PFnExactTableAdd Go.Proofs.Ytjhcphcjpndciaa.Opens Go.Proofs.YtjhcphcjpndciaaW.PrintWords
open Go.ChangeMaps (open_string shut_string)
set_option linter.unusedVariables false
theorem own : ownKnob Try.prog.godebug = none := by kernel_rfl
theorem laidOut : laidOutB Try.prog = true := by kernel_rfl
set_option maxRecDepth 100000 in
theorem opens78 {H : Type} (enc : TypeId × Value → H) (W : World) : Opens enc Try.prog W 78 k78 good78 := by
  refine opens_struct (α := (ByteArray × ByteArray)) (β := S78) (d := (Kd.pair Kd.string Kd.string)) (f := fun x : S78 => (x.f0, x.f1)) (fun a => ⟨a.1, a.2⟩) (good := (fun a : (ByteArray × ByteArray) => (a.1.size ≤ maxLen) ∧ (a.2.size ≤ maxLen))) (good' := good78) Try.underlying78 (by kernel_rfl) (fun _ => rfl) (fun _ h => h) ?_
  refine opensF_cons (d := Kd.string) (good := fun a : ByteArray => a.size ≤ maxLen) (good2 := (fun a : ByteArray => (a.size ≤ maxLen))) rfl (opens_string Try.underlying9 (by kernel_rfl)) ?_
  exact opensF_one rfl (opens_string Try.underlying9 (by kernel_rfl))
set_option maxRecDepth 100000 in
theorem opens64 {H : Type} (enc : TypeId × Value → H) (W : World) : Opens enc Try.prog W 64 k64 good64 := by
  refine opens_struct (α := (Int × (Int × (Int × (List S78))))) (β := S64) (d := (Kd.pair (Kd.int .i64) (Kd.pair (Kd.int .i64) (Kd.pair (Kd.int .i64) (Kd.slice 78 k78))))) (f := fun x : S64 => (x.f0, x.f1, x.f2, x.f3)) (fun a => ⟨a.1, a.2.1, a.2.2.1, a.2.2.2⟩) (good := (fun a : (Int × (Int × (Int × (List S78)))) => ((Lit.int .i64 a.1).wf = true) ∧ ((Lit.int .i64 a.2.1).wf = true) ∧ ((Lit.int .i64 a.2.2.1).wf = true) ∧ (a.2.2.2.length ≤ maxLen ∧ ∀ y ∈ a.2.2.2, good78 y))) (good' := good64) Try.underlying64 (by kernel_rfl) (fun _ => rfl) (fun _ h => h) ?_
  refine opensF_cons (d := (Kd.int .i64)) (good := fun a : Int => (Lit.int .i64 a).wf = true) (good2 := (fun a : (Int × (Int × (List S78))) => ((Lit.int .i64 a.1).wf = true) ∧ ((Lit.int .i64 a.2.1).wf = true) ∧ (a.2.2.length ≤ maxLen ∧ ∀ y ∈ a.2.2, good78 y))) rfl (opens_int Try.underlying3 (by kernel_rfl)) ?_
  refine opensF_cons (d := (Kd.int .i64)) (good := fun a : Int => (Lit.int .i64 a).wf = true) (good2 := (fun a : (Int × (List S78)) => ((Lit.int .i64 a.1).wf = true) ∧ (a.2.length ≤ maxLen ∧ ∀ y ∈ a.2, good78 y))) rfl (opens_int Try.underlying3 (by kernel_rfl)) ?_
  refine opensF_cons (d := (Kd.int .i64)) (good := fun a : Int => (Lit.int .i64 a).wf = true) (good2 := (fun a : (List S78) => (a.length ≤ maxLen ∧ ∀ y ∈ a, good78 y))) rfl (opens_int Try.underlying3 (by kernel_rfl)) ?_
  exact opensF_one rfl (opens_slice Try.underlying62 (by kernel_rfl) (opens78 enc W))
set_option maxRecDepth 100000 in
set_option maxHeartbeats 1000000 in
theorem lifted (os : Os) (started : os.Started) (H : Type) (enc : TypeId × Value → H) :
    ReturnsInHanded {} Try.checked os 10 .any (Rows.fnExactTableAddSpec.pre6 enc Try.prog Try.f10 Rows.fnExactTableAddRow.domain false) (Rows.fnExactTableAddSpec.post enc Try.prog Try.f10 false true false false) := by
  refine returnsInHanded_of_change_sized (C := Try.checked) own started (by kernel_rfl) Try.func10
    (ChangeSpec.witness6 (enc := enc) (C := Try.checked) false ⟨#[], #[.agg #[.int .i64 0, .int .i64 0, .int .i64 0, .slice none 0 0], .agg #[.string ByteArray.empty, .string ByteArray.empty]], []⟩ 8 (by kernel_rfl) (by kernel_rfl) (by kernel_rfl) (by kernel_rfl)) ?_
  intro W base args ds gs before hval0 hW hcnd hsz0 _
  have hsz : (DataW.weightsEach Try.prog (Try.f10.params.toList ++ Rows.fnExactTableAddSpec.plain.varTypes Try.prog) (ds ++ gs)).all (· ≤ reachBytes) = true := hsz0
  have hval : ∀ (j : Nat) t v, Try.f10.params[j]? = some t → args[j]? = some v → Value.okWide Try.prog W .any base t v := hval0
  have hW' := hW
  obtain ⟨p, q, hA0, hV, rfl, hfz, hnd⟩ := hW
  have hA : DataW.TrodAll enc Try.prog W 0 (fun _ => true) true Try.f10.params.toList args.toList ds p := hA0
  rw [Try.params10] at hA hval hsz
  obtain ⟨v0, vs0, d0, ds0, p0, q0, hargs, rfl, rfl, h0, r0⟩ := trodAll_cons hA
  obtain ⟨v1, vs1, d1, ds1, p1, q1, rfl, rfl, rfl, h1, r1⟩ := trodAll_cons r0
  obtain ⟨rfl, rfl, rfl⟩ := trodAll_nil r1
  obtain rfl : args = #[v0, v1] := by cases args; simp_all
  obtain ⟨rfl, rfl⟩ := trodVars_none hV
  have kp0 := h0
  have lt0 : ∀ x ∈ p0, x.block < W.heap.size := by obtain ⟨m, hm⟩ := kp0; exact DataW.trod_lt m _ _ _ hm
  obtain ⟨cs0, rfl, hcs0⟩ := okWide_struct Try.underlying64 (hval 0 64 v0 rfl rfl)
  obtain ⟨x0, hk0, g0⟩ := Opens.of (opens64 enc W) h0
  obtain ⟨A0_3, c0_3, he0, hc0_3, hr0_3⟩ := k64_open hk0
  obtain rfl : cs0 = #[.int .i64 x0.f0, .int .i64 x0.f1, .int .i64 x0.f2, .slice A0_3 x0.f3.length c0_3] := Array.ext' he0
  have kp1 := h1
  have lt1 : ∀ x ∈ p1, x.block < W.heap.size := by obtain ⟨m, hm⟩ := kp1; exact DataW.trod_lt m _ _ _ hm
  obtain ⟨cs1, rfl, hcs1⟩ := okWide_struct Try.underlying78 (hval 1 78 v1 rfl rfl)
  obtain ⟨x1, hk1, g1⟩ := Opens.of (opens78 enc W) h1
  have he1 := k78_open hk1
  obtain rfl : cs1 = #[.string x1.f0, .string x1.f1] := Array.ext' he1
  clear hA0 hval0 hsz0 hsz
  obtain ⟨k, hk⟩ := Pure.FnExactTableAdd x0 x1 g0 g1
  refine (laws_FnExactTableAdd.calls k x0.f0 x0.f1 x0.f2 _ _ x0.f3 x1.f0 x1.f1 true W hr0_3 hc0_3 hk).mono fun e W' ⟨he_, hd_⟩ => ?_
  have bel : Below W.heap.size W W' := hd_
  subst he_
  exact ⟨_, rfl, _, _, _, [], _, [], hW', trodAll_mk1 (shut_bool Try.underlying4 _), (trodAll_cons_mk (Below.trod laidOut (by kernel_rfl) (of_decide_eq_true (by kernel_rfl)) kp0 bel lt0) (trodAll_cons_mk (Below.trod laidOut (by kernel_rfl) (of_decide_eq_true (by kernel_rfl)) kp1 bel lt1) trodAll_mk0)), rfl, bel.frame _, fun h => by cases h⟩
theorem over : Rows.fnExactTableAddRow.holds Try.pinned (OpenSpec.ofChange Rows.fnExactTableAddSpec) :=
  OpenClaim.holds_of_wide 10 Try.f10 rfl rfl rfl rfl rfl rfl rfl ⟨rfl, rfl, rfl, rfl, rfl⟩ rfl rfl rfl rfl rfl (by kernel_rfl) Try.func10 (by kernel_rfl)
    (of_decide_eq_true (by kernel_rfl)) (by unfold Func.isWrapper; first | (rw [if_pos (by decide +kernel)]; kernel_rfl) | (rw [if_neg (by decide +kernel)]; exact ⟨rfl, rfl⟩))
    (fun os started H enc _ => lifted os started H enc)
end Go.Proofs.Ytjhcphcjpndciaa.fnExactTableAdd
namespace Go.Proofs.Ytjhcphcjpndciaa
theorem fnExactTableAdd_holds : Rows.FnExactTableAddSaid := fnExactTableAdd.over
#print axioms fnExactTableAdd_holds
end Go.Proofs.Ytjhcphcjpndciaa
