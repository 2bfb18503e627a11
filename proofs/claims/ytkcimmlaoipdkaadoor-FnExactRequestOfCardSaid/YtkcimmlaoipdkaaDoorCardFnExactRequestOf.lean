/- The program's RequestOf answers what the reference's RequestOf answers, in memory of its own, for every list; no condition. The package-level variables of the library that the row lists hold what the program's text lays (the card ties them). -/
import Derived.Test.YtkcimmlaoipdkaaDoorRows
import Derived.Test.YtkcimmlaoipdkaaDoorCards
import Derived.Test.YtkcimmlaoipdkaaDoorTie
import Derived.LaidMore
import Derived.Stop.Joined
import Derived.SevenTiedAt
import Derived.Test.YtkcimmlaoipdkaaDoorPFnExactRequestOfx11
import Derived.Test.YtkcimmlaoipdkaaDoorPureFnExactRequestOf
import Derived.Test.YtkcimmlaoipdkaaDoorVFnExactRequestOf
import Derived.WalkKit
import Derived.ProofKit
import Derived.OpenShut
import Derived.ShutString
import Derived.ChangeOld
import Derived.Below
import Derived.SizedLaws
namespace Go.Proofs.YtkcimmlaoipdkaaDoor.fnExactRequestOf
open Go.ChangeShapes Go.WideShapes Go.ChangeAt Go.RowKit Go.Proofs.YtkcimmlaoipdkaaDoor.PFnExactRequestOf Go.Proofs.YtkcimmlaoipdkaaDoor.Opens Go.Proofs.YtkcimmlaoipdkaaDoorW.PrintWords
open Go.ChangeMaps (open_string shut_string)
set_option linter.unusedVariables false
theorem own : ownKnob Tryd.prog.godebug = none := by kernel_rfl
theorem laidOut : laidOutB Tryd.prog = true := by kernel_rfl
set_option maxRecDepth 100000 in
theorem opens77 {H : Type} (enc : TypeId × Value → H) (W : World) : Opens enc Tryd.prog W 77 k77 good77 := by
  refine opens_struct (α := (ByteArray × ByteArray)) (β := S77) (d := (Kd.pair Kd.string Kd.string)) (f := fun x : S77 => (x.f0, x.f1)) (fun a => ⟨a.1, a.2⟩) (good := (fun a : (ByteArray × ByteArray) => (a.1.size ≤ maxLen) ∧ (a.2.size ≤ maxLen))) (good' := good77) Tryd.underlying77 (by kernel_rfl) (fun _ => rfl) (fun _ h => h) ?_
  refine opensF_cons (d := Kd.string) (good := fun a : ByteArray => a.size ≤ maxLen) (good2 := (fun a : ByteArray => (a.size ≤ maxLen))) rfl (opens_string Tryd.underlying9 (by kernel_rfl)) ?_
  exact opensF_one rfl (opens_string Tryd.underlying9 (by kernel_rfl))
set_option maxRecDepth 100000 in
theorem door_met (os : Os) (args : Array Value) : laidMetH Tryd.prog Rows.fnExactRequestOfRow.laid ((World.doorLaid Tryd.prog 72 os).forCall (fun _ _ => 0) ⟨#[], args, []⟩).memory :=
  laidMetH_of_parts3 (fuel := 8) (laidMet_of_run' 8 (by kernel_rfl) (by kernel_rfl)) (by kernel_rfl) (by kernel_rfl)
set_option maxRecDepth 100000 in
set_option maxHeartbeats 1000000 in
theorem lifted (os : Os) (started : os.Started) (H : Type) (enc : TypeId × Value → H) :
    ReturnsInHanded {} Tryd.checked os 8 .any (fun w args => (Rows.fnExactRequestOfSpec.pre enc Tryd.prog Tryd.f8 [] false w args ∧ laidMetH Tryd.prog Rows.fnExactRequestOfRow.laid w) ∧ sizedMet enc Tryd.prog Tryd.f8 (OpenSpec.ofChange Rows.fnExactRequestOfSpec) false w args) (Rows.fnExactRequestOfSpec.post enc Tryd.prog Tryd.f8 false true false false) := by
  refine returnsInHanded_of_change_and (C := Tryd.checked) (X := fun w _ => laidMetH Tryd.prog Rows.fnExactRequestOfRow.laid w) (fun _ _ _ hh h => h.of_heap hh) own started (by kernel_rfl) Tryd.func8
    (ChangeSpec.witness_shaped (enc := enc) (C := Tryd.checked) (os := os) (X := fun w _ => laidMetH Tryd.prog Rows.fnExactRequestOfRow.laid w) false (World.doorLaid Tryd.prog 72 os) #[.slice none 0 0] 8 rfl (World.shaped_of_RefB (by kernel_rfl) (by kernel_rfl)) (by kernel_rfl) (by kernel_rfl) (by kernel_rfl) (door_met os _)) ?_
  intro W base args ds gs before hval0 hW hcnd hsz0 hL_ _
  have hsz : (DataW.weightsEach Tryd.prog (Tryd.f8.params.toList ++ Rows.fnExactRequestOfSpec.plain.varTypes Tryd.prog) (ds ++ gs)).all (· ≤ reachBytes) = true := hsz0
  have hval : ∀ (j : Nat) t v, Tryd.f8.params[j]? = some t → args[j]? = some v → Value.okWide Tryd.prog W .any base t v := hval0
  have hW' := hW
  obtain ⟨p, q, hA0, hV, rfl, hfz, hnd⟩ := hW
  have hA : DataW.TrodAll enc Tryd.prog W 0 (fun _ => true) true Tryd.f8.params.toList args.toList ds p := hA0
  rw [Tryd.params8] at hA hval hsz
  obtain ⟨v0, vs0, d0, ds0, p0, q0, hargs, rfl, rfl, h0, r0⟩ := trodAll_cons hA
  obtain ⟨rfl, rfl, rfl⟩ := trodAll_nil r0
  obtain rfl : args = #[v0] := by cases args; simp_all
  obtain ⟨rfl, rfl⟩ := trodVars_none hV
  have kp0 := h0
  have lt0 : ∀ x ∈ p0, x.block < W.heap.size := by obtain ⟨m, hm⟩ := kp0; exact DataW.trod_lt m _ _ _ hm
  obtain ⟨a0, len0, cap0, rfl⟩ := okWide_slice Tryd.underlying30 (hval 0 30 v0 rfl rfl)
  obtain ⟨x0, ⟨A0, c0, he0, hc0, hr0⟩, g0⟩ := Opens.of (opens_slice Tryd.underlying30 (by kernel_rfl) (opens77 enc W)) h0
  injection he0 with he0 _
  injection he0 with e1_0 e2_0 e3_0
  subst e1_0 e2_0 e3_0
  clear hA0 hval0 hsz0 hsz
  obtain ⟨k, hk⟩ := Pure.FnExactRequestOf x0 g0
  refine (laws_FnExactRequestOf.calls k _ _ x0 true W hr0 hc0 hk).mono fun e W' ⟨he_, hd_⟩ => ?_
  have bel : Below W.heap.size W W' := hd_
  subst he_
  exact ⟨_, rfl, _, _, _, [], _, [], hW', trodAll_mk1 (shut_bool Tryd.underlying4 _), (trodAll_cons_mk (Below.trod laidOut (by kernel_rfl) (of_decide_eq_true (by kernel_rfl)) kp0 bel lt0) trodAll_mk0), rfl, bel.frame _, fun h => by cases h⟩
theorem over : Rows.fnExactRequestOfRow.holds Tryd.pinned (OpenSpec.ofChange Rows.fnExactRequestOfSpec) :=
  OpenClaim.holds_of_wide 8 Tryd.f8 rfl rfl rfl rfl rfl rfl rfl ⟨rfl, rfl, rfl, rfl, rfl⟩ rfl rfl rfl rfl rfl (by kernel_rfl) Tryd.func8 (by kernel_rfl)
    (of_decide_eq_true (by kernel_rfl)) (by unfold Func.isWrapper; first | (rw [if_pos (by decide +kernel)]; kernel_rfl) | (rw [if_neg (by decide +kernel)]; exact ⟨rfl, rfl⟩))
    (fun os started H enc _ => lifted os started H enc)
theorem said : Rows.FnExactRequestOfSaid := over
set_option maxRecDepth 100000 in
theorem plain (f : FuncId) (fn : Func) (hf : Tryd.pinned.checked.prog.funcNamed "loop.example/g00012/laws.FnExactRequestOf" = some f) (hfn : Tryd.pinned.checked.prog.funcs[f]? = some fn) :
    true = Tryd.pinned.checked.prog.looks [] ∧ ∀ (j : Nat) t, fn.params[j]? = some t → Tryd.pinned.checked.prog.wantsStandIn t = false := by
  obtain rfl : f = 8 := Option.some.inj ((show Tryd.prog.funcNamed "loop.example/g00012/laws.FnExactRequestOf" = some 8 by kernel_rfl).symm.trans hf) |>.symm
  obtain rfl : fn = Tryd.f8 := (Option.some.inj (Tryd.func8.symm.trans hfn)).symm
  refine ⟨by kernel_rfl, fun j t ht => ?_⟩
  rw [Tryd.params8] at ht
  have hm := Array.mem_of_getElem? ht
  simp only [List.mem_toArray, List.mem_cons, List.mem_nil_iff, or_false] at hm
  have h : t = 30 := by simpa using hm
  rcases h with rfl
  all_goals (show _ = _; kernel_rfl)
theorem card : Rows.FnExactRequestOfCardSaid :=
  Claim7.holds_tied_plain_at .later [] _ _ _ _ said (fun _ h => by cases h) (by kernel_rfl) (fun _ h => by cases h) fnExactRequestOf_row_tie rfl ⟨rfl, rfl⟩ (by kernel_rfl) rfl plain (by kernel_rfl)
#print axioms card
end Go.Proofs.YtkcimmlaoipdkaaDoor.fnExactRequestOf
namespace Go.Proofs.YtkcimmlaoipdkaaDoor
/-- The card, under a short name, for the claim. -/
theorem fnExactRequestOf_holds : Rows.FnExactRequestOfCardSaid := fnExactRequestOf.card
end Go.Proofs.YtkcimmlaoipdkaaDoor
