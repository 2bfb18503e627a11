/- The program's ResponseFields answers what the reference's ResponseFields answers, in memory of its own, for every response; no condition. The package-level variables of the library that the row lists hold what the program's text lays (the card ties them). -/
import Derived.Test.YtkcimmlaoipdkaaDoorRows
import Derived.Test.YtkcimmlaoipdkaaDoorCards
import Derived.Test.YtkcimmlaoipdkaaDoorTie
import Derived.LaidMore
import Derived.Stop.Joined
import Derived.SevenTiedAt
import Derived.MakeChecks
import Derived.Stop.LaidErr
import Derived.Lib.LaidTab
import Derived.Test.YtkcimmlaoipdkaaDoorPFnExactResponseFieldsx8
import Derived.Test.YtkcimmlaoipdkaaDoorPureFnExactResponseFields
import Derived.Test.YtkcimmlaoipdkaaDoorVFnExactResponseFields
import Derived.WalkKit
import Derived.ProofKit
import Derived.OpenShut
import Derived.ShutString
import Derived.ChangeOld
import Derived.Below
import Derived.SizedLaws
namespace Go.Proofs.YtkcimmlaoipdkaaDoor.fnExactResponseFields
open Go.ChangeShapes Go.WideShapes Go.ChangeAt Go.RowKit Go.Proofs.YtkcimmlaoipdkaaDoor.PFnExactResponseFields Go.Proofs.YtkcimmlaoipdkaaDoor.Opens Go.Proofs.YtkcimmlaoipdkaaDoorW.PrintWords
open Go.ChangeMaps (open_string shut_string)
set_option linter.unusedVariables false
theorem own : ownKnob Tryd.prog.godebug = none := by kernel_rfl
theorem laidOut : laidOutB Tryd.prog = true := by kernel_rfl
set_option maxRecDepth 100000 in
theorem opens77 {H : Type} (enc : TypeId × Value → H) (W : World) : Opens enc Tryd.prog W 77 k77 good77 := by
  refine opens_struct (α := (ByteArray × ByteArray)) (β := S77) (d := (Kd.pair Kd.string Kd.string)) (f := fun x : S77 => (x.f0, x.f1)) (fun a => ⟨a.1, a.2⟩) (good := (fun a : (ByteArray × ByteArray) => (a.1.size ≤ maxLen) ∧ (a.2.size ≤ maxLen))) (good' := good77) Tryd.underlying77 (by kernel_rfl) (fun _ => rfl) (fun _ h => h) ?_
  refine opensF_cons (d := Kd.string) (good := fun a : ByteArray => a.size ≤ maxLen) (good2 := (fun a : ByteArray => (a.size ≤ maxLen))) rfl (opens_string Tryd.underlying9 (by kernel_rfl)) ?_
  exact opensF_one rfl (opens_string Tryd.underlying9 (by kernel_rfl))
set_option maxRecDepth 100000 in
theorem opens53 {H : Type} (enc : TypeId × Value → H) (W : World) : Opens enc Tryd.prog W 53 k53 good53 := by
  refine opens_struct (α := (Int × (List S77))) (β := S53) (d := (Kd.pair (Kd.int .i64) (Kd.slice 77 k77))) (f := fun x : S53 => (x.f0, x.f1)) (fun a => ⟨a.1, a.2⟩) (good := (fun a : (Int × (List S77)) => ((Lit.int .i64 a.1).wf = true) ∧ (a.2.length ≤ maxLen ∧ ∀ y ∈ a.2, good77 y))) (good' := good53) Tryd.underlying53 (by kernel_rfl) (fun _ => rfl) (fun _ h => h) ?_
  refine opensF_cons (d := (Kd.int .i64)) (good := fun a : Int => (Lit.int .i64 a).wf = true) (good2 := (fun a : (List S77) => (a.length ≤ maxLen ∧ ∀ y ∈ a, good77 y))) rfl (opens_int Tryd.underlying3 (by kernel_rfl)) ?_
  exact opensF_one rfl (opens_slice Tryd.underlying30 (by kernel_rfl) (opens77 enc W))
set_option maxRecDepth 100000 in
theorem door_met (os : Os) (args : Array Value) : laidMetH Tryd.prog Rows.fnExactResponseFieldsRow.laid ((World.doorLaid Tryd.prog 72 os).forCall (fun _ _ => 0) ⟨#[], args, []⟩).memory :=
  laidMetH_of_parts3 (fuel := 8) (laidMet_of_run' 8 (by kernel_rfl) (by kernel_rfl)) (by kernel_rfl) (by kernel_rfl)
set_option maxRecDepth 100000 in
set_option maxHeartbeats 1000000 in
theorem lifted (os : Os) (started : os.Started) (H : Type) (enc : TypeId × Value → H) :
    ReturnsInHanded {} Tryd.checked os 9 .any (fun w args => (Rows.fnExactResponseFieldsSpec.pre enc Tryd.prog Tryd.f9 [] false w args ∧ laidMetH Tryd.prog Rows.fnExactResponseFieldsRow.laid w) ∧ sizedMet enc Tryd.prog Tryd.f9 (OpenSpec.ofChange Rows.fnExactResponseFieldsSpec) false w args) (Rows.fnExactResponseFieldsSpec.post enc Tryd.prog Tryd.f9 false true false false) := by
  refine returnsInHanded_of_change_and (C := Tryd.checked) (X := fun w _ => laidMetH Tryd.prog Rows.fnExactResponseFieldsRow.laid w) (fun _ _ _ hh h => h.of_heap hh) own started (by kernel_rfl) Tryd.func9
    (ChangeSpec.witness_shaped (enc := enc) (C := Tryd.checked) (os := os) (X := fun w _ => laidMetH Tryd.prog Rows.fnExactResponseFieldsRow.laid w) false (World.doorLaid Tryd.prog 72 os) #[.agg #[.int .i64 0, .slice none 0 0]] 8 rfl (World.shaped_of_RefB (by kernel_rfl) (by kernel_rfl)) (by kernel_rfl) (by kernel_rfl) (by kernel_rfl) (door_met os _)) ?_
  intro W base args ds gs before hval0 hW hcnd hsz0 hL_ _
  have hsz : (DataW.weightsEach Tryd.prog (Tryd.f9.params.toList ++ Rows.fnExactResponseFieldsSpec.plain.varTypes Tryd.prog) (ds ++ gs)).all (· ≤ reachBytes) = true := hsz0
  have hval : ∀ (j : Nat) t v, Tryd.f9.params[j]? = some t → args[j]? = some v → Value.okWide Tryd.prog W .any base t v := hval0
  have hW' := hW
  obtain ⟨p, q, hA0, hV, rfl, hfz, hnd⟩ := hW
  have hA : DataW.TrodAll enc Tryd.prog W 0 (fun _ => true) true Tryd.f9.params.toList args.toList ds p := hA0
  rw [Tryd.params9] at hA hval hsz
  obtain ⟨v0, vs0, d0, ds0, p0, q0, hargs, rfl, rfl, h0, r0⟩ := trodAll_cons hA
  obtain ⟨rfl, rfl, rfl⟩ := trodAll_nil r0
  obtain rfl : args = #[v0] := by cases args; simp_all
  obtain ⟨rfl, rfl⟩ := trodVars_none hV
  have kp0 := h0
  have lt0 : ∀ x ∈ p0, x.block < W.heap.size := by obtain ⟨m, hm⟩ := kp0; exact DataW.trod_lt m _ _ _ hm
  obtain ⟨cs0, rfl, hcs0⟩ := okWide_struct Tryd.underlying53 (hval 0 53 v0 rfl rfl)
  obtain ⟨x0, hk0, g0⟩ := Opens.of (opens53 enc W) h0
  obtain ⟨A0_1, c0_1, he0, hc0_1, hr0_1⟩ := k53_open hk0
  obtain rfl : cs0 = #[.int .i64 x0.f0, .slice A0_1 x0.f1.length c0_1] := Array.ext' he0
  clear hA0 hval0 hsz0 hsz
  have hT_ : PFnExactResponseFields.TabW W := by
    have hl_ : laidMet Tryd.prog Rows.fnExactResponseFieldsRow.laid W := by rw [← MakeChecks.laidMetH_plain _ _ _ (by kernel_rfl)]; exact hL_
    exact Go.Lib.tabIs_of_head (g := 2) (t := 137) (e := 122) (n := 20) (k := .u64) (zs := Go.Lib.pow10Tab) (by kernel_rfl) (by kernel_rfl) Tryd.underlying137 Tryd.underlying122 (by kernel_rfl) (by kernel_rfl) hl_.tail.tail
  obtain ⟨k, hk⟩ := Pure.FnExactResponseFields x0 g0
  refine (laws_FnExactResponseFields.calls k x0.f0 _ _ x0.f1 true W hr0_1 hc0_1 hk hT_).mono fun e W' ⟨he_, hd_⟩ => ?_
  have bel : Below W.heap.size W W' := hd_
  subst he_
  exact ⟨_, rfl, _, _, _, [], _, [], hW', trodAll_mk1 (shut_bool Tryd.underlying4 _), (trodAll_cons_mk (Below.trod laidOut (by kernel_rfl) (of_decide_eq_true (by kernel_rfl)) kp0 bel lt0) trodAll_mk0), rfl, bel.frame _, fun h => by cases h⟩
theorem over : Rows.fnExactResponseFieldsRow.holds Tryd.pinned (OpenSpec.ofChange Rows.fnExactResponseFieldsSpec) :=
  OpenClaim.holds_of_wide 9 Tryd.f9 rfl rfl rfl rfl rfl rfl rfl ⟨rfl, rfl, rfl, rfl, rfl⟩ rfl rfl rfl rfl rfl (by kernel_rfl) Tryd.func9 (by kernel_rfl)
    (of_decide_eq_true (by kernel_rfl)) (by unfold Func.isWrapper; first | (rw [if_pos (by decide +kernel)]; kernel_rfl) | (rw [if_neg (by decide +kernel)]; exact ⟨rfl, rfl⟩))
    (fun os started H enc _ => lifted os started H enc)
theorem said : Rows.FnExactResponseFieldsSaid := over
set_option maxRecDepth 100000 in
theorem plain (f : FuncId) (fn : Func) (hf : Tryd.pinned.checked.prog.funcNamed "loop.example/g00012/laws.FnExactResponseFields" = some f) (hfn : Tryd.pinned.checked.prog.funcs[f]? = some fn) :
    true = Tryd.pinned.checked.prog.looks [] ∧ ∀ (j : Nat) t, fn.params[j]? = some t → Tryd.pinned.checked.prog.wantsStandIn t = false := by
  obtain rfl : f = 9 := Option.some.inj ((show Tryd.prog.funcNamed "loop.example/g00012/laws.FnExactResponseFields" = some 9 by kernel_rfl).symm.trans hf) |>.symm
  obtain rfl : fn = Tryd.f9 := (Option.some.inj (Tryd.func9.symm.trans hfn)).symm
  refine ⟨by kernel_rfl, fun j t ht => ?_⟩
  rw [Tryd.params9] at ht
  have hm := Array.mem_of_getElem? ht
  simp only [List.mem_toArray, List.mem_cons, List.mem_nil_iff, or_false] at hm
  have h : t = 53 := by simpa using hm
  rcases h with rfl
  all_goals (show _ = _; kernel_rfl)
theorem card : Rows.FnExactResponseFieldsCardSaid :=
  Claim7.holds_tied_plain_at .later [] _ _ _ _ said (fun _ h => by cases h) (by kernel_rfl) (fun _ h => by cases h) fnExactResponseFields_row_tie rfl ⟨rfl, rfl⟩ (by kernel_rfl) rfl plain (by kernel_rfl)
#print axioms card
end Go.Proofs.YtkcimmlaoipdkaaDoor.fnExactResponseFields
namespace Go.Proofs.YtkcimmlaoipdkaaDoor
/-- The card, under a short name, for the claim. -/
theorem fnExactResponseFields_holds : Rows.FnExactResponseFieldsCardSaid := fnExactResponseFields.card
end Go.Proofs.YtkcimmlaoipdkaaDoor
