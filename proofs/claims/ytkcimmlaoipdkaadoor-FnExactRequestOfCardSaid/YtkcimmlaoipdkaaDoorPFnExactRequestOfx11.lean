-- Written by a program of this repo (xprint.py) out of the translation; Lean checks it.
import Derived.Test.YtkcimmlaoipdkaaDoorPFnExactRequestOfx0
import Derived.Test.YtkcimmlaoipdkaaDoorPFnExactRequestOfx1
import Derived.Test.YtkcimmlaoipdkaaDoorPFnExactRequestOfx2
import Derived.Test.YtkcimmlaoipdkaaDoorPFnExactRequestOfx6
import Derived.Test.YtkcimmlaoipdkaaDoorPFnExactRequestOfx9
import Derived.Test.YtkcimmlaoipdkaaDoorPFnExactRequestOfx10
namespace Go.Proofs.YtkcimmlaoipdkaaDoor.PFnExactRequestOf
open Go.RowKit Go.Proofs.YtkcimmlaoipdkaaDoorW.PrintWords Go.Proofs.YtkcimmlaoipdkaaDoorW.PrintLast Go.Proofs.YtkcimmlaoipdkaaDoorW.PrintMore
attribute [local go_sem] max2_int min2_int max_two min_two max_three min_three max_four min_four   -- for this text's walks alone
set_option linter.unusedVariables false
set_option linter.unusedSimpArgs false

/-! ### laws_FnExactRequestOf: function 8 -/
mutual
def laws_FnExactRequestOf.j0 : Nat → List (S77) → Int → List (S78) → Int → Bool → ByteArray → ByteArray → ByteArray → ByteArray → List (S78) → ByteArray → ByteArray → ByteArray → ByteArray → List (S78) → Option (Bool)
  | 0, _, _, _, _, _, _, _, _, _, _, _, _, _, _, _ => none
  | k + 1, x0, x5, x6, x8, x40, x217000, x217001, x217002, x217003, x217004, x229000, x229001, x229002, x229003, x229004 => if x40 = true then (some false) else ((laws_toFieldS.f k x0).bind fun t230 => ((laws_eqFieldS.f k x6 t230).bind fun t233 => (if t233 = true then ((laws_markFieldS.f k x6 1).bind fun bt234 => (if bt234.1 < 0 then (laws_FnExactRequestOf.j1 k x0 x5 true x217000 x217001 x217002 x217003 x217004 x229000 x229001 x229002 x229003 x229004) else ((laws_eqRequest.f k x229000 x229001 x229002 x229003 x229004 x217000 x217001 x217002 x217003 x217004).bind fun t236 => (if t236 = true then (laws_FnExactRequestOf.j1 k x0 x5 (x8 != x5) x217000 x217001 x217002 x217003 x217004 x229000 x229001 x229002 x229003 x229004) else (laws_FnExactRequestOf.j1 k x0 x5 true x217000 x217001 x217002 x217003 x217004 x229000 x229001 x229002 x229003 x229004))))) else (some false))))
def laws_FnExactRequestOf.j1 : Nat → List (S77) → Int → Bool → ByteArray → ByteArray → ByteArray → ByteArray → List (S78) → ByteArray → ByteArray → ByteArray → ByteArray → List (S78) → Option (Bool)
  | 0, _, _, _, _, _, _, _, _, _, _, _, _, _ => none
  | k + 1, x0, x5, x61, x217000, x217001, x217002, x217003, x217004, x229000, x229001, x229002, x229003, x229004 => if x61 = true then (some false) else ((laws_markRequest.f k x229000 x229001 x229002 x229003 x229004 1).bind fun bt237 => ((laws_heldRequest.f k x229000 x229001 x229002 x229003 bt237.2 1).bind fun t239 => (if t239 < 0 then (some false) else (if t239 = bt237.1 then ((laws_toFieldS.f k x0).bind fun t240 => ((impl_RequestOf.f k t240).bind fun bt243 => ((laws_eqRequest.f k bt243.1 bt243.2.1 bt243.2.2.1 bt243.2.2.2.1 bt243.2.2.2.2.1 x217000 x217001 x217002 x217003 x217004).bind fun t252 => (if t252 = true then (laws_FnExactRequestOf.j2 k bt237.1 (bt243.2.2.2.2.2 != x5) x229000 x229001 x229002 x229003 bt237.2) else (laws_FnExactRequestOf.j2 k bt237.1 true x229000 x229001 x229002 x229003 bt237.2))))) else (some false)))))
def laws_FnExactRequestOf.j2 : Nat → Int → Bool → ByteArray → ByteArray → ByteArray → ByteArray → List (S78) → Option (Bool)
  | 0, _, _, _, _, _, _, _ => none
  | k + 1, x10, x87, x229000, x229001, x229002, x229003, x229004 => if x87 = true then (some false) else ((laws_heldRequest.f k x229000 x229001 x229002 x229003 x229004 1).bind fun t253 => (if t253 < 0 then (some false) else (if t253 = x10 then (some true) else (some false))))
end
def laws_FnExactRequestOf.f (k : Nat) (l0 : List (S77)) : Option (Bool) := (laws_szFieldS.f k l0 1048576).bind fun t204 => (if t204 < 0 then (some true) else ((laws_toFieldS.f k l0).bind fun t205 => ((spec_RequestOf.f k t205).bind fun bt208 => ((laws_toFieldS.f k l0).bind fun t217 => ((impl_RequestOf.f k t217).bind fun bt220 => ((laws_eqRequest.f k bt220.1 bt220.2.1 bt220.2.2.1 bt220.2.2.2.1 bt220.2.2.2.2.1 bt208.1 bt208.2.1 bt208.2.2.1 bt208.2.2.2.1 bt208.2.2.2.2.1).bind fun t229 => (if t229 = true then (laws_FnExactRequestOf.j0 k l0 bt208.2.2.2.2.2 t217 bt220.2.2.2.2.2 (bt220.2.2.2.2.2 != bt208.2.2.2.2.2) bt208.1 bt208.2.1 bt208.2.2.1 bt208.2.2.2.1 bt208.2.2.2.2.1 bt220.1 bt220.2.1 bt220.2.2.1 bt220.2.2.2.1 bt220.2.2.2.2.1) else (laws_FnExactRequestOf.j0 k l0 bt208.2.2.2.2.2 t217 bt220.2.2.2.2.2 true bt208.1 bt208.2.1 bt208.2.2.1 bt208.2.2.2.1 bt208.2.2.2.2.1 bt220.1 bt220.2.1 bt220.2.2.1 bt220.2.2.2.1 bt220.2.2.2.2.1))))))))
theorem laws_FnExactRequestOf.mono_l : ∀ k, (∀ y0 y1 y2 y3 y4 y5 y6 y7 y8 y9 y10 y11 y12 y13 y14, LeO (laws_FnExactRequestOf.j0 k y0 y1 y2 y3 y4 y5 y6 y7 y8 y9 y10 y11 y12 y13 y14) (laws_FnExactRequestOf.j0 (k + 1) y0 y1 y2 y3 y4 y5 y6 y7 y8 y9 y10 y11 y12 y13 y14)) ∧ (∀ y0 y1 y2 y3 y4 y5 y6 y7 y8 y9 y10 y11 y12, LeO (laws_FnExactRequestOf.j1 k y0 y1 y2 y3 y4 y5 y6 y7 y8 y9 y10 y11 y12) (laws_FnExactRequestOf.j1 (k + 1) y0 y1 y2 y3 y4 y5 y6 y7 y8 y9 y10 y11 y12)) ∧ (∀ y0 y1 y2 y3 y4 y5 y6, LeO (laws_FnExactRequestOf.j2 k y0 y1 y2 y3 y4 y5 y6) (laws_FnExactRequestOf.j2 (k + 1) y0 y1 y2 y3 y4 y5 y6))
  | 0 => ⟨fun _ _ _ _ _ _ _ _ _ _ _ _ _ _ _ r h => by simp [laws_FnExactRequestOf.j0] at h, fun _ _ _ _ _ _ _ _ _ _ _ _ _ r h => by simp [laws_FnExactRequestOf.j1] at h, fun _ _ _ _ _ _ _ r h => by simp [laws_FnExactRequestOf.j2] at h⟩
  | k + 1 => by
    obtain ⟨ih0, ih1, ih2⟩ := laws_FnExactRequestOf.mono_l k
    refine ⟨?_, ?_, ?_⟩
    · intro y0 y1 y2 y3 y4 y5 y6 y7 y8 y9 y10 y11 y12 y13 y14
      unfold laws_FnExactRequestOf.j0
      repeat' first
      | (with_reducible exact ih0 _ _ _ _ _ _ _ _ _ _ _ _ _ _ _)
      | (with_reducible exact ih1 _ _ _ _ _ _ _ _ _ _ _ _ _)
      | (with_reducible exact ih2 _ _ _ _ _ _ _)
      | (with_reducible exact impl_RequestOf.mono _ _)
      | (with_reducible exact laws_eqFieldS.mono _ _ _)
      | (with_reducible exact laws_eqRequest.mono _ _ _ _ _ _ _ _ _ _ _)
      | (with_reducible exact laws_heldRequest.mono _ _ _ _ _ _ _)
      | (with_reducible exact laws_markFieldS.mono _ _ _)
      | (with_reducible exact laws_markRequest.mono _ _ _ _ _ _ _)
      | (with_reducible exact laws_szFieldS.mono _ _ _)
      | (with_reducible exact laws_toFieldS.mono _ _)
      | (with_reducible exact spec_RequestOf.mono _ _)
      | (with_reducible exact LeO.refl _)
      | (with_reducible exact LeO.none _)
      | (with_reducible refine LeO.ite ?_ ?_)
      | (with_reducible refine LeO.bind ?_ (fun _ => ?_))
      | exact ih0 _ _ _ _ _ _ _ _ _ _ _ _ _ _ _
      | exact ih1 _ _ _ _ _ _ _ _ _ _ _ _ _
      | exact ih2 _ _ _ _ _ _ _
      | exact impl_RequestOf.mono _ _
      | exact laws_eqFieldS.mono _ _ _
      | exact laws_eqRequest.mono _ _ _ _ _ _ _ _ _ _ _
      | exact laws_heldRequest.mono _ _ _ _ _ _ _
      | exact laws_markFieldS.mono _ _ _
      | exact laws_markRequest.mono _ _ _ _ _ _ _
      | exact laws_szFieldS.mono _ _ _
      | exact laws_toFieldS.mono _ _
      | exact spec_RequestOf.mono _ _
      | exact LeO.none _
      | refine LeO.ite ?_ ?_
      | refine LeO.bind ?_ (fun _ => ?_)
    · intro y0 y1 y2 y3 y4 y5 y6 y7 y8 y9 y10 y11 y12
      unfold laws_FnExactRequestOf.j1
      repeat' first
      | (with_reducible exact ih0 _ _ _ _ _ _ _ _ _ _ _ _ _ _ _)
      | (with_reducible exact ih1 _ _ _ _ _ _ _ _ _ _ _ _ _)
      | (with_reducible exact ih2 _ _ _ _ _ _ _)
      | (with_reducible exact impl_RequestOf.mono _ _)
      | (with_reducible exact laws_eqFieldS.mono _ _ _)
      | (with_reducible exact laws_eqRequest.mono _ _ _ _ _ _ _ _ _ _ _)
      | (with_reducible exact laws_heldRequest.mono _ _ _ _ _ _ _)
      | (with_reducible exact laws_markFieldS.mono _ _ _)
      | (with_reducible exact laws_markRequest.mono _ _ _ _ _ _ _)
      | (with_reducible exact laws_szFieldS.mono _ _ _)
      | (with_reducible exact laws_toFieldS.mono _ _)
      | (with_reducible exact spec_RequestOf.mono _ _)
      | (with_reducible exact LeO.refl _)
      | (with_reducible exact LeO.none _)
      | (with_reducible refine LeO.ite ?_ ?_)
      | (with_reducible refine LeO.bind ?_ (fun _ => ?_))
      | exact ih0 _ _ _ _ _ _ _ _ _ _ _ _ _ _ _
      | exact ih1 _ _ _ _ _ _ _ _ _ _ _ _ _
      | exact ih2 _ _ _ _ _ _ _
      | exact impl_RequestOf.mono _ _
      | exact laws_eqFieldS.mono _ _ _
      | exact laws_eqRequest.mono _ _ _ _ _ _ _ _ _ _ _
      | exact laws_heldRequest.mono _ _ _ _ _ _ _
      | exact laws_markFieldS.mono _ _ _
      | exact laws_markRequest.mono _ _ _ _ _ _ _
      | exact laws_szFieldS.mono _ _ _
      | exact laws_toFieldS.mono _ _
      | exact spec_RequestOf.mono _ _
      | exact LeO.none _
      | refine LeO.ite ?_ ?_
      | refine LeO.bind ?_ (fun _ => ?_)
    · intro y0 y1 y2 y3 y4 y5 y6
      unfold laws_FnExactRequestOf.j2
      repeat' first
      | (with_reducible exact ih0 _ _ _ _ _ _ _ _ _ _ _ _ _ _ _)
      | (with_reducible exact ih1 _ _ _ _ _ _ _ _ _ _ _ _ _)
      | (with_reducible exact ih2 _ _ _ _ _ _ _)
      | (with_reducible exact impl_RequestOf.mono _ _)
      | (with_reducible exact laws_eqFieldS.mono _ _ _)
      | (with_reducible exact laws_eqRequest.mono _ _ _ _ _ _ _ _ _ _ _)
      | (with_reducible exact laws_heldRequest.mono _ _ _ _ _ _ _)
      | (with_reducible exact laws_markFieldS.mono _ _ _)
      | (with_reducible exact laws_markRequest.mono _ _ _ _ _ _ _)
      | (with_reducible exact laws_szFieldS.mono _ _ _)
      | (with_reducible exact laws_toFieldS.mono _ _)
      | (with_reducible exact spec_RequestOf.mono _ _)
      | (with_reducible exact LeO.refl _)
      | (with_reducible exact LeO.none _)
      | (with_reducible refine LeO.ite ?_ ?_)
      | (with_reducible refine LeO.bind ?_ (fun _ => ?_))
      | exact ih0 _ _ _ _ _ _ _ _ _ _ _ _ _ _ _
      | exact ih1 _ _ _ _ _ _ _ _ _ _ _ _ _
      | exact ih2 _ _ _ _ _ _ _
      | exact impl_RequestOf.mono _ _
      | exact laws_eqFieldS.mono _ _ _
      | exact laws_eqRequest.mono _ _ _ _ _ _ _ _ _ _ _
      | exact laws_heldRequest.mono _ _ _ _ _ _ _
      | exact laws_markFieldS.mono _ _ _
      | exact laws_markRequest.mono _ _ _ _ _ _ _
      | exact laws_szFieldS.mono _ _ _
      | exact laws_toFieldS.mono _ _
      | exact spec_RequestOf.mono _ _
      | exact LeO.none _
      | refine LeO.ite ?_ ?_
      | refine LeO.bind ?_ (fun _ => ?_)
theorem laws_FnExactRequestOf.mono : ∀ a0 k, LeO (laws_FnExactRequestOf.f k a0) (laws_FnExactRequestOf.f (k + 1) a0) := by
  intro a0 k
  obtain ⟨ih0, ih1, ih2⟩ := laws_FnExactRequestOf.mono_l k
  unfold laws_FnExactRequestOf.f
  repeat' first
      | (with_reducible exact ih0 _ _ _ _ _ _ _ _ _ _ _ _ _ _ _)
      | (with_reducible exact ih1 _ _ _ _ _ _ _ _ _ _ _ _ _)
      | (with_reducible exact ih2 _ _ _ _ _ _ _)
      | (with_reducible exact impl_RequestOf.mono _ _)
      | (with_reducible exact laws_eqFieldS.mono _ _ _)
      | (with_reducible exact laws_eqRequest.mono _ _ _ _ _ _ _ _ _ _ _)
      | (with_reducible exact laws_heldRequest.mono _ _ _ _ _ _ _)
      | (with_reducible exact laws_markFieldS.mono _ _ _)
      | (with_reducible exact laws_markRequest.mono _ _ _ _ _ _ _)
      | (with_reducible exact laws_szFieldS.mono _ _ _)
      | (with_reducible exact laws_toFieldS.mono _ _)
      | (with_reducible exact spec_RequestOf.mono _ _)
      | (with_reducible exact LeO.refl _)
      | (with_reducible exact LeO.none _)
      | (with_reducible refine LeO.ite ?_ ?_)
      | (with_reducible refine LeO.bind ?_ (fun _ => ?_))
      | exact ih0 _ _ _ _ _ _ _ _ _ _ _ _ _ _ _
      | exact ih1 _ _ _ _ _ _ _ _ _ _ _ _ _
      | exact ih2 _ _ _ _ _ _ _
      | exact impl_RequestOf.mono _ _
      | exact laws_eqFieldS.mono _ _ _
      | exact laws_eqRequest.mono _ _ _ _ _ _ _ _ _ _ _
      | exact laws_heldRequest.mono _ _ _ _ _ _ _
      | exact laws_markFieldS.mono _ _ _
      | exact laws_markRequest.mono _ _ _ _ _ _ _
      | exact laws_szFieldS.mono _ _ _
      | exact laws_toFieldS.mono _ _
      | exact spec_RequestOf.mono _ _
      | exact LeO.none _
      | refine LeO.ite ?_ ?_
      | refine LeO.bind ?_ (fun _ => ?_)
set_option maxHeartbeats 8000000 in
set_option maxRecDepth 100000 in
theorem laws_FnExactRequestOf.calls (k : Nat) (A0 : Option Addr) (c0 : Nat) (l0 : List (S77)) (r : Bool) (w : World) (hr0 : Kd.C k77 w A0 l0.length l0) (hc0 : l0.length ≤ c0) (h : laws_FnExactRequestOf.f k l0 = some r) :
    Calls Tryd.prog 8 #[.slice A0 l0.length c0] w fun e w' => e = .returned (.bool r) ∧ Below w.heap.size w w' := by
  have hu44 := Tryd.underlying44
  have HR0 := Aside0.mk hr0
  have HC0 := Aside0.mk hc0
  clear hr0 hc0
  have HB := Aside0.mk (Below.refl w.heap.size w)
  have H : ((laws_szFieldS.f k l0 1048576).bind fun t204 => (if t204 < 0 then (some true) else ((laws_toFieldS.f k l0).bind fun t205 => ((spec_RequestOf.f k t205).bind fun bt208 => ((laws_toFieldS.f k l0).bind fun t217 => ((impl_RequestOf.f k t217).bind fun bt220 => ((laws_eqRequest.f k bt220.1 bt220.2.1 bt220.2.2.1 bt220.2.2.2.1 bt220.2.2.2.2.1 bt208.1 bt208.2.1 bt208.2.2.1 bt208.2.2.2.1 bt208.2.2.2.2.1).bind fun t229 => (if t229 = true then (laws_FnExactRequestOf.j0 k l0 bt208.2.2.2.2.2 t217 bt220.2.2.2.2.2 (bt220.2.2.2.2.2 != bt208.2.2.2.2.2) bt208.1 bt208.2.1 bt208.2.2.1 bt208.2.2.2.1 bt208.2.2.2.2.1 bt220.1 bt220.2.1 bt220.2.2.1 bt220.2.2.2.1 bt220.2.2.2.2.1) else (laws_FnExactRequestOf.j0 k l0 bt208.2.2.2.2.2 t217 bt220.2.2.2.2.2 true bt208.1 bt208.2.1 bt208.2.2.1 bt208.2.2.2.1 bt208.2.2.2.2.1 bt220.1 bt220.2.1 bt220.2.2.1 bt220.2.2.2.1 bt220.2.2.2.2.1))))))))) = some r := h
  clear h
  replace H := Option.bind_eq_some_iff.mp H
  obtain ⟨t204, A20, H⟩ := H
  replace H : (if t204 < 0 then (some true) else ((laws_toFieldS.f k l0).bind fun t205 => ((spec_RequestOf.f k t205).bind fun bt208 => ((laws_toFieldS.f k l0).bind fun t217 => ((impl_RequestOf.f k t217).bind fun bt220 => ((laws_eqRequest.f k bt220.1 bt220.2.1 bt220.2.2.1 bt220.2.2.2.1 bt220.2.2.2.2.1 bt208.1 bt208.2.1 bt208.2.2.1 bt208.2.2.2.1 bt208.2.2.2.2.1).bind fun t229 => (if t229 = true then (laws_FnExactRequestOf.j0 k l0 bt208.2.2.2.2.2 t217 bt220.2.2.2.2.2 (bt220.2.2.2.2.2 != bt208.2.2.2.2.2) bt208.1 bt208.2.1 bt208.2.2.1 bt208.2.2.2.1 bt208.2.2.2.2.1 bt220.1 bt220.2.1 bt220.2.2.1 bt220.2.2.2.1 bt220.2.2.2.2.1) else (laws_FnExactRequestOf.j0 k l0 bt208.2.2.2.2.2 t217 bt220.2.2.2.2.2 true bt208.1 bt208.2.1 bt208.2.2.1 bt208.2.2.2.1 bt208.2.2.2.2.1 bt220.1 bt220.2.1 bt220.2.2.1 bt220.2.2.2.1 bt220.2.2.2.2.1)))))))) = some r := H
  have A2 := Aside0.mk A20
  clear A20
  by_cases c3 : t204 < 0
  · rw [if_pos c3] at H
    have c3b0 : decide (t204 < 0) = true := decide_eq_true c3
    clear c3
    obtain rfl := Option.some.inj H
    go_enter Tryd.func8, Tryd.ntmps8
    go_wp2_with (first | ((with_reducible refine gate_callee (f := 16) rfl ?_); refine goesL_ (some 16) rfl rfl Tryd.func16 (by kernel_rfl) rfl #[.slice A0 l0.length c0, .int .i64 1048576] rfl (by (try simp only [List.map_toArray, List.map_cons, List.map_nil]); first | done | rfl | (simp only [List.length_drop, List.length_take]; rfl)) ?_; (with_reducible refine (laws_szFieldS.calls k _ _ l0 1048576 t204 _ ?side1 ?side2 A2.out).mono ?_); (case side1 => repeat (first | exact HR0.out | (with_reducible refine Kd.C_alloc ?_ _) | (with_reducible refine Kd.C_drewN ?_ _) | (with_reducible refine Kd.C_drew ?_))); (case side2 => exact HC0.out); rintro e w4 ⟨rfl, hb⟩; refine ⟨_, rfl, ?_⟩; have n0_ := Aside0.mk (below_step (by repeat (first | (with_reducible first | exact HB.out | apply below_alloc | apply pw_below_drewN | apply below_drew1) | exact HB.out)) hb); clear HB; have HB := n0_; clear n0_; (try clear hb); (try clear hb2); (try clear hk); (try clear hi)))
    go_ret
    exact ⟨by first | rfl | (simp [errW_none, errW_some] <;> rfl) | (simp [*, errW_none, errW_some] <;> rfl), by repeat (first | (with_reducible first | exact HB.out | apply below_alloc | apply pw_below_drewN | apply below_drew1) | exact HB.out)⟩
  · rw [if_neg c3] at H
    have c3b0 : decide (t204 < 0) = false := decide_eq_false c3
    clear c3
    replace H := Option.bind_eq_some_iff.mp H
    obtain ⟨t205, A50, H⟩ := H
    replace H : ((spec_RequestOf.f k t205).bind fun bt208 => ((laws_toFieldS.f k l0).bind fun t217 => ((impl_RequestOf.f k t217).bind fun bt220 => ((laws_eqRequest.f k bt220.1 bt220.2.1 bt220.2.2.1 bt220.2.2.2.1 bt220.2.2.2.2.1 bt208.1 bt208.2.1 bt208.2.2.1 bt208.2.2.2.1 bt208.2.2.2.2.1).bind fun t229 => (if t229 = true then (laws_FnExactRequestOf.j0 k l0 bt208.2.2.2.2.2 t217 bt220.2.2.2.2.2 (bt220.2.2.2.2.2 != bt208.2.2.2.2.2) bt208.1 bt208.2.1 bt208.2.2.1 bt208.2.2.2.1 bt208.2.2.2.2.1 bt220.1 bt220.2.1 bt220.2.2.1 bt220.2.2.2.1 bt220.2.2.2.2.1) else (laws_FnExactRequestOf.j0 k l0 bt208.2.2.2.2.2 t217 bt220.2.2.2.2.2 true bt208.1 bt208.2.1 bt208.2.2.1 bt208.2.2.2.1 bt208.2.2.2.2.1 bt220.1 bt220.2.1 bt220.2.2.1 bt220.2.2.2.1 bt220.2.2.2.2.1)))))) = some r := H
    have A5 := Aside0.mk A50
    clear A50
    replace H := Option.bind_eq_some_iff.mp H
    obtain ⟨⟨t208, t209, t210, t211, t212, t215⟩, A60, H⟩ := H
    replace H : ((laws_toFieldS.f k l0).bind fun t217 => ((impl_RequestOf.f k t217).bind fun bt220 => ((laws_eqRequest.f k bt220.1 bt220.2.1 bt220.2.2.1 bt220.2.2.2.1 bt220.2.2.2.2.1 t208 t209 t210 t211 t212).bind fun t229 => (if t229 = true then (laws_FnExactRequestOf.j0 k l0 t215 t217 bt220.2.2.2.2.2 (bt220.2.2.2.2.2 != t215) t208 t209 t210 t211 t212 bt220.1 bt220.2.1 bt220.2.2.1 bt220.2.2.2.1 bt220.2.2.2.2.1) else (laws_FnExactRequestOf.j0 k l0 t215 t217 bt220.2.2.2.2.2 true t208 t209 t210 t211 t212 bt220.1 bt220.2.1 bt220.2.2.1 bt220.2.2.2.1 bt220.2.2.2.2.1))))) = some r := H
    have A6 := Aside0.mk A60
    clear A60
    replace H := Option.bind_eq_some_iff.mp H
    obtain ⟨t217, A70, H⟩ := H
    replace H : ((impl_RequestOf.f k t217).bind fun bt220 => ((laws_eqRequest.f k bt220.1 bt220.2.1 bt220.2.2.1 bt220.2.2.2.1 bt220.2.2.2.2.1 t208 t209 t210 t211 t212).bind fun t229 => (if t229 = true then (laws_FnExactRequestOf.j0 k l0 t215 t217 bt220.2.2.2.2.2 (bt220.2.2.2.2.2 != t215) t208 t209 t210 t211 t212 bt220.1 bt220.2.1 bt220.2.2.1 bt220.2.2.2.1 bt220.2.2.2.2.1) else (laws_FnExactRequestOf.j0 k l0 t215 t217 bt220.2.2.2.2.2 true t208 t209 t210 t211 t212 bt220.1 bt220.2.1 bt220.2.2.1 bt220.2.2.2.1 bt220.2.2.2.2.1)))) = some r := H
    have A7 := Aside0.mk A70
    clear A70
    replace H := Option.bind_eq_some_iff.mp H
    obtain ⟨⟨t220, t221, t222, t223, t224, t227⟩, A80, H⟩ := H
    replace H : ((laws_eqRequest.f k t220 t221 t222 t223 t224 t208 t209 t210 t211 t212).bind fun t229 => (if t229 = true then (laws_FnExactRequestOf.j0 k l0 t215 t217 t227 (t227 != t215) t208 t209 t210 t211 t212 t220 t221 t222 t223 t224) else (laws_FnExactRequestOf.j0 k l0 t215 t217 t227 true t208 t209 t210 t211 t212 t220 t221 t222 t223 t224))) = some r := H
    have A8 := Aside0.mk A80
    clear A80
    have HC9 := Aside0.mk H
    clear H
    go_enter Tryd.func8, Tryd.ntmps8
    go_upto_region 8 with (first | ((with_reducible refine gate_callee (f := 16) rfl ?_); refine goesL_ (some 16) rfl rfl Tryd.func16 (by kernel_rfl) rfl #[.slice A0 l0.length c0, .int .i64 1048576] rfl (by (try simp only [List.map_toArray, List.map_cons, List.map_nil]); first | done | rfl | (simp only [List.length_drop, List.length_take]; rfl)) ?_; (with_reducible refine (laws_szFieldS.calls k _ _ l0 1048576 t204 _ ?side1 ?side2 A2.out).mono ?_); (case side1 => repeat (first | exact HR0.out | (with_reducible refine Kd.C_alloc ?_ _) | (with_reducible refine Kd.C_drewN ?_ _) | (with_reducible refine Kd.C_drew ?_))); (case side2 => exact HC0.out); rintro e w10 ⟨rfl, hb⟩; refine ⟨_, rfl, ?_⟩; have n0_ := Aside0.mk (below_step (by repeat (first | (with_reducible first | exact HB.out | apply below_alloc | apply pw_below_drewN | apply below_drew1) | exact HB.out)) hb); clear HB; have HB := n0_; clear n0_; (try clear hb); (try clear hb2); (try clear hk); (try clear hi)) | ((with_reducible refine gate_callee (f := 18) rfl ?_); refine goesL_ (some 21) rfl rfl Tryd.func18 (by kernel_rfl) rfl #[.slice A0 l0.length c0] rfl (by (try simp only [List.map_toArray, List.map_cons, List.map_nil]); first | done | rfl | (simp only [List.length_drop, List.length_take]; rfl)) ?_; (with_reducible refine (laws_toFieldS.calls k _ _ l0 t205 _ ?side1 ?side2 A5.out).mono ?_); (case side1 => repeat (first | exact (Kd.C_below HR0.out HB.out) | (with_reducible refine Kd.C_alloc ?_ _) | (with_reducible refine Kd.C_drewN ?_ _) | (with_reducible refine Kd.C_drew ?_))); (case side2 => exact HC0.out); rintro e w11 ⟨v206, rfl, ho0, hb⟩; refine ⟨_, rfl, ?_⟩; have n0_ := Aside0.mk (Kd.R_lower ho0 (below_size (by repeat (first | (with_reducible first | exact HB.out | apply below_alloc | apply pw_below_drewN | apply below_drew1) | exact HB.out)))); have n1_ := Aside0.mk (below_step (by repeat (first | (with_reducible first | exact HB.out | apply below_alloc | apply pw_below_drewN | apply below_drew1) | exact HB.out)) hb); clear HB; have HO207 := n0_; have HB := n1_; clear n0_ n1_; (try clear hb); (try clear hb2); (try clear hk); (try clear hi); (try clear ho0); obtain ⟨Ao12, co12, eo12⟩ := Kd.R_slice HO207.out; subst eo12) | ((with_reducible refine gate_callee (f := 29) rfl ?_); refine goesL_ (some 22) rfl rfl Tryd.func29 (by kernel_rfl) rfl #[.slice Ao12 t205.length co12] rfl (by (try simp only [List.map_toArray, List.map_cons, List.map_nil]); first | done | rfl | (simp only [List.length_drop, List.length_take]; rfl)) ?_; (with_reducible refine (spec_RequestOf.calls k _ _ t205 t208 t209 t210 t211 t212 t215 _ ?side1 ?side2 A6.out).mono ?_); (case side1 => repeat (first | exact (Kd.R_reads' HO207.out).2.2 | (with_reducible refine Kd.C_alloc ?_ _) | (with_reducible refine Kd.C_drewN ?_ _) | (with_reducible refine Kd.C_drew ?_))); (case side2 => exact (Kd.R_reads' HO207.out).2.1); rintro e w13 ⟨v213, rfl, ho0, hb⟩; refine ⟨_, rfl, ?_⟩; have n0_ := Aside0.mk (Kd.R_elder' (by (with_reducible repeat (first | apply Kd.R_alloc | apply Kd.R_drewN | apply Kd.R_drew)); exact HO207.out) (Kd.R_base ho0) hb); have n1_ := Aside0.mk (Kd.R_lower (Kd.R_new' ho0 (Kd.R_lt (by (with_reducible repeat (first | apply Kd.R_alloc | apply Kd.R_drewN | apply Kd.R_drew)); exact HO207.out))) (below_size (by repeat (first | (with_reducible first | exact HB.out | apply below_alloc | apply pw_below_drewN | apply below_drew1) | exact HB.out)))); have n2_ := Aside0.mk (below_step (by repeat (first | (with_reducible first | exact HB.out | apply below_alloc | apply pw_below_drewN | apply below_drew1) | exact HB.out)) hb); clear HO207; clear HB; have HO207 := n0_; have HO214 := n1_; have HB := n2_; clear n0_ n1_ n2_; (try clear hb); (try clear hb2); (try clear hk); (try clear hi); (try clear ho0)) | ((with_reducible refine gate_dst (N := 4) rfl ?_); refine box_event ?hg (N := 4) ?hd (cs := #[.string (⟨#[]⟩ : ByteArray), .string (⟨#[]⟩ : ByteArray), .string (⟨#[]⟩ : ByteArray), .string (⟨#[]⟩ : ByteArray), .slice none 0 0]) (t := 44) ?hr ?_; (case hd => rfl); (case hg => rfl); (case hr => first | (go_simp; done) | (go_simp; rfl)); intro gb216 hg w14 hbox hb; have n0_ := Aside0.mk (Kd.R_below (by (with_reducible repeat (first | apply Kd.R_alloc | apply Kd.R_drewN | apply Kd.R_drew)); exact HO207.out) hb); have n1_ := Aside0.mk (Kd.R_below (by (with_reducible repeat (first | apply Kd.R_alloc | apply Kd.R_drewN | apply Kd.R_drew)); exact HO214.out) hb); have n2_ := Aside0.mk (below_step (by repeat (first | (with_reducible first | exact HB.out | apply below_alloc | apply pw_below_drewN | apply below_drew1) | exact HB.out)) hb); have n3_ := Aside0.mk (hbox); have n4_ := Aside0.mk ((by rw [hg]; exact (below_size (by repeat (first | (with_reducible first | exact HB.out | apply below_alloc | apply pw_below_drewN | apply below_drew1) | exact HB.out))) : w.heap.size ≤ gb216)); have n5_ := Aside0.mk ((by rw [hg]; exact (below_size (by repeat (first | (with_reducible first | exact HB.out | apply below_alloc | apply pw_below_drewN | apply below_drew1) | exact HB.out))) : w.heap.size ≤ gb216)); clear HO207; clear HO214; clear HB; have HO207 := n0_; have HO214 := n1_; have HB := n2_; have BK216 := n3_; have GW216 := n4_; have GE216 := n5_; clear n0_ n1_ n2_ n3_ n4_ n5_; clear hb hbox hg; have hcz15_0 : w14.cell? ⟨gb216, 0, none⟩ = some (.string (⟨#[]⟩ : ByteArray)) := (blk_cell BK216.out 0).trans rfl; have hcz15_1 : w14.cell? ⟨gb216, 1, none⟩ = some (.string (⟨#[]⟩ : ByteArray)) := (blk_cell BK216.out 1).trans rfl; have hcz15_2 : w14.cell? ⟨gb216, 2, none⟩ = some (.string (⟨#[]⟩ : ByteArray)) := (blk_cell BK216.out 2).trans rfl; have hcz15_3 : w14.cell? ⟨gb216, 3, none⟩ = some (.string (⟨#[]⟩ : ByteArray)) := (blk_cell BK216.out 3).trans rfl; have hcz15_4 : w14.cell? ⟨gb216, 4, none⟩ = some (.slice none 0 0) := (blk_cell BK216.out 4).trans rfl; have hfz15_0 := blk_frozen BK216.out 0; have hfz15_1 := blk_frozen BK216.out 1; have hfz15_2 := blk_frozen BK216.out 2; have hfz15_3 := blk_frozen BK216.out 3; have hfz15_4 := blk_frozen BK216.out 4; obtain ⟨Ao16, co16, eo16⟩ := Kd.R_slice HO214.out; subst eo16) | ((with_reducible refine gate_callee (f := 18) rfl ?_); refine goesL_ (some 26) rfl rfl Tryd.func18 (by kernel_rfl) rfl #[.slice A0 l0.length c0] rfl (by (try simp only [List.map_toArray, List.map_cons, List.map_nil]); first | done | rfl | (simp only [List.length_drop, List.length_take]; rfl)) ?_; (with_reducible refine (laws_toFieldS.calls k _ _ l0 t217 _ ?side1 ?side2 A7.out).mono ?_); (case side1 => exact Kd.C_below HR0.out (by repeat (first | (with_reducible first | exact HB.out | apply below_alloc | apply pw_below_drewN | apply below_drew1 | refine below_set ?_ GE216.out) | exact HB.out))); (case side2 => exact HC0.out); rintro e w17 ⟨v218, rfl, ho0, hb⟩; refine ⟨_, rfl, ?_⟩; have n0_ := Aside0.mk (Kd.R_elder' (by (with_reducible repeat (first | apply Kd.R_alloc | apply Kd.R_drewN | apply Kd.R_drew)); exact (Kd.R_mono (Kd.R_far (p := ⟨gb216, 4, none⟩) (Kd.R_far (p := ⟨gb216, 3, none⟩) (Kd.R_far (p := ⟨gb216, 2, none⟩) (Kd.R_far (p := ⟨gb216, 1, none⟩) (Kd.R_far (p := ⟨gb216, 0, none⟩) (Kd.R_types HO207.out BK216.out (by decide)) (fun _ hk => hk.2) (.string t208)) (fun _ hk => hk.2) (.string t209)) (fun _ hk => hk.2) (.string t210)) (fun _ hk => hk.2) (.string t211)) (fun _ hk => hk.2) (.slice Ao16 t212.length co16)) (fun _ h_ => h_.1))) (Kd.R_base ho0) hb); have n1_ := Aside0.mk (Kd.R_elder' (by (with_reducible repeat (first | apply Kd.R_alloc | apply Kd.R_drewN | apply Kd.R_drew)); exact (Kd.R_mono (Kd.R_far (p := ⟨gb216, 4, none⟩) (Kd.R_far (p := ⟨gb216, 3, none⟩) (Kd.R_far (p := ⟨gb216, 2, none⟩) (Kd.R_far (p := ⟨gb216, 1, none⟩) (Kd.R_far (p := ⟨gb216, 0, none⟩) (Kd.R_types HO214.out BK216.out (by decide)) (fun _ hk => hk.2) (.string t208)) (fun _ hk => hk.2) (.string t209)) (fun _ hk => hk.2) (.string t210)) (fun _ hk => hk.2) (.string t211)) (fun _ hk => hk.2) (.slice Ao16 t212.length co16)) (fun _ h_ => h_.1))) (Kd.R_base ho0) hb); have n2_ := Aside0.mk (Kd.R_lower (Kd.R_new' (Kd.R_new' ho0 (Kd.R_lt (by (with_reducible repeat (first | apply Kd.R_alloc | apply Kd.R_drewN | apply Kd.R_drew)); exact (Kd.R_mono (Kd.R_far (p := ⟨gb216, 4, none⟩) (Kd.R_far (p := ⟨gb216, 3, none⟩) (Kd.R_far (p := ⟨gb216, 2, none⟩) (Kd.R_far (p := ⟨gb216, 1, none⟩) (Kd.R_far (p := ⟨gb216, 0, none⟩) (Kd.R_types HO207.out BK216.out (by decide)) (fun _ hk => hk.2) (.string t208)) (fun _ hk => hk.2) (.string t209)) (fun _ hk => hk.2) (.string t210)) (fun _ hk => hk.2) (.string t211)) (fun _ hk => hk.2) (.slice Ao16 t212.length co16)) (fun _ h_ => h_.1))))) (Kd.R_lt (by (with_reducible repeat (first | apply Kd.R_alloc | apply Kd.R_drewN | apply Kd.R_drew)); exact (Kd.R_mono (Kd.R_far (p := ⟨gb216, 4, none⟩) (Kd.R_far (p := ⟨gb216, 3, none⟩) (Kd.R_far (p := ⟨gb216, 2, none⟩) (Kd.R_far (p := ⟨gb216, 1, none⟩) (Kd.R_far (p := ⟨gb216, 0, none⟩) (Kd.R_types HO214.out BK216.out (by decide)) (fun _ hk => hk.2) (.string t208)) (fun _ hk => hk.2) (.string t209)) (fun _ hk => hk.2) (.string t210)) (fun _ hk => hk.2) (.string t211)) (fun _ hk => hk.2) (.slice Ao16 t212.length co16)) (fun _ h_ => h_.1))))) (below_size (by repeat (first | (with_reducible first | exact HB.out | apply below_alloc | apply pw_below_drewN | apply below_drew1 | refine below_set ?_ GE216.out) | exact HB.out)))); have n3_ := Aside0.mk (blk_below (g := gb216) (o := .cells #[.string t208, .string t209, .string t210, .string t211, .slice Ao16 t212.length co16] 44 (0, 0)) (by (with_reducible repeat (first | refine blk_drewN ?_ _ | refine blk_drew ?_ | refine blk_alloc ?_ _)); refine blk_put (cs := #[.string t208, .string t209, .string t210, .string t211, .slice none 0 0]) ?_ 4 _ rfl; (with_reducible repeat (first | refine blk_drewN ?_ _ | refine blk_drew ?_ | refine blk_alloc ?_ _)); refine blk_put (cs := #[.string t208, .string t209, .string t210, .string (⟨#[]⟩ : ByteArray), .slice none 0 0]) ?_ 3 _ rfl; (with_reducible repeat (first | refine blk_drewN ?_ _ | refine blk_drew ?_ | refine blk_alloc ?_ _)); refine blk_put (cs := #[.string t208, .string t209, .string (⟨#[]⟩ : ByteArray), .string (⟨#[]⟩ : ByteArray), .slice none 0 0]) ?_ 2 _ rfl; (with_reducible repeat (first | refine blk_drewN ?_ _ | refine blk_drew ?_ | refine blk_alloc ?_ _)); refine blk_put (cs := #[.string t208, .string (⟨#[]⟩ : ByteArray), .string (⟨#[]⟩ : ByteArray), .string (⟨#[]⟩ : ByteArray), .slice none 0 0]) ?_ 1 _ rfl; (with_reducible repeat (first | refine blk_drewN ?_ _ | refine blk_drew ?_ | refine blk_alloc ?_ _)); refine blk_put (cs := #[.string (⟨#[]⟩ : ByteArray), .string (⟨#[]⟩ : ByteArray), .string (⟨#[]⟩ : ByteArray), .string (⟨#[]⟩ : ByteArray), .slice none 0 0]) ?_ 0 _ rfl; (with_reducible repeat (first | refine blk_drewN ?_ _ | refine blk_drew ?_ | refine blk_alloc ?_ _)); exact BK216.out) hb); have n4_ := Aside0.mk (below_step (by repeat (first | (with_reducible first | exact HB.out | apply below_alloc | apply pw_below_drewN | apply below_drew1 | refine below_set ?_ GE216.out) | exact HB.out)) hb); clear HO207; clear HO214; clear BK216; clear HB; have HO207 := n0_; have HO214 := n1_; have HO219 := n2_; have BK216 := n3_; have HB := n4_; clear n0_ n1_ n2_ n3_ n4_; (try clear hb); (try clear hb2); (try clear hk); (try clear hi); (try clear ho0); obtain ⟨Ao18, co18, eo18⟩ := Kd.R_slice HO219.out; subst eo18) | ((with_reducible refine gate_callee (f := 30) rfl ?_); refine goesL_ (some 29) rfl rfl Tryd.func30 (by kernel_rfl) rfl #[.slice Ao18 t217.length co18] rfl (by (try simp only [List.map_toArray, List.map_cons, List.map_nil]); first | done | rfl | (simp only [List.length_drop, List.length_take]; rfl)) ?_; (with_reducible refine (impl_RequestOf.calls k _ _ t217 t220 t221 t222 t223 t224 t227 _ ?side1 ?side2 A8.out).mono ?_); (case side1 => repeat (first | exact (Kd.R_reads' HO219.out).2.2 | (with_reducible refine Kd.C_alloc ?_ _) | (with_reducible refine Kd.C_drewN ?_ _) | (with_reducible refine Kd.C_drew ?_))); (case side2 => exact (Kd.R_reads' HO219.out).2.1); rintro e w19 ⟨v225, rfl, ho0, hb⟩; refine ⟨_, rfl, ?_⟩; have n0_ := Aside0.mk (Kd.R_elder' (by (with_reducible repeat (first | apply Kd.R_alloc | apply Kd.R_drewN | apply Kd.R_drew)); exact HO207.out) (Kd.R_base ho0) hb); have n1_ := Aside0.mk (Kd.R_elder' (by (with_reducible repeat (first | apply Kd.R_alloc | apply Kd.R_drewN | apply Kd.R_drew)); exact HO214.out) (Kd.R_base ho0) hb); have n2_ := Aside0.mk (Kd.R_elder' (by (with_reducible repeat (first | apply Kd.R_alloc | apply Kd.R_drewN | apply Kd.R_drew)); exact HO219.out) (Kd.R_base ho0) hb); have n3_ := Aside0.mk (Kd.R_lower (Kd.R_new' (Kd.R_new' (Kd.R_new' ho0 (Kd.R_lt (by (with_reducible repeat (first | apply Kd.R_alloc | apply Kd.R_drewN | apply Kd.R_drew)); exact HO207.out))) (Kd.R_lt (by (with_reducible repeat (first | apply Kd.R_alloc | apply Kd.R_drewN | apply Kd.R_drew)); exact HO214.out))) (Kd.R_lt (by (with_reducible repeat (first | apply Kd.R_alloc | apply Kd.R_drewN | apply Kd.R_drew)); exact HO219.out))) (below_size (by repeat (first | (with_reducible first | exact HB.out | apply below_alloc | apply pw_below_drewN | apply below_drew1 | refine below_set ?_ GE216.out) | exact HB.out)))); have n4_ := Aside0.mk (blk_below (g := gb216) (o := .cells #[.string t208, .string t209, .string t210, .string t211, .slice Ao16 t212.length co16] 44 (0, 0)) (by (with_reducible repeat (first | refine blk_drewN ?_ _ | refine blk_drew ?_ | refine blk_alloc ?_ _)); exact BK216.out) hb); have n5_ := Aside0.mk (below_step (by repeat (first | (with_reducible first | exact HB.out | apply below_alloc | apply pw_below_drewN | apply below_drew1 | refine below_set ?_ GE216.out) | exact HB.out)) hb); clear HO207; clear HO214; clear HO219; clear BK216; clear HB; have HO207 := n0_; have HO214 := n1_; have HO219 := n2_; have HO226 := n3_; have BK216 := n4_; have HB := n5_; clear n0_ n1_ n2_ n3_ n4_ n5_; (try clear hb); (try clear hb2); (try clear hk); (try clear hi); (try clear ho0)) | ((with_reducible refine gate_dst (N := 7) rfl ?_); refine box_event ?hg (N := 7) ?hd (cs := #[.string (⟨#[]⟩ : ByteArray), .string (⟨#[]⟩ : ByteArray), .string (⟨#[]⟩ : ByteArray), .string (⟨#[]⟩ : ByteArray), .slice none 0 0]) (t := 44) ?hr ?_; (case hd => rfl); (case hg => rfl); (case hr => first | (go_simp; done) | (go_simp; rfl)); intro gb228 hg w20 hbox hb; have n0_ := Aside0.mk (Kd.R_below (by (with_reducible repeat (first | apply Kd.R_alloc | apply Kd.R_drewN | apply Kd.R_drew)); exact HO207.out) hb); have n1_ := Aside0.mk (Kd.R_below (by (with_reducible repeat (first | apply Kd.R_alloc | apply Kd.R_drewN | apply Kd.R_drew)); exact HO214.out) hb); have n2_ := Aside0.mk (Kd.R_below (by (with_reducible repeat (first | apply Kd.R_alloc | apply Kd.R_drewN | apply Kd.R_drew)); exact HO219.out) hb); have n3_ := Aside0.mk (Kd.R_below (by (with_reducible repeat (first | apply Kd.R_alloc | apply Kd.R_drewN | apply Kd.R_drew)); exact HO226.out) hb); have n4_ := Aside0.mk (blk_below (g := gb216) (o := .cells #[.string t208, .string t209, .string t210, .string t211, .slice Ao16 t212.length co16] 44 (0, 0)) (by (with_reducible repeat (first | refine blk_drewN ?_ _ | refine blk_drew ?_ | refine blk_alloc ?_ _)); exact BK216.out) hb); have n5_ := Aside0.mk (below_step (by repeat (first | (with_reducible first | exact HB.out | apply below_alloc | apply pw_below_drewN | apply below_drew1 | refine below_set ?_ GE216.out) | exact HB.out)) hb); have n6_ := Aside0.mk (hbox); have n7_ := Aside0.mk ((by rw [hg]; exact (below_size (by repeat (first | (with_reducible first | exact HB.out | apply below_alloc | apply pw_below_drewN | apply below_drew1 | refine below_set ?_ GE216.out) | exact HB.out))) : w.heap.size ≤ gb228)); have n8_ := Aside0.mk ((by rw [hg]; exact (below_size (by repeat (first | (with_reducible first | exact HB.out | apply below_alloc | apply pw_below_drewN | apply below_drew1 | refine below_set ?_ GE216.out) | exact HB.out))) : w.heap.size ≤ gb228)); have n9_ := Aside0.mk ((by rw [hg]; exact Nat.ne_of_lt (blk_lt (g := gb216) (o := .cells #[.string t208, .string t209, .string t210, .string t211, .slice Ao16 t212.length co16] 44 (0, 0)) (by (with_reducible repeat (first | refine blk_drewN ?_ _ | refine blk_drew ?_ | refine blk_alloc ?_ _)); exact BK216.out)) : gb216 ≠ gb228)); have n10_ := Aside0.mk ((by rw [hg]; exact Nat.ne_of_gt (blk_lt (g := gb216) (o := .cells #[.string t208, .string t209, .string t210, .string t211, .slice Ao16 t212.length co16] 44 (0, 0)) (by (with_reducible repeat (first | refine blk_drewN ?_ _ | refine blk_drew ?_ | refine blk_alloc ?_ _)); exact BK216.out)) : gb228 ≠ gb216)); clear HO207; clear HO214; clear HO219; clear HO226; clear BK216; clear HB; have HO207 := n0_; have HO214 := n1_; have HO219 := n2_; have HO226 := n3_; have BK216 := n4_; have HB := n5_; have BK228 := n6_; have GW228 := n7_; have GE228 := n8_; have NB216_228 := n9_; have NB228_216 := n10_; clear n0_ n1_ n2_ n3_ n4_ n5_ n6_ n7_ n8_ n9_ n10_; clear hb hbox hg; have hnb21 := NB228_216.out; have hnc21 := NB216_228.out; have hcz22_0 : w20.cell? ⟨gb228, 0, none⟩ = some (.string (⟨#[]⟩ : ByteArray)) := (blk_cell BK228.out 0).trans rfl; have hcz22_1 : w20.cell? ⟨gb228, 1, none⟩ = some (.string (⟨#[]⟩ : ByteArray)) := (blk_cell BK228.out 1).trans rfl; have hcz22_2 : w20.cell? ⟨gb228, 2, none⟩ = some (.string (⟨#[]⟩ : ByteArray)) := (blk_cell BK228.out 2).trans rfl; have hcz22_3 : w20.cell? ⟨gb228, 3, none⟩ = some (.string (⟨#[]⟩ : ByteArray)) := (blk_cell BK228.out 3).trans rfl; have hcz22_4 : w20.cell? ⟨gb228, 4, none⟩ = some (.slice none 0 0) := (blk_cell BK228.out 4).trans rfl; have hfz22_0 := blk_frozen BK228.out 0; have hfz22_1 := blk_frozen BK228.out 1; have hfz22_2 := blk_frozen BK228.out 2; have hfz22_3 := blk_frozen BK228.out 3; have hfz22_4 := blk_frozen BK228.out 4; obtain ⟨Ao23, co23, eo23⟩ := Kd.R_slice HO226.out; subst eo23))
    (try simp only [Act.put, List.setIfInBounds_toArray, List.set_cons_zero, List.set_cons_succ])
    go_cut [40] (fun v40 wc => ∃ (kq : Nat) (x40_8 : Bool), v40 = .bool x40_8 ∧ Aside0 (laws_FnExactRequestOf.j0 kq l0 t215 t217 t227 x40_8 t208 t209 t210 t211 t212 t220 t221 t222 t223 t224 = some r) ∧ Aside0 (kq ≤ k) ∧ Aside0 (Kd.R k78 78 wc w.heap.size (fun k_ => some k_ ≠ ((.slice Ao16 t212.length co16) : Value).ownBlock ∧ some k_ ≠ ((.slice Ao23 t224.length co23) : Value).ownBlock) (.slice Ao18 t217.length co18) t217) ∧ Aside0 (Kd.R k78 78 wc w.heap.size (fun k_ => some k_ ≠ ((.slice Ao18 t217.length co18) : Value).ownBlock ∧ some k_ ≠ ((.slice Ao23 t224.length co23) : Value).ownBlock) (.slice Ao16 t212.length co16) t212) ∧ Aside0 (Kd.R k78 78 wc w.heap.size (fun k_ => some k_ ≠ ((.slice Ao18 t217.length co18) : Value).ownBlock ∧ some k_ ≠ ((.slice Ao16 t212.length co16) : Value).ownBlock) (.slice Ao23 t224.length co23) t224) ∧ Aside0 (wc.heap[gb216]? = some (.cells #[.string t208, .string t209, .string t210, .string t211, (.slice Ao16 t212.length co16)] 44 (0, 0))) ∧ Aside0 (wc.heap[gb228]? = some (.cells #[.string t220, .string t221, .string t222, .string t223, (.slice Ao23 t224.length co23)] 44 (0, 0))) ∧ Aside0 (Below w.heap.size w wc))
    case first =>
      have H := HC9.out
      clear HC9
      replace H := Option.bind_eq_some_iff.mp H
      obtain ⟨t229, A240, H⟩ := H
      replace H : (if t229 = true then (laws_FnExactRequestOf.j0 k l0 t215 t217 t227 (t227 != t215) t208 t209 t210 t211 t212 t220 t221 t222 t223 t224) else (laws_FnExactRequestOf.j0 k l0 t215 t217 t227 true t208 t209 t210 t211 t212 t220 t221 t222 t223 t224)) = some r := H
      have A24 := Aside0.mk A240
      clear A240
      by_cases c25 : t229 = true
      · subst c25
        have H1 : (laws_FnExactRequestOf.j0 k l0 t215 t217 t227 (t227 != t215) t208 t209 t210 t211 t212 t220 t221 t222 t223 t224) = some r := by rw [if_pos rfl] at H; exact H
        clear H
        have H := H1
        clear H1
        have H' := Aside0.mk H
        clear H
        have hnb26 := NB228_216.out
        have hnc26 := NB216_228.out
        have hcz27_0 : w20.cell? ⟨gb228, 0, none⟩ = some (.string (⟨#[]⟩ : ByteArray)) := (blk_cell BK228.out 0).trans rfl
        have hcz27_1 : w20.cell? ⟨gb228, 1, none⟩ = some (.string (⟨#[]⟩ : ByteArray)) := (blk_cell BK228.out 1).trans rfl
        have hcz27_2 : w20.cell? ⟨gb228, 2, none⟩ = some (.string (⟨#[]⟩ : ByteArray)) := (blk_cell BK228.out 2).trans rfl
        have hcz27_3 : w20.cell? ⟨gb228, 3, none⟩ = some (.string (⟨#[]⟩ : ByteArray)) := (blk_cell BK228.out 3).trans rfl
        have hcz27_4 : w20.cell? ⟨gb228, 4, none⟩ = some (.slice none 0 0) := (blk_cell BK228.out 4).trans rfl
        have hfz27_0 := blk_frozen BK228.out 0
        have hfz27_1 := blk_frozen BK228.out 1
        have hfz27_2 := blk_frozen BK228.out 2
        have hfz27_3 := blk_frozen BK228.out 3
        have hfz27_4 := blk_frozen BK228.out 4
        have hcz28_0 : w20.cell? ⟨gb216, 0, none⟩ = some (.string t208) := (blk_cell BK216.out 0).trans rfl
        have hcz28_1 : w20.cell? ⟨gb216, 1, none⟩ = some (.string t209) := (blk_cell BK216.out 1).trans rfl
        have hcz28_2 : w20.cell? ⟨gb216, 2, none⟩ = some (.string t210) := (blk_cell BK216.out 2).trans rfl
        have hcz28_3 : w20.cell? ⟨gb216, 3, none⟩ = some (.string t211) := (blk_cell BK216.out 3).trans rfl
        have hcz28_4 : w20.cell? ⟨gb216, 4, none⟩ = some (.slice Ao16 t212.length co16) := (blk_cell BK216.out 4).trans rfl
        have hfz28_0 := blk_frozen BK216.out 0
        have hfz28_1 := blk_frozen BK216.out 1
        have hfz28_2 := blk_frozen BK216.out 2
        have hfz28_3 := blk_frozen BK216.out 3
        have hfz28_4 := blk_frozen BK216.out 4
        go_wp2_with (first | ((with_reducible refine gate_callee (f := 25) rfl ?_); refine goesL_ (some 34) rfl rfl Tryd.func25 (by kernel_rfl) rfl #[.agg #[.string t220, .string t221, .string t222, .string t223, .slice Ao23 t224.length co23], .agg #[.string t208, .string t209, .string t210, .string t211, .slice Ao16 t212.length co16]] rfl (by (try simp only [List.map_toArray, List.map_cons, List.map_nil]); first | done | rfl | (simp only [List.length_drop, List.length_take]; rfl)) ?_; (with_reducible refine (laws_eqRequest.calls k t220 t221 t222 t223 _ _ t224 t208 t209 t210 t211 _ _ t212 true _ ?side1 ?side2 ?side3 ?side4 A24.out).mono ?_); (case side1 => refine (Kd.R_reads' (e := 78) (base := w.heap.size) (ok := fun k_ => (((True ∧ some k_ ≠ (.slice Ao12 t205.length co12 : Value).ownBlock) ∧ some k_ ≠ (.slice Ao16 t212.length co16 : Value).ownBlock) ∧ some k_ ≠ (.slice Ao18 t217.length co18 : Value).ownBlock)) (n := t224.length) (c := co23) ?_).2.2; exact (by (with_reducible repeat (first | apply Kd.R_alloc | apply Kd.R_drewN | apply Kd.R_drew)); exact (Kd.R_mono (Kd.R_far (p := ⟨gb228, 4, none⟩) (Kd.R_far (p := ⟨gb228, 3, none⟩) (Kd.R_far (p := ⟨gb228, 2, none⟩) (Kd.R_far (p := ⟨gb228, 1, none⟩) (Kd.R_far (p := ⟨gb228, 0, none⟩) (Kd.R_types HO226.out BK228.out (by decide)) (fun _ hk => hk.2) (.string t220)) (fun _ hk => hk.2) (.string t221)) (fun _ hk => hk.2) (.string t222)) (fun _ hk => hk.2) (.string t223)) (fun _ hk => hk.2) (.slice Ao23 t224.length co23)) (fun _ h_ => h_.1)))); (case side2 => exact (Kd.R_reads' HO226.out).2.1); (case side3 => refine (Kd.R_reads' (e := 78) (base := w.heap.size) (ok := fun k_ => (((True ∧ some k_ ≠ (.slice Ao12 t205.length co12 : Value).ownBlock) ∧ some k_ ≠ (.slice Ao18 t217.length co18 : Value).ownBlock) ∧ some k_ ≠ (.slice Ao23 t224.length co23 : Value).ownBlock)) (n := t212.length) (c := co16) ?_).2.2; exact (by (with_reducible repeat (first | apply Kd.R_alloc | apply Kd.R_drewN | apply Kd.R_drew)); exact (Kd.R_mono (Kd.R_far (p := ⟨gb228, 4, none⟩) (Kd.R_far (p := ⟨gb228, 3, none⟩) (Kd.R_far (p := ⟨gb228, 2, none⟩) (Kd.R_far (p := ⟨gb228, 1, none⟩) (Kd.R_far (p := ⟨gb228, 0, none⟩) (Kd.R_types HO214.out BK228.out (by decide)) (fun _ hk => hk.2) (.string t220)) (fun _ hk => hk.2) (.string t221)) (fun _ hk => hk.2) (.string t222)) (fun _ hk => hk.2) (.string t223)) (fun _ hk => hk.2) (.slice Ao23 t224.length co23)) (fun _ h_ => h_.1)))); (case side4 => exact (Kd.R_reads' HO214.out).2.1); rintro e w29 ⟨rfl, hb⟩; refine ⟨_, rfl, ?_⟩; have n0_ := Aside0.mk (Kd.R_below (by (with_reducible repeat (first | apply Kd.R_alloc | apply Kd.R_drewN | apply Kd.R_drew)); exact (Kd.R_mono (Kd.R_far (p := ⟨gb228, 4, none⟩) (Kd.R_far (p := ⟨gb228, 3, none⟩) (Kd.R_far (p := ⟨gb228, 2, none⟩) (Kd.R_far (p := ⟨gb228, 1, none⟩) (Kd.R_far (p := ⟨gb228, 0, none⟩) (Kd.R_types HO207.out BK228.out (by decide)) (fun _ hk => hk.2) (.string t220)) (fun _ hk => hk.2) (.string t221)) (fun _ hk => hk.2) (.string t222)) (fun _ hk => hk.2) (.string t223)) (fun _ hk => hk.2) (.slice Ao23 t224.length co23)) (fun _ h_ => h_.1))) hb); have n1_ := Aside0.mk (Kd.R_below (by (with_reducible repeat (first | apply Kd.R_alloc | apply Kd.R_drewN | apply Kd.R_drew)); exact (Kd.R_mono (Kd.R_far (p := ⟨gb228, 4, none⟩) (Kd.R_far (p := ⟨gb228, 3, none⟩) (Kd.R_far (p := ⟨gb228, 2, none⟩) (Kd.R_far (p := ⟨gb228, 1, none⟩) (Kd.R_far (p := ⟨gb228, 0, none⟩) (Kd.R_types HO214.out BK228.out (by decide)) (fun _ hk => hk.2) (.string t220)) (fun _ hk => hk.2) (.string t221)) (fun _ hk => hk.2) (.string t222)) (fun _ hk => hk.2) (.string t223)) (fun _ hk => hk.2) (.slice Ao23 t224.length co23)) (fun _ h_ => h_.1))) hb); have n2_ := Aside0.mk (Kd.R_below (by (with_reducible repeat (first | apply Kd.R_alloc | apply Kd.R_drewN | apply Kd.R_drew)); exact (Kd.R_mono (Kd.R_far (p := ⟨gb228, 4, none⟩) (Kd.R_far (p := ⟨gb228, 3, none⟩) (Kd.R_far (p := ⟨gb228, 2, none⟩) (Kd.R_far (p := ⟨gb228, 1, none⟩) (Kd.R_far (p := ⟨gb228, 0, none⟩) (Kd.R_types HO219.out BK228.out (by decide)) (fun _ hk => hk.2) (.string t220)) (fun _ hk => hk.2) (.string t221)) (fun _ hk => hk.2) (.string t222)) (fun _ hk => hk.2) (.string t223)) (fun _ hk => hk.2) (.slice Ao23 t224.length co23)) (fun _ h_ => h_.1))) hb); have n3_ := Aside0.mk (Kd.R_below (by (with_reducible repeat (first | apply Kd.R_alloc | apply Kd.R_drewN | apply Kd.R_drew)); exact (Kd.R_mono (Kd.R_far (p := ⟨gb228, 4, none⟩) (Kd.R_far (p := ⟨gb228, 3, none⟩) (Kd.R_far (p := ⟨gb228, 2, none⟩) (Kd.R_far (p := ⟨gb228, 1, none⟩) (Kd.R_far (p := ⟨gb228, 0, none⟩) (Kd.R_types HO226.out BK228.out (by decide)) (fun _ hk => hk.2) (.string t220)) (fun _ hk => hk.2) (.string t221)) (fun _ hk => hk.2) (.string t222)) (fun _ hk => hk.2) (.string t223)) (fun _ hk => hk.2) (.slice Ao23 t224.length co23)) (fun _ h_ => h_.1))) hb); have n4_ := Aside0.mk (blk_below (g := gb216) (o := .cells #[.string t208, .string t209, .string t210, .string t211, .slice Ao16 t212.length co16] 44 (0, 0)) (by (with_reducible repeat (first | refine blk_drewN ?_ _ | refine blk_drew ?_ | refine blk_alloc ?_ _)); refine blk_far ?_ NB216_228.out _; (with_reducible repeat (first | refine blk_drewN ?_ _ | refine blk_drew ?_ | refine blk_alloc ?_ _)); refine blk_far ?_ NB216_228.out _; (with_reducible repeat (first | refine blk_drewN ?_ _ | refine blk_drew ?_ | refine blk_alloc ?_ _)); refine blk_far ?_ NB216_228.out _; (with_reducible repeat (first | refine blk_drewN ?_ _ | refine blk_drew ?_ | refine blk_alloc ?_ _)); refine blk_far ?_ NB216_228.out _; (with_reducible repeat (first | refine blk_drewN ?_ _ | refine blk_drew ?_ | refine blk_alloc ?_ _)); refine blk_far ?_ NB216_228.out _; (with_reducible repeat (first | refine blk_drewN ?_ _ | refine blk_drew ?_ | refine blk_alloc ?_ _)); exact BK216.out) hb); have n5_ := Aside0.mk (blk_below (g := gb228) (o := .cells #[.string t220, .string t221, .string t222, .string t223, .slice Ao23 t224.length co23] 44 (0, 0)) (by (with_reducible repeat (first | refine blk_drewN ?_ _ | refine blk_drew ?_ | refine blk_alloc ?_ _)); refine blk_put (cs := #[.string t220, .string t221, .string t222, .string t223, .slice none 0 0]) ?_ 4 _ rfl; (with_reducible repeat (first | refine blk_drewN ?_ _ | refine blk_drew ?_ | refine blk_alloc ?_ _)); refine blk_put (cs := #[.string t220, .string t221, .string t222, .string (⟨#[]⟩ : ByteArray), .slice none 0 0]) ?_ 3 _ rfl; (with_reducible repeat (first | refine blk_drewN ?_ _ | refine blk_drew ?_ | refine blk_alloc ?_ _)); refine blk_put (cs := #[.string t220, .string t221, .string (⟨#[]⟩ : ByteArray), .string (⟨#[]⟩ : ByteArray), .slice none 0 0]) ?_ 2 _ rfl; (with_reducible repeat (first | refine blk_drewN ?_ _ | refine blk_drew ?_ | refine blk_alloc ?_ _)); refine blk_put (cs := #[.string t220, .string (⟨#[]⟩ : ByteArray), .string (⟨#[]⟩ : ByteArray), .string (⟨#[]⟩ : ByteArray), .slice none 0 0]) ?_ 1 _ rfl; (with_reducible repeat (first | refine blk_drewN ?_ _ | refine blk_drew ?_ | refine blk_alloc ?_ _)); refine blk_put (cs := #[.string (⟨#[]⟩ : ByteArray), .string (⟨#[]⟩ : ByteArray), .string (⟨#[]⟩ : ByteArray), .string (⟨#[]⟩ : ByteArray), .slice none 0 0]) ?_ 0 _ rfl; (with_reducible repeat (first | refine blk_drewN ?_ _ | refine blk_drew ?_ | refine blk_alloc ?_ _)); exact BK228.out) hb); have n6_ := Aside0.mk (below_step (by repeat (first | (with_reducible first | exact HB.out | apply below_alloc | apply pw_below_drewN | apply below_drew1 | refine below_set ?_ GE216.out | refine below_set ?_ GE228.out) | exact HB.out)) hb); clear HO207; clear HO214; clear HO219; clear HO226; clear BK216; clear BK228; clear HB; have HO207 := n0_; have HO214 := n1_; have HO219 := n2_; have HO226 := n3_; have BK216 := n4_; have BK228 := n5_; have HB := n6_; clear n0_ n1_ n2_ n3_ n4_ n5_ n6_; (try clear hb); (try clear hb2); (try clear hk); (try clear hi)))
        go_meet
        case rel => exact ⟨_, ((t227 != t215)), (by first | rfl | (simp; done) | (simp [*]; done)), H', ⟨by first | omega | exact Nat.le_refl _⟩, ⟨by (with_reducible repeat (first | apply Kd.R_alloc | apply Kd.R_drewN | apply Kd.R_drew)); exact Kd.R_mono HO219.out (fun _ hk => ⟨hk.1.2, hk.2⟩)⟩, ⟨by (with_reducible repeat (first | apply Kd.R_alloc | apply Kd.R_drewN | apply Kd.R_drew)); exact Kd.R_mono HO214.out (fun _ hk => ⟨hk.1.2, hk.2⟩)⟩, ⟨by (with_reducible repeat (first | apply Kd.R_alloc | apply Kd.R_drewN | apply Kd.R_drew)); exact Kd.R_mono HO226.out (fun _ hk => ⟨hk.2, hk.1.2⟩)⟩, ⟨by (with_reducible repeat (first | refine blk_drewN ?_ _ | refine blk_drew ?_ | refine blk_alloc ?_ _)); exact BK216.out⟩, ⟨by (with_reducible repeat (first | refine blk_drewN ?_ _ | refine blk_drew ?_ | refine blk_alloc ?_ _)); exact BK228.out⟩, ⟨by repeat (first | (with_reducible first | exact HB.out | apply below_alloc | apply pw_below_drewN | apply below_drew1 | refine below_set ?_ GE216.out | refine below_set ?_ GE228.out) | exact HB.out)⟩⟩
      · replace c25 := Bool.eq_false_iff.mpr c25
        subst c25
        have H1 : (laws_FnExactRequestOf.j0 k l0 t215 t217 t227 true t208 t209 t210 t211 t212 t220 t221 t222 t223 t224) = some r := by rw [if_neg (show ¬ (false = true) by decide)] at H; exact H
        clear H
        have H := H1
        clear H1
        have H' := Aside0.mk H
        clear H
        have hnb30 := NB228_216.out
        have hnc30 := NB216_228.out
        have hcz31_0 : w20.cell? ⟨gb228, 0, none⟩ = some (.string (⟨#[]⟩ : ByteArray)) := (blk_cell BK228.out 0).trans rfl
        have hcz31_1 : w20.cell? ⟨gb228, 1, none⟩ = some (.string (⟨#[]⟩ : ByteArray)) := (blk_cell BK228.out 1).trans rfl
        have hcz31_2 : w20.cell? ⟨gb228, 2, none⟩ = some (.string (⟨#[]⟩ : ByteArray)) := (blk_cell BK228.out 2).trans rfl
        have hcz31_3 : w20.cell? ⟨gb228, 3, none⟩ = some (.string (⟨#[]⟩ : ByteArray)) := (blk_cell BK228.out 3).trans rfl
        have hcz31_4 : w20.cell? ⟨gb228, 4, none⟩ = some (.slice none 0 0) := (blk_cell BK228.out 4).trans rfl
        have hfz31_0 := blk_frozen BK228.out 0
        have hfz31_1 := blk_frozen BK228.out 1
        have hfz31_2 := blk_frozen BK228.out 2
        have hfz31_3 := blk_frozen BK228.out 3
        have hfz31_4 := blk_frozen BK228.out 4
        have hcz32_0 : w20.cell? ⟨gb216, 0, none⟩ = some (.string t208) := (blk_cell BK216.out 0).trans rfl
        have hcz32_1 : w20.cell? ⟨gb216, 1, none⟩ = some (.string t209) := (blk_cell BK216.out 1).trans rfl
        have hcz32_2 : w20.cell? ⟨gb216, 2, none⟩ = some (.string t210) := (blk_cell BK216.out 2).trans rfl
        have hcz32_3 : w20.cell? ⟨gb216, 3, none⟩ = some (.string t211) := (blk_cell BK216.out 3).trans rfl
        have hcz32_4 : w20.cell? ⟨gb216, 4, none⟩ = some (.slice Ao16 t212.length co16) := (blk_cell BK216.out 4).trans rfl
        have hfz32_0 := blk_frozen BK216.out 0
        have hfz32_1 := blk_frozen BK216.out 1
        have hfz32_2 := blk_frozen BK216.out 2
        have hfz32_3 := blk_frozen BK216.out 3
        have hfz32_4 := blk_frozen BK216.out 4
        go_wp2_with (first | ((with_reducible refine gate_callee (f := 25) rfl ?_); refine goesL_ (some 34) rfl rfl Tryd.func25 (by kernel_rfl) rfl #[.agg #[.string t220, .string t221, .string t222, .string t223, .slice Ao23 t224.length co23], .agg #[.string t208, .string t209, .string t210, .string t211, .slice Ao16 t212.length co16]] rfl (by (try simp only [List.map_toArray, List.map_cons, List.map_nil]); first | done | rfl | (simp only [List.length_drop, List.length_take]; rfl)) ?_; (with_reducible refine (laws_eqRequest.calls k t220 t221 t222 t223 _ _ t224 t208 t209 t210 t211 _ _ t212 false _ ?side1 ?side2 ?side3 ?side4 A24.out).mono ?_); (case side1 => refine (Kd.R_reads' (e := 78) (base := w.heap.size) (ok := fun k_ => (((True ∧ some k_ ≠ (.slice Ao12 t205.length co12 : Value).ownBlock) ∧ some k_ ≠ (.slice Ao16 t212.length co16 : Value).ownBlock) ∧ some k_ ≠ (.slice Ao18 t217.length co18 : Value).ownBlock)) (n := t224.length) (c := co23) ?_).2.2; exact (by (with_reducible repeat (first | apply Kd.R_alloc | apply Kd.R_drewN | apply Kd.R_drew)); exact (Kd.R_mono (Kd.R_far (p := ⟨gb228, 4, none⟩) (Kd.R_far (p := ⟨gb228, 3, none⟩) (Kd.R_far (p := ⟨gb228, 2, none⟩) (Kd.R_far (p := ⟨gb228, 1, none⟩) (Kd.R_far (p := ⟨gb228, 0, none⟩) (Kd.R_types HO226.out BK228.out (by decide)) (fun _ hk => hk.2) (.string t220)) (fun _ hk => hk.2) (.string t221)) (fun _ hk => hk.2) (.string t222)) (fun _ hk => hk.2) (.string t223)) (fun _ hk => hk.2) (.slice Ao23 t224.length co23)) (fun _ h_ => h_.1)))); (case side2 => exact (Kd.R_reads' HO226.out).2.1); (case side3 => refine (Kd.R_reads' (e := 78) (base := w.heap.size) (ok := fun k_ => (((True ∧ some k_ ≠ (.slice Ao12 t205.length co12 : Value).ownBlock) ∧ some k_ ≠ (.slice Ao18 t217.length co18 : Value).ownBlock) ∧ some k_ ≠ (.slice Ao23 t224.length co23 : Value).ownBlock)) (n := t212.length) (c := co16) ?_).2.2; exact (by (with_reducible repeat (first | apply Kd.R_alloc | apply Kd.R_drewN | apply Kd.R_drew)); exact (Kd.R_mono (Kd.R_far (p := ⟨gb228, 4, none⟩) (Kd.R_far (p := ⟨gb228, 3, none⟩) (Kd.R_far (p := ⟨gb228, 2, none⟩) (Kd.R_far (p := ⟨gb228, 1, none⟩) (Kd.R_far (p := ⟨gb228, 0, none⟩) (Kd.R_types HO214.out BK228.out (by decide)) (fun _ hk => hk.2) (.string t220)) (fun _ hk => hk.2) (.string t221)) (fun _ hk => hk.2) (.string t222)) (fun _ hk => hk.2) (.string t223)) (fun _ hk => hk.2) (.slice Ao23 t224.length co23)) (fun _ h_ => h_.1)))); (case side4 => exact (Kd.R_reads' HO214.out).2.1); rintro e w33 ⟨rfl, hb⟩; refine ⟨_, rfl, ?_⟩; have n0_ := Aside0.mk (Kd.R_below (by (with_reducible repeat (first | apply Kd.R_alloc | apply Kd.R_drewN | apply Kd.R_drew)); exact (Kd.R_mono (Kd.R_far (p := ⟨gb228, 4, none⟩) (Kd.R_far (p := ⟨gb228, 3, none⟩) (Kd.R_far (p := ⟨gb228, 2, none⟩) (Kd.R_far (p := ⟨gb228, 1, none⟩) (Kd.R_far (p := ⟨gb228, 0, none⟩) (Kd.R_types HO207.out BK228.out (by decide)) (fun _ hk => hk.2) (.string t220)) (fun _ hk => hk.2) (.string t221)) (fun _ hk => hk.2) (.string t222)) (fun _ hk => hk.2) (.string t223)) (fun _ hk => hk.2) (.slice Ao23 t224.length co23)) (fun _ h_ => h_.1))) hb); have n1_ := Aside0.mk (Kd.R_below (by (with_reducible repeat (first | apply Kd.R_alloc | apply Kd.R_drewN | apply Kd.R_drew)); exact (Kd.R_mono (Kd.R_far (p := ⟨gb228, 4, none⟩) (Kd.R_far (p := ⟨gb228, 3, none⟩) (Kd.R_far (p := ⟨gb228, 2, none⟩) (Kd.R_far (p := ⟨gb228, 1, none⟩) (Kd.R_far (p := ⟨gb228, 0, none⟩) (Kd.R_types HO214.out BK228.out (by decide)) (fun _ hk => hk.2) (.string t220)) (fun _ hk => hk.2) (.string t221)) (fun _ hk => hk.2) (.string t222)) (fun _ hk => hk.2) (.string t223)) (fun _ hk => hk.2) (.slice Ao23 t224.length co23)) (fun _ h_ => h_.1))) hb); have n2_ := Aside0.mk (Kd.R_below (by (with_reducible repeat (first | apply Kd.R_alloc | apply Kd.R_drewN | apply Kd.R_drew)); exact (Kd.R_mono (Kd.R_far (p := ⟨gb228, 4, none⟩) (Kd.R_far (p := ⟨gb228, 3, none⟩) (Kd.R_far (p := ⟨gb228, 2, none⟩) (Kd.R_far (p := ⟨gb228, 1, none⟩) (Kd.R_far (p := ⟨gb228, 0, none⟩) (Kd.R_types HO219.out BK228.out (by decide)) (fun _ hk => hk.2) (.string t220)) (fun _ hk => hk.2) (.string t221)) (fun _ hk => hk.2) (.string t222)) (fun _ hk => hk.2) (.string t223)) (fun _ hk => hk.2) (.slice Ao23 t224.length co23)) (fun _ h_ => h_.1))) hb); have n3_ := Aside0.mk (Kd.R_below (by (with_reducible repeat (first | apply Kd.R_alloc | apply Kd.R_drewN | apply Kd.R_drew)); exact (Kd.R_mono (Kd.R_far (p := ⟨gb228, 4, none⟩) (Kd.R_far (p := ⟨gb228, 3, none⟩) (Kd.R_far (p := ⟨gb228, 2, none⟩) (Kd.R_far (p := ⟨gb228, 1, none⟩) (Kd.R_far (p := ⟨gb228, 0, none⟩) (Kd.R_types HO226.out BK228.out (by decide)) (fun _ hk => hk.2) (.string t220)) (fun _ hk => hk.2) (.string t221)) (fun _ hk => hk.2) (.string t222)) (fun _ hk => hk.2) (.string t223)) (fun _ hk => hk.2) (.slice Ao23 t224.length co23)) (fun _ h_ => h_.1))) hb); have n4_ := Aside0.mk (blk_below (g := gb216) (o := .cells #[.string t208, .string t209, .string t210, .string t211, .slice Ao16 t212.length co16] 44 (0, 0)) (by (with_reducible repeat (first | refine blk_drewN ?_ _ | refine blk_drew ?_ | refine blk_alloc ?_ _)); refine blk_far ?_ NB216_228.out _; (with_reducible repeat (first | refine blk_drewN ?_ _ | refine blk_drew ?_ | refine blk_alloc ?_ _)); refine blk_far ?_ NB216_228.out _; (with_reducible repeat (first | refine blk_drewN ?_ _ | refine blk_drew ?_ | refine blk_alloc ?_ _)); refine blk_far ?_ NB216_228.out _; (with_reducible repeat (first | refine blk_drewN ?_ _ | refine blk_drew ?_ | refine blk_alloc ?_ _)); refine blk_far ?_ NB216_228.out _; (with_reducible repeat (first | refine blk_drewN ?_ _ | refine blk_drew ?_ | refine blk_alloc ?_ _)); refine blk_far ?_ NB216_228.out _; (with_reducible repeat (first | refine blk_drewN ?_ _ | refine blk_drew ?_ | refine blk_alloc ?_ _)); exact BK216.out) hb); have n5_ := Aside0.mk (blk_below (g := gb228) (o := .cells #[.string t220, .string t221, .string t222, .string t223, .slice Ao23 t224.length co23] 44 (0, 0)) (by (with_reducible repeat (first | refine blk_drewN ?_ _ | refine blk_drew ?_ | refine blk_alloc ?_ _)); refine blk_put (cs := #[.string t220, .string t221, .string t222, .string t223, .slice none 0 0]) ?_ 4 _ rfl; (with_reducible repeat (first | refine blk_drewN ?_ _ | refine blk_drew ?_ | refine blk_alloc ?_ _)); refine blk_put (cs := #[.string t220, .string t221, .string t222, .string (⟨#[]⟩ : ByteArray), .slice none 0 0]) ?_ 3 _ rfl; (with_reducible repeat (first | refine blk_drewN ?_ _ | refine blk_drew ?_ | refine blk_alloc ?_ _)); refine blk_put (cs := #[.string t220, .string t221, .string (⟨#[]⟩ : ByteArray), .string (⟨#[]⟩ : ByteArray), .slice none 0 0]) ?_ 2 _ rfl; (with_reducible repeat (first | refine blk_drewN ?_ _ | refine blk_drew ?_ | refine blk_alloc ?_ _)); refine blk_put (cs := #[.string t220, .string (⟨#[]⟩ : ByteArray), .string (⟨#[]⟩ : ByteArray), .string (⟨#[]⟩ : ByteArray), .slice none 0 0]) ?_ 1 _ rfl; (with_reducible repeat (first | refine blk_drewN ?_ _ | refine blk_drew ?_ | refine blk_alloc ?_ _)); refine blk_put (cs := #[.string (⟨#[]⟩ : ByteArray), .string (⟨#[]⟩ : ByteArray), .string (⟨#[]⟩ : ByteArray), .string (⟨#[]⟩ : ByteArray), .slice none 0 0]) ?_ 0 _ rfl; (with_reducible repeat (first | refine blk_drewN ?_ _ | refine blk_drew ?_ | refine blk_alloc ?_ _)); exact BK228.out) hb); have n6_ := Aside0.mk (below_step (by repeat (first | (with_reducible first | exact HB.out | apply below_alloc | apply pw_below_drewN | apply below_drew1 | refine below_set ?_ GE216.out | refine below_set ?_ GE228.out) | exact HB.out)) hb); clear HO207; clear HO214; clear HO219; clear HO226; clear BK216; clear BK228; clear HB; have HO207 := n0_; have HO214 := n1_; have HO219 := n2_; have HO226 := n3_; have BK216 := n4_; have BK228 := n5_; have HB := n6_; clear n0_ n1_ n2_ n3_ n4_ n5_ n6_; (try clear hb); (try clear hb2); (try clear hk); (try clear hi)))
        go_meet
        case rel => exact ⟨_, (true), (by first | rfl | (simp; done) | (simp [*]; done)), H', ⟨by first | omega | exact Nat.le_refl _⟩, ⟨by (with_reducible repeat (first | apply Kd.R_alloc | apply Kd.R_drewN | apply Kd.R_drew)); exact Kd.R_mono HO219.out (fun _ hk => ⟨hk.1.2, hk.2⟩)⟩, ⟨by (with_reducible repeat (first | apply Kd.R_alloc | apply Kd.R_drewN | apply Kd.R_drew)); exact Kd.R_mono HO214.out (fun _ hk => ⟨hk.1.2, hk.2⟩)⟩, ⟨by (with_reducible repeat (first | apply Kd.R_alloc | apply Kd.R_drewN | apply Kd.R_drew)); exact Kd.R_mono HO226.out (fun _ hk => ⟨hk.2, hk.1.2⟩)⟩, ⟨by (with_reducible repeat (first | refine blk_drewN ?_ _ | refine blk_drew ?_ | refine blk_alloc ?_ _)); exact BK216.out⟩, ⟨by (with_reducible repeat (first | refine blk_drewN ?_ _ | refine blk_drew ?_ | refine blk_alloc ?_ _)); exact BK228.out⟩, ⟨by repeat (first | (with_reducible first | exact HB.out | apply below_alloc | apply pw_below_drewN | apply below_drew1 | refine below_set ?_ GE216.out | refine below_set ?_ GE228.out) | exact HB.out)⟩⟩
    case rest =>
      clear HC9
      try clear c1
      try clear c2
      try clear p2
      try clear c3
      try clear c3b0
      try clear c8
      try clear c16
      try clear c18
      try clear c21
      try clear c25
      try clear c26
      try clear c29
      try clear c30
      try clear hcz15_0
      try clear hcz15_1
      try clear hcz15_2
      try clear hcz15_3
      try clear hcz15_4
      try clear hcz22_0
      try clear hcz22_1
      try clear hcz22_2
      try clear hcz22_3
      try clear hcz22_4
      try clear hcz27_0
      try clear hcz27_1
      try clear hcz27_2
      try clear hcz27_3
      try clear hcz27_4
      try clear hcz28_0
      try clear hcz28_1
      try clear hcz28_2
      try clear hcz28_3
      try clear hcz28_4
      try clear hcz31_0
      try clear hcz31_1
      try clear hcz31_2
      try clear hcz31_3
      try clear hcz31_4
      try clear hcz32_0
      try clear hcz32_1
      try clear hcz32_2
      try clear hcz32_3
      try clear hcz32_4
      try clear hfz15_0
      try clear hfz15_1
      try clear hfz15_2
      try clear hfz15_3
      try clear hfz15_4
      try clear hfz22_0
      try clear hfz22_1
      try clear hfz22_2
      try clear hfz22_3
      try clear hfz22_4
      try clear hfz27_0
      try clear hfz27_1
      try clear hfz27_2
      try clear hfz27_3
      try clear hfz27_4
      try clear hfz28_0
      try clear hfz28_1
      try clear hfz28_2
      try clear hfz28_3
      try clear hfz28_4
      try clear hfz31_0
      try clear hfz31_1
      try clear hfz31_2
      try clear hfz31_3
      try clear hfz31_4
      try clear hfz32_0
      try clear hfz32_1
      try clear hfz32_2
      try clear hfz32_3
      try clear hfz32_4
      obtain ⟨kq, x40_8, rfl, HA, HJ8, HO_6, HO_217004, HO_229004, BK216, BK228, HB⟩ := hcut
      cases kq with
      | zero => exact absurd HA.out (by simp [laws_FnExactRequestOf.j0])
      | succ kj8 =>
        have H := HA.out
        clear HA
        simp only [laws_FnExactRequestOf.j0] at H
        by_cases c34 : x40_8 = true
        · subst c34
          have H1 : (some false) = some r := by rw [if_pos rfl] at H; exact H
          clear H
          have H := H1
          clear H1
          obtain rfl := Option.some.inj H
          go_wp2
          go_ret
          exact ⟨by first | rfl | (simp [errW_none, errW_some] <;> rfl) | (simp [*, errW_none, errW_some] <;> rfl), by repeat (first | (with_reducible first | exact HB.out | apply below_alloc | apply pw_below_drewN | apply below_drew1 | refine below_set ?_ GE216.out | refine below_set ?_ GE228.out) | exact HB.out)⟩
        · replace c34 := Bool.eq_false_iff.mpr c34
          subst c34
          have H1 : ((laws_toFieldS.f kj8 l0).bind fun t230 => ((laws_eqFieldS.f kj8 t217 t230).bind fun t233 => (if t233 = true then ((laws_markFieldS.f kj8 t217 1).bind fun bt234 => (if bt234.1 < 0 then (laws_FnExactRequestOf.j1 kj8 l0 t215 true t208 t209 t210 t211 t212 t220 t221 t222 t223 t224) else ((laws_eqRequest.f kj8 t220 t221 t222 t223 t224 t208 t209 t210 t211 t212).bind fun t236 => (if t236 = true then (laws_FnExactRequestOf.j1 kj8 l0 t215 (t227 != t215) t208 t209 t210 t211 t212 t220 t221 t222 t223 t224) else (laws_FnExactRequestOf.j1 kj8 l0 t215 true t208 t209 t210 t211 t212 t220 t221 t222 t223 t224))))) else (some false)))) = some r := by rw [if_neg (show ¬ (false = true) by decide)] at H; exact H
          clear H
          have H := H1
          clear H1
          replace H := Option.bind_eq_some_iff.mp H
          obtain ⟨t230, A350, H⟩ := H
          replace H : ((laws_eqFieldS.f kj8 t217 t230).bind fun t233 => (if t233 = true then ((laws_markFieldS.f kj8 t217 1).bind fun bt234 => (if bt234.1 < 0 then (laws_FnExactRequestOf.j1 kj8 l0 t215 true t208 t209 t210 t211 t212 t220 t221 t222 t223 t224) else ((laws_eqRequest.f kj8 t220 t221 t222 t223 t224 t208 t209 t210 t211 t212).bind fun t236 => (if t236 = true then (laws_FnExactRequestOf.j1 kj8 l0 t215 (t227 != t215) t208 t209 t210 t211 t212 t220 t221 t222 t223 t224) else (laws_FnExactRequestOf.j1 kj8 l0 t215 true t208 t209 t210 t211 t212 t220 t221 t222 t223 t224))))) else (some false))) = some r := H
          have A35 := Aside0.mk A350
          clear A350
          replace H := Option.bind_eq_some_iff.mp H
          obtain ⟨t233, A360, H⟩ := H
          replace H : (if t233 = true then ((laws_markFieldS.f kj8 t217 1).bind fun bt234 => (if bt234.1 < 0 then (laws_FnExactRequestOf.j1 kj8 l0 t215 true t208 t209 t210 t211 t212 t220 t221 t222 t223 t224) else ((laws_eqRequest.f kj8 t220 t221 t222 t223 t224 t208 t209 t210 t211 t212).bind fun t236 => (if t236 = true then (laws_FnExactRequestOf.j1 kj8 l0 t215 (t227 != t215) t208 t209 t210 t211 t212 t220 t221 t222 t223 t224) else (laws_FnExactRequestOf.j1 kj8 l0 t215 true t208 t209 t210 t211 t212 t220 t221 t222 t223 t224))))) else (some false)) = some r := H
          have A36 := Aside0.mk A360
          clear A360
          by_cases c37 : t233 = true
          · subst c37
            have H1 : ((laws_markFieldS.f kj8 t217 1).bind fun bt234 => (if bt234.1 < 0 then (laws_FnExactRequestOf.j1 kj8 l0 t215 true t208 t209 t210 t211 t212 t220 t221 t222 t223 t224) else ((laws_eqRequest.f kj8 t220 t221 t222 t223 t224 t208 t209 t210 t211 t212).bind fun t236 => (if t236 = true then (laws_FnExactRequestOf.j1 kj8 l0 t215 (t227 != t215) t208 t209 t210 t211 t212 t220 t221 t222 t223 t224) else (laws_FnExactRequestOf.j1 kj8 l0 t215 true t208 t209 t210 t211 t212 t220 t221 t222 t223 t224))))) = some r := by rw [if_pos rfl] at H; exact H
            clear H
            have H := H1
            clear H1
            replace H := Option.bind_eq_some_iff.mp H
            obtain ⟨⟨t234, t235⟩, A380, H⟩ := H
            replace H : (if t234 < 0 then (laws_FnExactRequestOf.j1 kj8 l0 t215 true t208 t209 t210 t211 t212 t220 t221 t222 t223 t224) else ((laws_eqRequest.f kj8 t220 t221 t222 t223 t224 t208 t209 t210 t211 t212).bind fun t236 => (if t236 = true then (laws_FnExactRequestOf.j1 kj8 l0 t215 (t227 != t215) t208 t209 t210 t211 t212 t220 t221 t222 t223 t224) else (laws_FnExactRequestOf.j1 kj8 l0 t215 true t208 t209 t210 t211 t212 t220 t221 t222 t223 t224)))) = some r := H
            have A38 := Aside0.mk A380
            clear A380
            have HC39 := Aside0.mk H
            clear H
            go_upto_region 14 with (first | ((with_reducible refine gate_callee (f := 18) rfl ?_); refine goesL_ (some 43) rfl rfl Tryd.func18 (by kernel_rfl) rfl #[.slice A0 l0.length c0] rfl (by (try simp only [List.map_toArray, List.map_cons, List.map_nil]); first | done | rfl | (simp only [List.length_drop, List.length_take]; rfl)) ?_; (with_reducible refine (laws_toFieldS.calls kj8 _ _ l0 t230 _ ?side1 ?side2 A35.out).mono ?_); (case side1 => repeat (first | exact (Kd.C_below HR0.out HB.out) | (with_reducible refine Kd.C_alloc ?_ _) | (with_reducible refine Kd.C_drewN ?_ _) | (with_reducible refine Kd.C_drew ?_))); (case side2 => exact HC0.out); rintro e w40 ⟨v231, rfl, ho0, hb⟩; refine ⟨_, rfl, ?_⟩; have n0_ := Aside0.mk (Kd.R_elder' (by (with_reducible repeat (first | apply Kd.R_alloc | apply Kd.R_drewN | apply Kd.R_drew)); exact HO_6.out) (Kd.R_base ho0) hb); have n1_ := Aside0.mk (Kd.R_elder' (by (with_reducible repeat (first | apply Kd.R_alloc | apply Kd.R_drewN | apply Kd.R_drew)); exact HO_217004.out) (Kd.R_base ho0) hb); have n2_ := Aside0.mk (Kd.R_elder' (by (with_reducible repeat (first | apply Kd.R_alloc | apply Kd.R_drewN | apply Kd.R_drew)); exact HO_229004.out) (Kd.R_base ho0) hb); have n3_ := Aside0.mk (Kd.R_lower (Kd.R_new' (Kd.R_new' (Kd.R_new' ho0 (Kd.R_lt (by (with_reducible repeat (first | apply Kd.R_alloc | apply Kd.R_drewN | apply Kd.R_drew)); exact HO_6.out))) (Kd.R_lt (by (with_reducible repeat (first | apply Kd.R_alloc | apply Kd.R_drewN | apply Kd.R_drew)); exact HO_217004.out))) (Kd.R_lt (by (with_reducible repeat (first | apply Kd.R_alloc | apply Kd.R_drewN | apply Kd.R_drew)); exact HO_229004.out))) (below_size (by repeat (first | (with_reducible first | exact HB.out | apply below_alloc | apply pw_below_drewN | apply below_drew1 | refine below_set ?_ GE216.out | refine below_set ?_ GE228.out) | exact HB.out)))); have n4_ := Aside0.mk (blk_below (g := gb216) (o := .cells #[.string t208, .string t209, .string t210, .string t211, .slice Ao16 t212.length co16] 44 (0, 0)) (by (with_reducible repeat (first | refine blk_drewN ?_ _ | refine blk_drew ?_ | refine blk_alloc ?_ _)); exact BK216.out) hb); have n5_ := Aside0.mk (blk_below (g := gb228) (o := .cells #[.string t220, .string t221, .string t222, .string t223, .slice Ao23 t224.length co23] 44 (0, 0)) (by (with_reducible repeat (first | refine blk_drewN ?_ _ | refine blk_drew ?_ | refine blk_alloc ?_ _)); exact BK228.out) hb); have n6_ := Aside0.mk (below_step (by repeat (first | (with_reducible first | exact HB.out | apply below_alloc | apply pw_below_drewN | apply below_drew1 | refine below_set ?_ GE216.out | refine below_set ?_ GE228.out) | exact HB.out)) hb); clear HO_6; clear HO_217004; clear HO_229004; clear BK216; clear BK228; clear HB; have HO_6 := n0_; have HO_217004 := n1_; have HO_229004 := n2_; have HO232 := n3_; have BK216 := n4_; have BK228 := n5_; have HB := n6_; clear n0_ n1_ n2_ n3_ n4_ n5_ n6_; (try clear hb); (try clear hb2); (try clear hk); (try clear hi); (try clear ho0); obtain ⟨Ao41, co41, eo41⟩ := Kd.R_slice HO232.out; subst eo41) | ((with_reducible refine gate_callee (f := 20) rfl ?_); refine goesL_ (some 44) rfl rfl Tryd.func20 (by kernel_rfl) rfl #[.slice Ao18 t217.length co18, .slice Ao41 t230.length co41] rfl (by (try simp only [List.map_toArray, List.map_cons, List.map_nil]); first | done | rfl | (simp only [List.length_drop, List.length_take]; rfl)) ?_; (with_reducible refine (laws_eqFieldS.calls kj8 _ _ t217 _ _ t230 true _ ?side1 ?side2 ?side3 ?side4 A36.out).mono ?_); (case side1 => repeat (first | exact (Kd.R_reads' HO_6.out).2.2 | (with_reducible refine Kd.C_alloc ?_ _) | (with_reducible refine Kd.C_drewN ?_ _) | (with_reducible refine Kd.C_drew ?_))); (case side2 => exact (Kd.R_reads' HO_6.out).2.1); (case side3 => repeat (first | exact (Kd.R_reads' HO232.out).2.2 | (with_reducible refine Kd.C_alloc ?_ _) | (with_reducible refine Kd.C_drewN ?_ _) | (with_reducible refine Kd.C_drew ?_))); (case side4 => exact (Kd.R_reads' HO232.out).2.1); rintro e w42 ⟨rfl, hb⟩; refine ⟨_, rfl, ?_⟩; have n0_ := Aside0.mk (Kd.R_below (by (with_reducible repeat (first | apply Kd.R_alloc | apply Kd.R_drewN | apply Kd.R_drew)); exact HO_6.out) hb); have n1_ := Aside0.mk (Kd.R_below (by (with_reducible repeat (first | apply Kd.R_alloc | apply Kd.R_drewN | apply Kd.R_drew)); exact HO_217004.out) hb); have n2_ := Aside0.mk (Kd.R_below (by (with_reducible repeat (first | apply Kd.R_alloc | apply Kd.R_drewN | apply Kd.R_drew)); exact HO_229004.out) hb); have n3_ := Aside0.mk (Kd.R_below (by (with_reducible repeat (first | apply Kd.R_alloc | apply Kd.R_drewN | apply Kd.R_drew)); exact HO232.out) hb); have n4_ := Aside0.mk (blk_below (g := gb216) (o := .cells #[.string t208, .string t209, .string t210, .string t211, .slice Ao16 t212.length co16] 44 (0, 0)) (by (with_reducible repeat (first | refine blk_drewN ?_ _ | refine blk_drew ?_ | refine blk_alloc ?_ _)); exact BK216.out) hb); have n5_ := Aside0.mk (blk_below (g := gb228) (o := .cells #[.string t220, .string t221, .string t222, .string t223, .slice Ao23 t224.length co23] 44 (0, 0)) (by (with_reducible repeat (first | refine blk_drewN ?_ _ | refine blk_drew ?_ | refine blk_alloc ?_ _)); exact BK228.out) hb); have n6_ := Aside0.mk (below_step (by repeat (first | (with_reducible first | exact HB.out | apply below_alloc | apply pw_below_drewN | apply below_drew1 | refine below_set ?_ GE216.out | refine below_set ?_ GE228.out) | exact HB.out)) hb); clear HO_6; clear HO_217004; clear HO_229004; clear HO232; clear BK216; clear BK228; clear HB; have HO_6 := n0_; have HO_217004 := n1_; have HO_229004 := n2_; have HO232 := n3_; have BK216 := n4_; have BK228 := n5_; have HB := n6_; clear n0_ n1_ n2_ n3_ n4_ n5_ n6_; (try clear hb); (try clear hb2); (try clear hk); (try clear hi)) | ((with_reducible refine gate_callee (f := 27) rfl ?_); refine goesL_ (some 48) rfl rfl Tryd.func27 (by kernel_rfl) rfl #[.slice Ao18 t217.length co18, .int .i64 1] rfl (by (try simp only [List.map_toArray, List.map_cons, List.map_nil]); first | done | rfl | (simp only [List.length_drop, List.length_take]; rfl)) ?_; (with_reducible refine (laws_markFieldS.calls kj8 (fun k_ => some k_ = (.slice Ao18 t217.length co18 : Value).ownBlock) (.slice Ao18 t217.length co18) t217 1 t234 t235 w _ ?side1 ?side2 A38.out).mono ?_); (case side1 => repeat (first | (with_reducible first | exact HB.out | apply below_alloc | apply pw_below_drewN | apply below_drew1 | refine below_set ?_ GE216.out | refine below_set ?_ GE228.out) | exact HB.out)); (case side2 => exact Kd.R_tight rfl HO_6.out); rintro e w43 ⟨rfl, hy0, hb, hkp⟩; refine ⟨_, rfl, ?_⟩; have n0_ := Aside0.mk (Kd.R_reok rfl hy0 (fun k_ e_ => HO_6.out.1 k_ e_)); have n1_ := Aside0.mk (Kd.R_mono (ok' := fun k_ => some k_ ≠ (.slice Ao18 t217.length co18 : Value).ownBlock ∧ some k_ ≠ (.slice Ao23 t224.length co23 : Value).ownBlock ∧ some k_ ≠ (.slice Ao41 t230.length co41 : Value).ownBlock) (Kd.R_keptB (HO_217004.out) hkp (fun k_ hk_ hs_ => (hk_.1.1) hs_)) (fun k_ hk_ => ⟨hk_.1.1.1, hk_.1.1.2, hk_.1.2⟩)); have n2_ := Aside0.mk (Kd.R_mono (ok' := fun k_ => some k_ ≠ (.slice Ao18 t217.length co18 : Value).ownBlock ∧ some k_ ≠ (.slice Ao16 t212.length co16 : Value).ownBlock ∧ some k_ ≠ (.slice Ao41 t230.length co41 : Value).ownBlock) (Kd.R_keptB (HO_229004.out) hkp (fun k_ hk_ hs_ => (hk_.1.1) hs_)) (fun k_ hk_ => ⟨hk_.1.1.1, hk_.1.1.2, hk_.1.2⟩)); have n3_ := Aside0.mk (blk_kept (by (with_reducible repeat (first | refine blk_drewN ?_ _ | refine blk_drew ?_ | refine blk_alloc ?_ _)); exact BK216.out) hkp (fun hs_ => (fun e_ => (Kd.R_ne HO_6.out BK216.out (by decide)) e_) hs_)); have n4_ := Aside0.mk (blk_kept (by (with_reducible repeat (first | refine blk_drewN ?_ _ | refine blk_drew ?_ | refine blk_alloc ?_ _)); exact BK228.out) hkp (fun hs_ => (fun e_ => (Kd.R_ne HO_6.out BK228.out (by decide)) e_) hs_)); have n5_ := Aside0.mk (Kd.R_mono (ok' := fun k_ => some k_ ≠ (.slice Ao18 t217.length co18 : Value).ownBlock ∧ some k_ ≠ (.slice Ao16 t212.length co16 : Value).ownBlock ∧ some k_ ≠ (.slice Ao23 t224.length co23 : Value).ownBlock) (Kd.R_keptB (HO232.out) hkp (fun k_ hk_ hs_ => (hk_.1.1.2) hs_)) (fun k_ hk_ => ⟨hk_.1.1.1.2, hk_.1.1.2, hk_.1.2⟩)); have n6_ := Aside0.mk (hb); clear HO_6; clear HO_217004; clear HO_229004; clear BK216; clear BK228; clear HO232; clear HB; have HO_6 := n0_; have HO_217004 := n1_; have HO_229004 := n2_; have BK216 := n3_; have BK228 := n4_; have HO232 := n5_; have HB := n6_; clear n0_ n1_ n2_ n3_ n4_ n5_ n6_; (try clear hb); (try clear hkp); (try clear hy0)))
            (try simp only [Act.put, List.setIfInBounds_toArray, List.set_cons_zero, List.set_cons_succ])
            go_cut [61] (fun v61 wc => ∃ (kq : Nat) (x61_38 : Bool), v61 = .bool x61_38 ∧ Aside0 (laws_FnExactRequestOf.j1 kq l0 t215 x61_38 t208 t209 t210 t211 t212 t220 t221 t222 t223 t224 = some r) ∧ Aside0 (kq ≤ kj8) ∧ Aside0 (Kd.R k78 78 wc w.heap.size (fun k_ => some k_ ≠ ((.slice Ao23 t224.length co23) : Value).ownBlock) (.slice Ao16 t212.length co16) t212) ∧ Aside0 (Kd.R k78 78 wc w.heap.size (fun k_ => some k_ ≠ ((.slice Ao16 t212.length co16) : Value).ownBlock) (.slice Ao23 t224.length co23) t224) ∧ Aside0 (wc.heap[gb216]? = some (.cells #[.string t208, .string t209, .string t210, .string t211, (.slice Ao16 t212.length co16)] 44 (0, 0))) ∧ Aside0 (wc.heap[gb228]? = some (.cells #[.string t220, .string t221, .string t222, .string t223, (.slice Ao23 t224.length co23)] 44 (0, 0))) ∧ Aside0 (Below w.heap.size w wc))
            case first =>
              have H := HC39.out
              clear HC39
              by_cases c44 : t234 < 0
              · rw [if_pos c44] at H
                have c44b0 : decide (t234 < 0) = true := decide_eq_true c44
                clear c44
                (first | rw [c44b0] | (simp only [i64_w, i32_w]; rw [c44b0]) | skip)
                have H' := Aside0.mk H
                clear H
                go_wp2
                go_meet
                case rel => exact ⟨_, (true), (by first | rfl | (simp; done) | (simp [*]; done)), H', ⟨by have := HJ8.out; first | omega | exact Nat.le_refl _⟩, ⟨by (with_reducible repeat (first | apply Kd.R_alloc | apply Kd.R_drewN | apply Kd.R_drew)); exact Kd.R_mono HO_217004.out (fun _ hk => hk.2.1)⟩, ⟨by (with_reducible repeat (first | apply Kd.R_alloc | apply Kd.R_drewN | apply Kd.R_drew)); exact Kd.R_mono HO_229004.out (fun _ hk => hk.2.1)⟩, ⟨by (with_reducible repeat (first | refine blk_drewN ?_ _ | refine blk_drew ?_ | refine blk_alloc ?_ _)); exact BK216.out⟩, ⟨by (with_reducible repeat (first | refine blk_drewN ?_ _ | refine blk_drew ?_ | refine blk_alloc ?_ _)); exact BK228.out⟩, ⟨by repeat (first | (with_reducible first | exact HB.out | apply below_alloc | apply pw_below_drewN | apply below_drew1 | refine below_set ?_ GE216.out | refine below_set ?_ GE228.out) | exact HB.out)⟩⟩
              · rw [if_neg c44] at H
                have c44b0 : decide (t234 < 0) = false := decide_eq_false c44
                clear c44
                (first | rw [c44b0] | (simp only [i64_w, i32_w]; rw [c44b0]) | skip)
                replace H := Option.bind_eq_some_iff.mp H
                obtain ⟨t236, A450, H⟩ := H
                replace H : (if t236 = true then (laws_FnExactRequestOf.j1 kj8 l0 t215 (t227 != t215) t208 t209 t210 t211 t212 t220 t221 t222 t223 t224) else (laws_FnExactRequestOf.j1 kj8 l0 t215 true t208 t209 t210 t211 t212 t220 t221 t222 t223 t224)) = some r := H
                have A45 := Aside0.mk A450
                clear A450
                by_cases c46 : t236 = true
                · subst c46
                  have H1 : (laws_FnExactRequestOf.j1 kj8 l0 t215 (t227 != t215) t208 t209 t210 t211 t212 t220 t221 t222 t223 t224) = some r := by rw [if_pos rfl] at H; exact H
                  clear H
                  have H := H1
                  clear H1
                  have H' := Aside0.mk H
                  clear H
                  have hnb47 := NB228_216.out
                  have hnc47 := NB216_228.out
                  have hcz48_0 : w43.cell? ⟨gb228, 0, none⟩ = some (.string t220) := (blk_cell BK228.out 0).trans rfl
                  have hcz48_1 : w43.cell? ⟨gb228, 1, none⟩ = some (.string t221) := (blk_cell BK228.out 1).trans rfl
                  have hcz48_2 : w43.cell? ⟨gb228, 2, none⟩ = some (.string t222) := (blk_cell BK228.out 2).trans rfl
                  have hcz48_3 : w43.cell? ⟨gb228, 3, none⟩ = some (.string t223) := (blk_cell BK228.out 3).trans rfl
                  have hcz48_4 : w43.cell? ⟨gb228, 4, none⟩ = some (.slice Ao23 t224.length co23) := (blk_cell BK228.out 4).trans rfl
                  have hfz48_0 := blk_frozen BK228.out 0
                  have hfz48_1 := blk_frozen BK228.out 1
                  have hfz48_2 := blk_frozen BK228.out 2
                  have hfz48_3 := blk_frozen BK228.out 3
                  have hfz48_4 := blk_frozen BK228.out 4
                  have hcz49_0 : w43.cell? ⟨gb216, 0, none⟩ = some (.string t208) := (blk_cell BK216.out 0).trans rfl
                  have hcz49_1 : w43.cell? ⟨gb216, 1, none⟩ = some (.string t209) := (blk_cell BK216.out 1).trans rfl
                  have hcz49_2 : w43.cell? ⟨gb216, 2, none⟩ = some (.string t210) := (blk_cell BK216.out 2).trans rfl
                  have hcz49_3 : w43.cell? ⟨gb216, 3, none⟩ = some (.string t211) := (blk_cell BK216.out 3).trans rfl
                  have hcz49_4 : w43.cell? ⟨gb216, 4, none⟩ = some (.slice Ao16 t212.length co16) := (blk_cell BK216.out 4).trans rfl
                  have hfz49_0 := blk_frozen BK216.out 0
                  have hfz49_1 := blk_frozen BK216.out 1
                  have hfz49_2 := blk_frozen BK216.out 2
                  have hfz49_3 := blk_frozen BK216.out 3
                  have hfz49_4 := blk_frozen BK216.out 4
                  go_wp2_with (first | (go_at_call 25; (with_reducible refine (laws_eqRequest.calls kj8 t220 t221 t222 t223 _ _ t224 t208 t209 t210 t211 _ _ t212 true _ ?side1 ?side2 ?side3 ?side4 A45.out).mono ?_); (case side1 => repeat (first | exact (Kd.R_reads' HO_229004.out).2.2 | (with_reducible refine Kd.C_alloc ?_ _) | (with_reducible refine Kd.C_drewN ?_ _) | (with_reducible refine Kd.C_drew ?_))); (case side2 => exact (Kd.R_reads' HO_229004.out).2.1); (case side3 => repeat (first | exact (Kd.R_reads' HO_217004.out).2.2 | (with_reducible refine Kd.C_alloc ?_ _) | (with_reducible refine Kd.C_drewN ?_ _) | (with_reducible refine Kd.C_drew ?_))); (case side4 => exact (Kd.R_reads' HO_217004.out).2.1); rintro e w50 ⟨rfl, hb⟩; have n0_ := Aside0.mk (Kd.R_below (by (with_reducible repeat (first | apply Kd.R_alloc | apply Kd.R_drewN | apply Kd.R_drew)); exact HO_6.out) hb); have n1_ := Aside0.mk (Kd.R_below (by (with_reducible repeat (first | apply Kd.R_alloc | apply Kd.R_drewN | apply Kd.R_drew)); exact HO_217004.out) hb); have n2_ := Aside0.mk (Kd.R_below (by (with_reducible repeat (first | apply Kd.R_alloc | apply Kd.R_drewN | apply Kd.R_drew)); exact HO_229004.out) hb); have n3_ := Aside0.mk (Kd.R_below (by (with_reducible repeat (first | apply Kd.R_alloc | apply Kd.R_drewN | apply Kd.R_drew)); exact HO232.out) hb); have n4_ := Aside0.mk (blk_below (g := gb216) (o := .cells #[.string t208, .string t209, .string t210, .string t211, .slice Ao16 t212.length co16] 44 (0, 0)) (by (with_reducible repeat (first | refine blk_drewN ?_ _ | refine blk_drew ?_ | refine blk_alloc ?_ _)); exact BK216.out) hb); have n5_ := Aside0.mk (blk_below (g := gb228) (o := .cells #[.string t220, .string t221, .string t222, .string t223, .slice Ao23 t224.length co23] 44 (0, 0)) (by (with_reducible repeat (first | refine blk_drewN ?_ _ | refine blk_drew ?_ | refine blk_alloc ?_ _)); exact BK228.out) hb); have n6_ := Aside0.mk (below_step (by repeat (first | (with_reducible first | exact HB.out | apply below_alloc | apply pw_below_drewN | apply below_drew1 | refine below_set ?_ GE216.out | refine below_set ?_ GE228.out) | exact HB.out)) hb); clear HO_6; clear HO_217004; clear HO_229004; clear HO232; clear BK216; clear BK228; clear HB; have HO_6 := n0_; have HO_217004 := n1_; have HO_229004 := n2_; have HO232 := n3_; have BK216 := n4_; have BK228 := n5_; have HB := n6_; clear n0_ n1_ n2_ n3_ n4_ n5_ n6_; (try clear hb); (try clear hb2); (try clear hk); (try clear hi)))
                  go_meet
                  case rel => exact ⟨_, ((t227 != t215)), (by first | rfl | (simp; done) | (simp [*]; done)), H', ⟨by have := HJ8.out; first | omega | exact Nat.le_refl _⟩, ⟨by (with_reducible repeat (first | apply Kd.R_alloc | apply Kd.R_drewN | apply Kd.R_drew)); exact Kd.R_mono HO_217004.out (fun _ hk => hk.2.1)⟩, ⟨by (with_reducible repeat (first | apply Kd.R_alloc | apply Kd.R_drewN | apply Kd.R_drew)); exact Kd.R_mono HO_229004.out (fun _ hk => hk.2.1)⟩, ⟨by (with_reducible repeat (first | refine blk_drewN ?_ _ | refine blk_drew ?_ | refine blk_alloc ?_ _)); exact BK216.out⟩, ⟨by (with_reducible repeat (first | refine blk_drewN ?_ _ | refine blk_drew ?_ | refine blk_alloc ?_ _)); exact BK228.out⟩, ⟨by repeat (first | (with_reducible first | exact HB.out | apply below_alloc | apply pw_below_drewN | apply below_drew1 | refine below_set ?_ GE216.out | refine below_set ?_ GE228.out) | exact HB.out)⟩⟩
                · replace c46 := Bool.eq_false_iff.mpr c46
                  subst c46
                  have H1 : (laws_FnExactRequestOf.j1 kj8 l0 t215 true t208 t209 t210 t211 t212 t220 t221 t222 t223 t224) = some r := by rw [if_neg (show ¬ (false = true) by decide)] at H; exact H
                  clear H
                  have H := H1
                  clear H1
                  have H' := Aside0.mk H
                  clear H
                  have hnb51 := NB228_216.out
                  have hnc51 := NB216_228.out
                  have hcz52_0 : w43.cell? ⟨gb228, 0, none⟩ = some (.string t220) := (blk_cell BK228.out 0).trans rfl
                  have hcz52_1 : w43.cell? ⟨gb228, 1, none⟩ = some (.string t221) := (blk_cell BK228.out 1).trans rfl
                  have hcz52_2 : w43.cell? ⟨gb228, 2, none⟩ = some (.string t222) := (blk_cell BK228.out 2).trans rfl
                  have hcz52_3 : w43.cell? ⟨gb228, 3, none⟩ = some (.string t223) := (blk_cell BK228.out 3).trans rfl
                  have hcz52_4 : w43.cell? ⟨gb228, 4, none⟩ = some (.slice Ao23 t224.length co23) := (blk_cell BK228.out 4).trans rfl
                  have hfz52_0 := blk_frozen BK228.out 0
                  have hfz52_1 := blk_frozen BK228.out 1
                  have hfz52_2 := blk_frozen BK228.out 2
                  have hfz52_3 := blk_frozen BK228.out 3
                  have hfz52_4 := blk_frozen BK228.out 4
                  have hcz53_0 : w43.cell? ⟨gb216, 0, none⟩ = some (.string t208) := (blk_cell BK216.out 0).trans rfl
                  have hcz53_1 : w43.cell? ⟨gb216, 1, none⟩ = some (.string t209) := (blk_cell BK216.out 1).trans rfl
                  have hcz53_2 : w43.cell? ⟨gb216, 2, none⟩ = some (.string t210) := (blk_cell BK216.out 2).trans rfl
                  have hcz53_3 : w43.cell? ⟨gb216, 3, none⟩ = some (.string t211) := (blk_cell BK216.out 3).trans rfl
                  have hcz53_4 : w43.cell? ⟨gb216, 4, none⟩ = some (.slice Ao16 t212.length co16) := (blk_cell BK216.out 4).trans rfl
                  have hfz53_0 := blk_frozen BK216.out 0
                  have hfz53_1 := blk_frozen BK216.out 1
                  have hfz53_2 := blk_frozen BK216.out 2
                  have hfz53_3 := blk_frozen BK216.out 3
                  have hfz53_4 := blk_frozen BK216.out 4
                  go_wp2_with (first | (go_at_call 25; (with_reducible refine (laws_eqRequest.calls kj8 t220 t221 t222 t223 _ _ t224 t208 t209 t210 t211 _ _ t212 false _ ?side1 ?side2 ?side3 ?side4 A45.out).mono ?_); (case side1 => repeat (first | exact (Kd.R_reads' HO_229004.out).2.2 | (with_reducible refine Kd.C_alloc ?_ _) | (with_reducible refine Kd.C_drewN ?_ _) | (with_reducible refine Kd.C_drew ?_))); (case side2 => exact (Kd.R_reads' HO_229004.out).2.1); (case side3 => repeat (first | exact (Kd.R_reads' HO_217004.out).2.2 | (with_reducible refine Kd.C_alloc ?_ _) | (with_reducible refine Kd.C_drewN ?_ _) | (with_reducible refine Kd.C_drew ?_))); (case side4 => exact (Kd.R_reads' HO_217004.out).2.1); rintro e w54 ⟨rfl, hb⟩; have n0_ := Aside0.mk (Kd.R_below (by (with_reducible repeat (first | apply Kd.R_alloc | apply Kd.R_drewN | apply Kd.R_drew)); exact HO_6.out) hb); have n1_ := Aside0.mk (Kd.R_below (by (with_reducible repeat (first | apply Kd.R_alloc | apply Kd.R_drewN | apply Kd.R_drew)); exact HO_217004.out) hb); have n2_ := Aside0.mk (Kd.R_below (by (with_reducible repeat (first | apply Kd.R_alloc | apply Kd.R_drewN | apply Kd.R_drew)); exact HO_229004.out) hb); have n3_ := Aside0.mk (Kd.R_below (by (with_reducible repeat (first | apply Kd.R_alloc | apply Kd.R_drewN | apply Kd.R_drew)); exact HO232.out) hb); have n4_ := Aside0.mk (blk_below (g := gb216) (o := .cells #[.string t208, .string t209, .string t210, .string t211, .slice Ao16 t212.length co16] 44 (0, 0)) (by (with_reducible repeat (first | refine blk_drewN ?_ _ | refine blk_drew ?_ | refine blk_alloc ?_ _)); exact BK216.out) hb); have n5_ := Aside0.mk (blk_below (g := gb228) (o := .cells #[.string t220, .string t221, .string t222, .string t223, .slice Ao23 t224.length co23] 44 (0, 0)) (by (with_reducible repeat (first | refine blk_drewN ?_ _ | refine blk_drew ?_ | refine blk_alloc ?_ _)); exact BK228.out) hb); have n6_ := Aside0.mk (below_step (by repeat (first | (with_reducible first | exact HB.out | apply below_alloc | apply pw_below_drewN | apply below_drew1 | refine below_set ?_ GE216.out | refine below_set ?_ GE228.out) | exact HB.out)) hb); clear HO_6; clear HO_217004; clear HO_229004; clear HO232; clear BK216; clear BK228; clear HB; have HO_6 := n0_; have HO_217004 := n1_; have HO_229004 := n2_; have HO232 := n3_; have BK216 := n4_; have BK228 := n5_; have HB := n6_; clear n0_ n1_ n2_ n3_ n4_ n5_ n6_; (try clear hb); (try clear hb2); (try clear hk); (try clear hi)))
                  go_meet
                  case rel => exact ⟨_, (true), (by first | rfl | (simp; done) | (simp [*]; done)), H', ⟨by have := HJ8.out; first | omega | exact Nat.le_refl _⟩, ⟨by (with_reducible repeat (first | apply Kd.R_alloc | apply Kd.R_drewN | apply Kd.R_drew)); exact Kd.R_mono HO_217004.out (fun _ hk => hk.2.1)⟩, ⟨by (with_reducible repeat (first | apply Kd.R_alloc | apply Kd.R_drewN | apply Kd.R_drew)); exact Kd.R_mono HO_229004.out (fun _ hk => hk.2.1)⟩, ⟨by (with_reducible repeat (first | refine blk_drewN ?_ _ | refine blk_drew ?_ | refine blk_alloc ?_ _)); exact BK216.out⟩, ⟨by (with_reducible repeat (first | refine blk_drewN ?_ _ | refine blk_drew ?_ | refine blk_alloc ?_ _)); exact BK228.out⟩, ⟨by repeat (first | (with_reducible first | exact HB.out | apply below_alloc | apply pw_below_drewN | apply below_drew1 | refine below_set ?_ GE216.out | refine below_set ?_ GE228.out) | exact HB.out)⟩⟩
            case rest =>
              clear HC39
              try clear c1
              try clear c2
              try clear p2
              try clear c3
              try clear c3b0
              try clear c4
              try clear c5
              try clear c8
              try clear c16
              try clear c18
              try clear c20
              try clear c21
              try clear c25
              try clear c26
              try clear c27
              try clear c29
              try clear c30
              try clear c34
              try clear c37
              try clear c44
              try clear c44b0
              try clear c46
              try clear c47
              try clear c51
              try clear hcz15_0
              try clear hcz15_1
              try clear hcz15_2
              try clear hcz15_3
              try clear hcz15_4
              try clear hcz22_0
              try clear hcz22_1
              try clear hcz22_2
              try clear hcz22_3
              try clear hcz22_4
              try clear hcz27_0
              try clear hcz27_1
              try clear hcz27_2
              try clear hcz27_3
              try clear hcz27_4
              try clear hcz28_0
              try clear hcz28_1
              try clear hcz28_2
              try clear hcz28_3
              try clear hcz28_4
              try clear hcz31_0
              try clear hcz31_1
              try clear hcz31_2
              try clear hcz31_3
              try clear hcz31_4
              try clear hcz32_0
              try clear hcz32_1
              try clear hcz32_2
              try clear hcz32_3
              try clear hcz32_4
              try clear hcz48_0
              try clear hcz48_1
              try clear hcz48_2
              try clear hcz48_3
              try clear hcz48_4
              try clear hcz49_0
              try clear hcz49_1
              try clear hcz49_2
              try clear hcz49_3
              try clear hcz49_4
              try clear hcz52_0
              try clear hcz52_1
              try clear hcz52_2
              try clear hcz52_3
              try clear hcz52_4
              try clear hcz53_0
              try clear hcz53_1
              try clear hcz53_2
              try clear hcz53_3
              try clear hcz53_4
              try clear hfz15_0
              try clear hfz15_1
              try clear hfz15_2
              try clear hfz15_3
              try clear hfz15_4
              try clear hfz22_0
              try clear hfz22_1
              try clear hfz22_2
              try clear hfz22_3
              try clear hfz22_4
              try clear hfz27_0
              try clear hfz27_1
              try clear hfz27_2
              try clear hfz27_3
              try clear hfz27_4
              try clear hfz28_0
              try clear hfz28_1
              try clear hfz28_2
              try clear hfz28_3
              try clear hfz28_4
              try clear hfz31_0
              try clear hfz31_1
              try clear hfz31_2
              try clear hfz31_3
              try clear hfz31_4
              try clear hfz32_0
              try clear hfz32_1
              try clear hfz32_2
              try clear hfz32_3
              try clear hfz32_4
              try clear hfz48_0
              try clear hfz48_1
              try clear hfz48_2
              try clear hfz48_3
              try clear hfz48_4
              try clear hfz49_0
              try clear hfz49_1
              try clear hfz49_2
              try clear hfz49_3
              try clear hfz49_4
              try clear hfz52_0
              try clear hfz52_1
              try clear hfz52_2
              try clear hfz52_3
              try clear hfz52_4
              try clear hfz53_0
              try clear hfz53_1
              try clear hfz53_2
              try clear hfz53_3
              try clear hfz53_4
              try clear p2
              obtain ⟨kq, x61_38, rfl, HA, HJ38, HO_217004, HO_229004, BK216, BK228, HB⟩ := hcut
              cases kq with
              | zero => exact absurd HA.out (by simp [laws_FnExactRequestOf.j1])
              | succ kj38 =>
                have H := HA.out
                clear HA
                simp only [laws_FnExactRequestOf.j1] at H
                by_cases c55 : x61_38 = true
                · subst c55
                  have H1 : (some false) = some r := by rw [if_pos rfl] at H; exact H
                  clear H
                  have H := H1
                  clear H1
                  obtain rfl := Option.some.inj H
                  go_wp2
                  go_ret
                  exact ⟨by first | rfl | (simp [errW_none, errW_some] <;> rfl) | (simp [*, errW_none, errW_some] <;> rfl), by repeat (first | (with_reducible first | exact HB.out | apply below_alloc | apply pw_below_drewN | apply below_drew1 | refine below_set ?_ GE216.out | refine below_set ?_ GE228.out) | exact HB.out)⟩
                · replace c55 := Bool.eq_false_iff.mpr c55
                  subst c55
                  have H1 : ((laws_markRequest.f kj38 t220 t221 t222 t223 t224 1).bind fun bt237 => ((laws_heldRequest.f kj38 t220 t221 t222 t223 bt237.2 1).bind fun t239 => (if t239 < 0 then (some false) else (if t239 = bt237.1 then ((laws_toFieldS.f kj38 l0).bind fun t240 => ((impl_RequestOf.f kj38 t240).bind fun bt243 => ((laws_eqRequest.f kj38 bt243.1 bt243.2.1 bt243.2.2.1 bt243.2.2.2.1 bt243.2.2.2.2.1 t208 t209 t210 t211 t212).bind fun t252 => (if t252 = true then (laws_FnExactRequestOf.j2 kj38 bt237.1 (bt243.2.2.2.2.2 != t215) t220 t221 t222 t223 bt237.2) else (laws_FnExactRequestOf.j2 kj38 bt237.1 true t220 t221 t222 t223 bt237.2))))) else (some false))))) = some r := by rw [if_neg (show ¬ (false = true) by decide)] at H; exact H
                  clear H
                  have H := H1
                  clear H1
                  replace H := Option.bind_eq_some_iff.mp H
                  obtain ⟨⟨t237, t238⟩, A560, H⟩ := H
                  replace H : ((laws_heldRequest.f kj38 t220 t221 t222 t223 t238 1).bind fun t239 => (if t239 < 0 then (some false) else (if t239 = t237 then ((laws_toFieldS.f kj38 l0).bind fun t240 => ((impl_RequestOf.f kj38 t240).bind fun bt243 => ((laws_eqRequest.f kj38 bt243.1 bt243.2.1 bt243.2.2.1 bt243.2.2.2.1 bt243.2.2.2.2.1 t208 t209 t210 t211 t212).bind fun t252 => (if t252 = true then (laws_FnExactRequestOf.j2 kj38 t237 (bt243.2.2.2.2.2 != t215) t220 t221 t222 t223 t238) else (laws_FnExactRequestOf.j2 kj38 t237 true t220 t221 t222 t223 t238))))) else (some false)))) = some r := H
                  have A56 := Aside0.mk A560
                  clear A560
                  replace H := Option.bind_eq_some_iff.mp H
                  obtain ⟨t239, A570, H⟩ := H
                  replace H : (if t239 < 0 then (some false) else (if t239 = t237 then ((laws_toFieldS.f kj38 l0).bind fun t240 => ((impl_RequestOf.f kj38 t240).bind fun bt243 => ((laws_eqRequest.f kj38 bt243.1 bt243.2.1 bt243.2.2.1 bt243.2.2.2.1 bt243.2.2.2.2.1 t208 t209 t210 t211 t212).bind fun t252 => (if t252 = true then (laws_FnExactRequestOf.j2 kj38 t237 (bt243.2.2.2.2.2 != t215) t220 t221 t222 t223 t238) else (laws_FnExactRequestOf.j2 kj38 t237 true t220 t221 t222 t223 t238))))) else (some false))) = some r := H
                  have A57 := Aside0.mk A570
                  clear A570
                  by_cases c58 : t239 < 0
                  · rw [if_pos c58] at H
                    have c58b0 : decide (t239 < 0) = true := decide_eq_true c58
                    clear c58
                    obtain rfl := Option.some.inj H
                    have hnb59 := NB228_216.out
                    have hnc59 := NB216_228.out
                    have hcz60_0 : wc.cell? ⟨gb228, 0, none⟩ = some (.string t220) := (blk_cell BK228.out 0).trans rfl
                    have hcz60_1 : wc.cell? ⟨gb228, 1, none⟩ = some (.string t221) := (blk_cell BK228.out 1).trans rfl
                    have hcz60_2 : wc.cell? ⟨gb228, 2, none⟩ = some (.string t222) := (blk_cell BK228.out 2).trans rfl
                    have hcz60_3 : wc.cell? ⟨gb228, 3, none⟩ = some (.string t223) := (blk_cell BK228.out 3).trans rfl
                    have hcz60_4 : wc.cell? ⟨gb228, 4, none⟩ = some (.slice Ao23 t224.length co23) := (blk_cell BK228.out 4).trans rfl
                    have hfz60_0 := blk_frozen BK228.out 0
                    have hfz60_1 := blk_frozen BK228.out 1
                    have hfz60_2 := blk_frozen BK228.out 2
                    have hfz60_3 := blk_frozen BK228.out 3
                    have hfz60_4 := blk_frozen BK228.out 4
                    go_wp2_with (first | ((with_reducible refine gate_callee (f := 26) rfl ?_); refine goesL_ (some 64) rfl rfl Tryd.func26 (by kernel_rfl) rfl #[.agg #[.string t220, .string t221, .string t222, .string t223, .slice Ao23 t224.length co23], .int .i64 1] rfl (by (try simp only [List.map_toArray, List.map_cons, List.map_nil]); first | done | rfl | (simp only [List.length_drop, List.length_take]; rfl)) ?_; (with_reducible refine (laws_markRequest.calls kj38 t220 t221 t222 t223 (fun k_ => some k_ = (.slice Ao23 t224.length co23 : Value).ownBlock) (.slice Ao23 t224.length co23) t224 1 t237 t238 w _ ?side1 ?side2 A56.out).mono ?_); (case side1 => repeat (first | (with_reducible first | exact HB.out | apply below_alloc | apply pw_below_drewN | apply below_drew1 | refine below_set ?_ GE216.out | refine below_set ?_ GE228.out) | exact HB.out)); (case side2 => exact Kd.R_tight rfl HO_229004.out); rintro e w61 ⟨rfl, hy0, hb, hkp⟩; refine ⟨_, rfl, ?_⟩; have n0_ := Aside0.mk (Kd.R_mono (ok' := fun k_ => some k_ ≠ (.slice Ao23 t224.length co23 : Value).ownBlock) (Kd.R_keptB (HO_217004.out) hkp (fun k_ hk_ hs_ => (hk_) hs_)) (fun k_ hk_ => hk_.1)); have n1_ := Aside0.mk (Kd.R_reok rfl hy0 (fun k_ e_ => HO_229004.out.1 k_ e_)); have n2_ := Aside0.mk (blk_kept (by (with_reducible repeat (first | refine blk_drewN ?_ _ | refine blk_drew ?_ | refine blk_alloc ?_ _)); exact BK216.out) hkp (fun hs_ => (fun e_ => (Kd.R_ne HO_229004.out BK216.out (by decide)) e_) hs_)); have n3_ := Aside0.mk (blk_kept (by (with_reducible repeat (first | refine blk_drewN ?_ _ | refine blk_drew ?_ | refine blk_alloc ?_ _)); exact BK228.out) hkp (fun hs_ => (fun e_ => (Kd.R_ne HO_229004.out BK228.out (by decide)) e_) hs_)); have n4_ := Aside0.mk (hb); clear HO_217004; clear HO_229004; clear BK216; clear BK228; clear HB; have HO_217004 := n0_; have HO_229004 := n1_; have BK216 := n2_; have BK228 := n3_; have HB := n4_; clear n0_ n1_ n2_ n3_ n4_; (try clear hb); (try clear hkp); (try clear hy0); have hcz62_0 : w61.cell? ⟨gb228, 0, none⟩ = some (.string t220) := (blk_cell BK228.out 0).trans rfl; have hcz62_1 : w61.cell? ⟨gb228, 1, none⟩ = some (.string t221) := (blk_cell BK228.out 1).trans rfl; have hcz62_2 : w61.cell? ⟨gb228, 2, none⟩ = some (.string t222) := (blk_cell BK228.out 2).trans rfl; have hcz62_3 : w61.cell? ⟨gb228, 3, none⟩ = some (.string t223) := (blk_cell BK228.out 3).trans rfl; have hcz62_4 : w61.cell? ⟨gb228, 4, none⟩ = some (.slice Ao23 t224.length co23) := (blk_cell BK228.out 4).trans rfl; have hfz62_0 := blk_frozen BK228.out 0; have hfz62_1 := blk_frozen BK228.out 1; have hfz62_2 := blk_frozen BK228.out 2; have hfz62_3 := blk_frozen BK228.out 3; have hfz62_4 := blk_frozen BK228.out 4) | ((with_reducible refine gate_callee (f := 31) rfl ?_); refine goesL_ (some 67) rfl rfl Tryd.func31 (by kernel_rfl) rfl #[.agg #[.string t220, .string t221, .string t222, .string t223, .slice Ao23 t238.length co23], .int .i64 1] rfl (by (try simp only [List.map_toArray, List.map_cons, List.map_nil]); first | done | (rw [show t238.length = t224.length from (Kd.R_reads' HO_229004.out).1.symm] <;> rfl) | rfl | (simp only [List.length_drop, List.length_take]; rfl)) ?_; (with_reducible refine (laws_heldRequest.calls kj38 t220 t221 t222 t223 _ _ t238 1 t239 _ ?side1 ?side2 A57.out).mono ?_); (case side1 => repeat (first | exact (Kd.R_reads' HO_229004.out).2.2 | (with_reducible refine Kd.C_alloc ?_ _) | (with_reducible refine Kd.C_drewN ?_ _) | (with_reducible refine Kd.C_drew ?_))); (case side2 => rw [show t238.length = t224.length from (Kd.R_reads' HO_229004.out).1.symm]; exact (Kd.R_reads' HO_229004.out).2.1); rintro e w63 ⟨rfl, hb⟩; refine ⟨_, rfl, ?_⟩; have n0_ := Aside0.mk (Kd.R_below (by (with_reducible repeat (first | apply Kd.R_alloc | apply Kd.R_drewN | apply Kd.R_drew)); exact HO_217004.out) hb); have n1_ := Aside0.mk (Kd.R_below (by (with_reducible repeat (first | apply Kd.R_alloc | apply Kd.R_drewN | apply Kd.R_drew)); exact HO_229004.out) hb); have n2_ := Aside0.mk (blk_below (g := gb216) (o := .cells #[.string t208, .string t209, .string t210, .string t211, .slice Ao16 t212.length co16] 44 (0, 0)) (by (with_reducible repeat (first | refine blk_drewN ?_ _ | refine blk_drew ?_ | refine blk_alloc ?_ _)); exact BK216.out) hb); have n3_ := Aside0.mk (blk_below (g := gb228) (o := .cells #[.string t220, .string t221, .string t222, .string t223, .slice Ao23 t224.length co23] 44 (0, 0)) (by (with_reducible repeat (first | refine blk_drewN ?_ _ | refine blk_drew ?_ | refine blk_alloc ?_ _)); exact BK228.out) hb); have n4_ := Aside0.mk (below_step (by repeat (first | (with_reducible first | exact HB.out | apply below_alloc | apply pw_below_drewN | apply below_drew1 | refine below_set ?_ GE216.out | refine below_set ?_ GE228.out) | exact HB.out)) hb); clear HO_217004; clear HO_229004; clear BK216; clear BK228; clear HB; have HO_217004 := n0_; have HO_229004 := n1_; have BK216 := n2_; have BK228 := n3_; have HB := n4_; clear n0_ n1_ n2_ n3_ n4_; (try clear hb); (try clear hb2); (try clear hk); (try clear hi)))
                    go_ret
                    exact ⟨by first | rfl | (simp [errW_none, errW_some] <;> rfl) | (simp [*, errW_none, errW_some] <;> rfl), by repeat (first | (with_reducible first | exact HB.out | apply below_alloc | apply pw_below_drewN | apply below_drew1 | refine below_set ?_ GE216.out | refine below_set ?_ GE228.out) | exact HB.out)⟩
                  · rw [if_neg c58] at H
                    have c58b0 : decide (t239 < 0) = false := decide_eq_false c58
                    clear c58
                    by_cases c64 : t239 = t237
                    · rw [if_pos c64] at H
                      have c64b0 : (t239 == t237) = true := beq_iff_eq.mpr c64
                      have c64b1 : (t239 != t237) = false := bne_eq_false_iff_eq.mpr c64
                      clear c64
                      replace H := Option.bind_eq_some_iff.mp H
                      obtain ⟨t240, A650, H⟩ := H
                      replace H : ((impl_RequestOf.f kj38 t240).bind fun bt243 => ((laws_eqRequest.f kj38 bt243.1 bt243.2.1 bt243.2.2.1 bt243.2.2.2.1 bt243.2.2.2.2.1 t208 t209 t210 t211 t212).bind fun t252 => (if t252 = true then (laws_FnExactRequestOf.j2 kj38 t237 (bt243.2.2.2.2.2 != t215) t220 t221 t222 t223 t238) else (laws_FnExactRequestOf.j2 kj38 t237 true t220 t221 t222 t223 t238)))) = some r := H
                      have A65 := Aside0.mk A650
                      clear A650
                      replace H := Option.bind_eq_some_iff.mp H
                      obtain ⟨⟨t243, t244, t245, t246, t247, t250⟩, A660, H⟩ := H
                      replace H : ((laws_eqRequest.f kj38 t243 t244 t245 t246 t247 t208 t209 t210 t211 t212).bind fun t252 => (if t252 = true then (laws_FnExactRequestOf.j2 kj38 t237 (t250 != t215) t220 t221 t222 t223 t238) else (laws_FnExactRequestOf.j2 kj38 t237 true t220 t221 t222 t223 t238))) = some r := H
                      have A66 := Aside0.mk A660
                      clear A660
                      have HC67 := Aside0.mk H
                      clear H
                      have hnb68 := NB228_216.out
                      have hnc68 := NB216_228.out
                      have hcz69_0 : wc.cell? ⟨gb228, 0, none⟩ = some (.string t220) := (blk_cell BK228.out 0).trans rfl
                      have hcz69_1 : wc.cell? ⟨gb228, 1, none⟩ = some (.string t221) := (blk_cell BK228.out 1).trans rfl
                      have hcz69_2 : wc.cell? ⟨gb228, 2, none⟩ = some (.string t222) := (blk_cell BK228.out 2).trans rfl
                      have hcz69_3 : wc.cell? ⟨gb228, 3, none⟩ = some (.string t223) := (blk_cell BK228.out 3).trans rfl
                      have hcz69_4 : wc.cell? ⟨gb228, 4, none⟩ = some (.slice Ao23 t224.length co23) := (blk_cell BK228.out 4).trans rfl
                      have hfz69_0 := blk_frozen BK228.out 0
                      have hfz69_1 := blk_frozen BK228.out 1
                      have hfz69_2 := blk_frozen BK228.out 2
                      have hfz69_3 := blk_frozen BK228.out 3
                      have hfz69_4 := blk_frozen BK228.out 4
                      go_upto_region 25 with (first | ((with_reducible refine gate_callee (f := 26) rfl ?_); refine goesL_ (some 64) rfl rfl Tryd.func26 (by kernel_rfl) rfl #[.agg #[.string t220, .string t221, .string t222, .string t223, .slice Ao23 t224.length co23], .int .i64 1] rfl (by (try simp only [List.map_toArray, List.map_cons, List.map_nil]); first | done | rfl | (simp only [List.length_drop, List.length_take]; rfl)) ?_; (with_reducible refine (laws_markRequest.calls kj38 t220 t221 t222 t223 (fun k_ => some k_ = (.slice Ao23 t224.length co23 : Value).ownBlock) (.slice Ao23 t224.length co23) t224 1 t237 t238 w _ ?side1 ?side2 A56.out).mono ?_); (case side1 => repeat (first | (with_reducible first | exact HB.out | apply below_alloc | apply pw_below_drewN | apply below_drew1 | refine below_set ?_ GE216.out | refine below_set ?_ GE228.out) | exact HB.out)); (case side2 => exact Kd.R_tight rfl HO_229004.out); rintro e w70 ⟨rfl, hy0, hb, hkp⟩; refine ⟨_, rfl, ?_⟩; have n0_ := Aside0.mk (Kd.R_mono (ok' := fun k_ => some k_ ≠ (.slice Ao23 t224.length co23 : Value).ownBlock) (Kd.R_keptB (HO_217004.out) hkp (fun k_ hk_ hs_ => (hk_) hs_)) (fun k_ hk_ => hk_.1)); have n1_ := Aside0.mk (Kd.R_reok rfl hy0 (fun k_ e_ => HO_229004.out.1 k_ e_)); have n2_ := Aside0.mk (blk_kept (by (with_reducible repeat (first | refine blk_drewN ?_ _ | refine blk_drew ?_ | refine blk_alloc ?_ _)); exact BK216.out) hkp (fun hs_ => (fun e_ => (Kd.R_ne HO_229004.out BK216.out (by decide)) e_) hs_)); have n3_ := Aside0.mk (blk_kept (by (with_reducible repeat (first | refine blk_drewN ?_ _ | refine blk_drew ?_ | refine blk_alloc ?_ _)); exact BK228.out) hkp (fun hs_ => (fun e_ => (Kd.R_ne HO_229004.out BK228.out (by decide)) e_) hs_)); have n4_ := Aside0.mk (hb); clear HO_217004; clear HO_229004; clear BK216; clear BK228; clear HB; have HO_217004 := n0_; have HO_229004 := n1_; have BK216 := n2_; have BK228 := n3_; have HB := n4_; clear n0_ n1_ n2_ n3_ n4_; (try clear hb); (try clear hkp); (try clear hy0); have hcz71_0 : w70.cell? ⟨gb228, 0, none⟩ = some (.string t220) := (blk_cell BK228.out 0).trans rfl; have hcz71_1 : w70.cell? ⟨gb228, 1, none⟩ = some (.string t221) := (blk_cell BK228.out 1).trans rfl; have hcz71_2 : w70.cell? ⟨gb228, 2, none⟩ = some (.string t222) := (blk_cell BK228.out 2).trans rfl; have hcz71_3 : w70.cell? ⟨gb228, 3, none⟩ = some (.string t223) := (blk_cell BK228.out 3).trans rfl; have hcz71_4 : w70.cell? ⟨gb228, 4, none⟩ = some (.slice Ao23 t224.length co23) := (blk_cell BK228.out 4).trans rfl; have hfz71_0 := blk_frozen BK228.out 0; have hfz71_1 := blk_frozen BK228.out 1; have hfz71_2 := blk_frozen BK228.out 2; have hfz71_3 := blk_frozen BK228.out 3; have hfz71_4 := blk_frozen BK228.out 4) | ((with_reducible refine gate_callee (f := 31) rfl ?_); refine goesL_ (some 67) rfl rfl Tryd.func31 (by kernel_rfl) rfl #[.agg #[.string t220, .string t221, .string t222, .string t223, .slice Ao23 t238.length co23], .int .i64 1] rfl (by (try simp only [List.map_toArray, List.map_cons, List.map_nil]); first | done | (rw [show t238.length = t224.length from (Kd.R_reads' HO_229004.out).1.symm] <;> rfl) | rfl | (simp only [List.length_drop, List.length_take]; rfl)) ?_; (with_reducible refine (laws_heldRequest.calls kj38 t220 t221 t222 t223 _ _ t238 1 t239 _ ?side1 ?side2 A57.out).mono ?_); (case side1 => repeat (first | exact (Kd.R_reads' HO_229004.out).2.2 | (with_reducible refine Kd.C_alloc ?_ _) | (with_reducible refine Kd.C_drewN ?_ _) | (with_reducible refine Kd.C_drew ?_))); (case side2 => rw [show t238.length = t224.length from (Kd.R_reads' HO_229004.out).1.symm]; exact (Kd.R_reads' HO_229004.out).2.1); rintro e w72 ⟨rfl, hb⟩; refine ⟨_, rfl, ?_⟩; have n0_ := Aside0.mk (Kd.R_below (by (with_reducible repeat (first | apply Kd.R_alloc | apply Kd.R_drewN | apply Kd.R_drew)); exact HO_217004.out) hb); have n1_ := Aside0.mk (Kd.R_below (by (with_reducible repeat (first | apply Kd.R_alloc | apply Kd.R_drewN | apply Kd.R_drew)); exact HO_229004.out) hb); have n2_ := Aside0.mk (blk_below (g := gb216) (o := .cells #[.string t208, .string t209, .string t210, .string t211, .slice Ao16 t212.length co16] 44 (0, 0)) (by (with_reducible repeat (first | refine blk_drewN ?_ _ | refine blk_drew ?_ | refine blk_alloc ?_ _)); exact BK216.out) hb); have n3_ := Aside0.mk (blk_below (g := gb228) (o := .cells #[.string t220, .string t221, .string t222, .string t223, .slice Ao23 t224.length co23] 44 (0, 0)) (by (with_reducible repeat (first | refine blk_drewN ?_ _ | refine blk_drew ?_ | refine blk_alloc ?_ _)); exact BK228.out) hb); have n4_ := Aside0.mk (below_step (by repeat (first | (with_reducible first | exact HB.out | apply below_alloc | apply pw_below_drewN | apply below_drew1 | refine below_set ?_ GE216.out | refine below_set ?_ GE228.out) | exact HB.out)) hb); clear HO_217004; clear HO_229004; clear BK216; clear BK228; clear HB; have HO_217004 := n0_; have HO_229004 := n1_; have BK216 := n2_; have BK228 := n3_; have HB := n4_; clear n0_ n1_ n2_ n3_ n4_; (try clear hb); (try clear hb2); (try clear hk); (try clear hi)) | ((with_reducible refine gate_callee (f := 18) rfl ?_); refine goesL_ (some 75) rfl rfl Tryd.func18 (by kernel_rfl) rfl #[.slice A0 l0.length c0] rfl (by (try simp only [List.map_toArray, List.map_cons, List.map_nil]); first | done | rfl | (simp only [List.length_drop, List.length_take]; rfl)) ?_; (with_reducible refine (laws_toFieldS.calls kj38 _ _ l0 t240 _ ?side1 ?side2 A65.out).mono ?_); (case side1 => repeat (first | exact (Kd.C_below HR0.out HB.out) | (with_reducible refine Kd.C_alloc ?_ _) | (with_reducible refine Kd.C_drewN ?_ _) | (with_reducible refine Kd.C_drew ?_))); (case side2 => exact HC0.out); rintro e w73 ⟨v241, rfl, ho0, hb⟩; refine ⟨_, rfl, ?_⟩; have n0_ := Aside0.mk (Kd.R_elder' (by (with_reducible repeat (first | apply Kd.R_alloc | apply Kd.R_drewN | apply Kd.R_drew)); exact HO_217004.out) (Kd.R_base ho0) hb); have n1_ := Aside0.mk (Kd.R_elder' (by (with_reducible repeat (first | apply Kd.R_alloc | apply Kd.R_drewN | apply Kd.R_drew)); exact HO_229004.out) (Kd.R_base ho0) hb); have n2_ := Aside0.mk (Kd.R_lower (Kd.R_new' (Kd.R_new' ho0 (Kd.R_lt (by (with_reducible repeat (first | apply Kd.R_alloc | apply Kd.R_drewN | apply Kd.R_drew)); exact HO_217004.out))) (Kd.R_lt (by (with_reducible repeat (first | apply Kd.R_alloc | apply Kd.R_drewN | apply Kd.R_drew)); exact HO_229004.out))) (below_size (by repeat (first | (with_reducible first | exact HB.out | apply below_alloc | apply pw_below_drewN | apply below_drew1 | refine below_set ?_ GE216.out | refine below_set ?_ GE228.out) | exact HB.out)))); have n3_ := Aside0.mk (blk_below (g := gb216) (o := .cells #[.string t208, .string t209, .string t210, .string t211, .slice Ao16 t212.length co16] 44 (0, 0)) (by (with_reducible repeat (first | refine blk_drewN ?_ _ | refine blk_drew ?_ | refine blk_alloc ?_ _)); exact BK216.out) hb); have n4_ := Aside0.mk (blk_below (g := gb228) (o := .cells #[.string t220, .string t221, .string t222, .string t223, .slice Ao23 t224.length co23] 44 (0, 0)) (by (with_reducible repeat (first | refine blk_drewN ?_ _ | refine blk_drew ?_ | refine blk_alloc ?_ _)); exact BK228.out) hb); have n5_ := Aside0.mk (below_step (by repeat (first | (with_reducible first | exact HB.out | apply below_alloc | apply pw_below_drewN | apply below_drew1 | refine below_set ?_ GE216.out | refine below_set ?_ GE228.out) | exact HB.out)) hb); clear HO_217004; clear HO_229004; clear BK216; clear BK228; clear HB; have HO_217004 := n0_; have HO_229004 := n1_; have HO242 := n2_; have BK216 := n3_; have BK228 := n4_; have HB := n5_; clear n0_ n1_ n2_ n3_ n4_ n5_; (try clear hb); (try clear hb2); (try clear hk); (try clear hi); (try clear ho0); obtain ⟨Ao74, co74, eo74⟩ := Kd.R_slice HO242.out; subst eo74) | ((with_reducible refine gate_callee (f := 30) rfl ?_); refine goesL_ (some 76) rfl rfl Tryd.func30 (by kernel_rfl) rfl #[.slice Ao74 t240.length co74] rfl (by (try simp only [List.map_toArray, List.map_cons, List.map_nil]); first | done | rfl | (simp only [List.length_drop, List.length_take]; rfl)) ?_; (with_reducible refine (impl_RequestOf.calls kj38 _ _ t240 t243 t244 t245 t246 t247 t250 _ ?side1 ?side2 A66.out).mono ?_); (case side1 => repeat (first | exact (Kd.R_reads' HO242.out).2.2 | (with_reducible refine Kd.C_alloc ?_ _) | (with_reducible refine Kd.C_drewN ?_ _) | (with_reducible refine Kd.C_drew ?_))); (case side2 => exact (Kd.R_reads' HO242.out).2.1); rintro e w75 ⟨v248, rfl, ho0, hb⟩; refine ⟨_, rfl, ?_⟩; have n0_ := Aside0.mk (Kd.R_elder' (by (with_reducible repeat (first | apply Kd.R_alloc | apply Kd.R_drewN | apply Kd.R_drew)); exact HO_217004.out) (Kd.R_base ho0) hb); have n1_ := Aside0.mk (Kd.R_elder' (by (with_reducible repeat (first | apply Kd.R_alloc | apply Kd.R_drewN | apply Kd.R_drew)); exact HO_229004.out) (Kd.R_base ho0) hb); have n2_ := Aside0.mk (Kd.R_elder' (by (with_reducible repeat (first | apply Kd.R_alloc | apply Kd.R_drewN | apply Kd.R_drew)); exact HO242.out) (Kd.R_base ho0) hb); have n3_ := Aside0.mk (Kd.R_lower (Kd.R_new' (Kd.R_new' (Kd.R_new' ho0 (Kd.R_lt (by (with_reducible repeat (first | apply Kd.R_alloc | apply Kd.R_drewN | apply Kd.R_drew)); exact HO_217004.out))) (Kd.R_lt (by (with_reducible repeat (first | apply Kd.R_alloc | apply Kd.R_drewN | apply Kd.R_drew)); exact HO_229004.out))) (Kd.R_lt (by (with_reducible repeat (first | apply Kd.R_alloc | apply Kd.R_drewN | apply Kd.R_drew)); exact HO242.out))) (below_size (by repeat (first | (with_reducible first | exact HB.out | apply below_alloc | apply pw_below_drewN | apply below_drew1 | refine below_set ?_ GE216.out | refine below_set ?_ GE228.out) | exact HB.out)))); have n4_ := Aside0.mk (blk_below (g := gb216) (o := .cells #[.string t208, .string t209, .string t210, .string t211, .slice Ao16 t212.length co16] 44 (0, 0)) (by (with_reducible repeat (first | refine blk_drewN ?_ _ | refine blk_drew ?_ | refine blk_alloc ?_ _)); exact BK216.out) hb); have n5_ := Aside0.mk (blk_below (g := gb228) (o := .cells #[.string t220, .string t221, .string t222, .string t223, .slice Ao23 t224.length co23] 44 (0, 0)) (by (with_reducible repeat (first | refine blk_drewN ?_ _ | refine blk_drew ?_ | refine blk_alloc ?_ _)); exact BK228.out) hb); have n6_ := Aside0.mk (below_step (by repeat (first | (with_reducible first | exact HB.out | apply below_alloc | apply pw_below_drewN | apply below_drew1 | refine below_set ?_ GE216.out | refine below_set ?_ GE228.out) | exact HB.out)) hb); clear HO_217004; clear HO_229004; clear HO242; clear BK216; clear BK228; clear HB; have HO_217004 := n0_; have HO_229004 := n1_; have HO242 := n2_; have HO249 := n3_; have BK216 := n4_; have BK228 := n5_; have HB := n6_; clear n0_ n1_ n2_ n3_ n4_ n5_ n6_; (try clear hb); (try clear hb2); (try clear hk); (try clear hi); (try clear ho0)) | ((with_reducible refine gate_dst (N := 12) rfl ?_); refine box_event ?hg (N := 12) ?hd (cs := #[.string (⟨#[]⟩ : ByteArray), .string (⟨#[]⟩ : ByteArray), .string (⟨#[]⟩ : ByteArray), .string (⟨#[]⟩ : ByteArray), .slice none 0 0]) (t := 44) ?hr ?_; (case hd => rfl); (case hg => rfl); (case hr => first | (go_simp; done) | (go_simp; rfl)); intro gb251 hg w76 hbox hb; have n0_ := Aside0.mk (Kd.R_below (by (with_reducible repeat (first | apply Kd.R_alloc | apply Kd.R_drewN | apply Kd.R_drew)); exact HO_217004.out) hb); have n1_ := Aside0.mk (Kd.R_below (by (with_reducible repeat (first | apply Kd.R_alloc | apply Kd.R_drewN | apply Kd.R_drew)); exact HO_229004.out) hb); have n2_ := Aside0.mk (Kd.R_below (by (with_reducible repeat (first | apply Kd.R_alloc | apply Kd.R_drewN | apply Kd.R_drew)); exact HO242.out) hb); have n3_ := Aside0.mk (Kd.R_below (by (with_reducible repeat (first | apply Kd.R_alloc | apply Kd.R_drewN | apply Kd.R_drew)); exact HO249.out) hb); have n4_ := Aside0.mk (blk_below (g := gb216) (o := .cells #[.string t208, .string t209, .string t210, .string t211, .slice Ao16 t212.length co16] 44 (0, 0)) (by (with_reducible repeat (first | refine blk_drewN ?_ _ | refine blk_drew ?_ | refine blk_alloc ?_ _)); exact BK216.out) hb); have n5_ := Aside0.mk (blk_below (g := gb228) (o := .cells #[.string t220, .string t221, .string t222, .string t223, .slice Ao23 t224.length co23] 44 (0, 0)) (by (with_reducible repeat (first | refine blk_drewN ?_ _ | refine blk_drew ?_ | refine blk_alloc ?_ _)); exact BK228.out) hb); have n6_ := Aside0.mk (below_step (by repeat (first | (with_reducible first | exact HB.out | apply below_alloc | apply pw_below_drewN | apply below_drew1 | refine below_set ?_ GE216.out | refine below_set ?_ GE228.out) | exact HB.out)) hb); have n7_ := Aside0.mk (hbox); have n8_ := Aside0.mk ((by rw [hg]; exact (below_size (by repeat (first | (with_reducible first | exact HB.out | apply below_alloc | apply pw_below_drewN | apply below_drew1 | refine below_set ?_ GE216.out | refine below_set ?_ GE228.out) | exact HB.out))) : w.heap.size ≤ gb251)); have n9_ := Aside0.mk ((by rw [hg]; exact (below_size (by repeat (first | (with_reducible first | exact HB.out | apply below_alloc | apply pw_below_drewN | apply below_drew1 | refine below_set ?_ GE216.out | refine below_set ?_ GE228.out) | exact HB.out))) : w.heap.size ≤ gb251)); have n10_ := Aside0.mk ((by rw [hg]; exact Nat.ne_of_lt (blk_lt (g := gb216) (o := .cells #[.string t208, .string t209, .string t210, .string t211, .slice Ao16 t212.length co16] 44 (0, 0)) (by (with_reducible repeat (first | refine blk_drewN ?_ _ | refine blk_drew ?_ | refine blk_alloc ?_ _)); exact BK216.out)) : gb216 ≠ gb251)); have n11_ := Aside0.mk ((by rw [hg]; exact Nat.ne_of_gt (blk_lt (g := gb216) (o := .cells #[.string t208, .string t209, .string t210, .string t211, .slice Ao16 t212.length co16] 44 (0, 0)) (by (with_reducible repeat (first | refine blk_drewN ?_ _ | refine blk_drew ?_ | refine blk_alloc ?_ _)); exact BK216.out)) : gb251 ≠ gb216)); have n12_ := Aside0.mk ((by rw [hg]; exact Nat.ne_of_lt (blk_lt (g := gb228) (o := .cells #[.string t220, .string t221, .string t222, .string t223, .slice Ao23 t224.length co23] 44 (0, 0)) (by (with_reducible repeat (first | refine blk_drewN ?_ _ | refine blk_drew ?_ | refine blk_alloc ?_ _)); exact BK228.out)) : gb228 ≠ gb251)); have n13_ := Aside0.mk ((by rw [hg]; exact Nat.ne_of_gt (blk_lt (g := gb228) (o := .cells #[.string t220, .string t221, .string t222, .string t223, .slice Ao23 t224.length co23] 44 (0, 0)) (by (with_reducible repeat (first | refine blk_drewN ?_ _ | refine blk_drew ?_ | refine blk_alloc ?_ _)); exact BK228.out)) : gb251 ≠ gb228)); clear HO_217004; clear HO_229004; clear HO242; clear HO249; clear BK216; clear BK228; clear HB; have HO_217004 := n0_; have HO_229004 := n1_; have HO242 := n2_; have HO249 := n3_; have BK216 := n4_; have BK228 := n5_; have HB := n6_; have BK251 := n7_; have GW251 := n8_; have GE251 := n9_; have NB216_251 := n10_; have NB251_216 := n11_; have NB228_251 := n12_; have NB251_228 := n13_; clear n0_ n1_ n2_ n3_ n4_ n5_ n6_ n7_ n8_ n9_ n10_ n11_ n12_ n13_; clear hb hbox hg; have hnb77 := NB251_216.out; have hnc77 := NB216_251.out; have hnb78 := NB251_228.out; have hnc78 := NB228_251.out; have hcz79_0 : w76.cell? ⟨gb251, 0, none⟩ = some (.string (⟨#[]⟩ : ByteArray)) := (blk_cell BK251.out 0).trans rfl; have hcz79_1 : w76.cell? ⟨gb251, 1, none⟩ = some (.string (⟨#[]⟩ : ByteArray)) := (blk_cell BK251.out 1).trans rfl; have hcz79_2 : w76.cell? ⟨gb251, 2, none⟩ = some (.string (⟨#[]⟩ : ByteArray)) := (blk_cell BK251.out 2).trans rfl; have hcz79_3 : w76.cell? ⟨gb251, 3, none⟩ = some (.string (⟨#[]⟩ : ByteArray)) := (blk_cell BK251.out 3).trans rfl; have hcz79_4 : w76.cell? ⟨gb251, 4, none⟩ = some (.slice none 0 0) := (blk_cell BK251.out 4).trans rfl; have hfz79_0 := blk_frozen BK251.out 0; have hfz79_1 := blk_frozen BK251.out 1; have hfz79_2 := blk_frozen BK251.out 2; have hfz79_3 := blk_frozen BK251.out 3; have hfz79_4 := blk_frozen BK251.out 4; obtain ⟨Ao80, co80, eo80⟩ := Kd.R_slice HO249.out; subst eo80))
                      (try simp only [Act.put, List.setIfInBounds_toArray, List.set_cons_zero, List.set_cons_succ])
                      go_cut [87] (fun v87 wc => ∃ (kq : Nat) (x87_66 : Bool), v87 = .bool x87_66 ∧ Aside0 (laws_FnExactRequestOf.j2 kq t237 x87_66 t220 t221 t222 t223 t238 = some r) ∧ Aside0 (kq ≤ kj38) ∧ Aside0 (Kd.R k78 78 wc w.heap.size (fun k_ => some k_ ≠ ((.slice Ao23 t224.length co23) : Value).ownBlock ∧ some k_ ≠ ((.slice Ao80 t247.length co80) : Value).ownBlock) (.slice Ao16 t212.length co16) t212) ∧ Aside0 (Kd.R k78 78 wc w.heap.size (fun k_ => some k_ ≠ ((.slice Ao16 t212.length co16) : Value).ownBlock ∧ some k_ ≠ ((.slice Ao80 t247.length co80) : Value).ownBlock) (.slice Ao23 t224.length co23) t238) ∧ Aside0 (Kd.R k78 78 wc w.heap.size (fun k_ => some k_ ≠ ((.slice Ao16 t212.length co16) : Value).ownBlock ∧ some k_ ≠ ((.slice Ao23 t224.length co23) : Value).ownBlock) (.slice Ao80 t247.length co80) t247) ∧ Aside0 (wc.heap[gb216]? = some (.cells #[.string t208, .string t209, .string t210, .string t211, (.slice Ao16 t212.length co16)] 44 (0, 0))) ∧ Aside0 (wc.heap[gb228]? = some (.cells #[.string t220, .string t221, .string t222, .string t223, (.slice Ao23 t224.length co23)] 44 (0, 0))) ∧ Aside0 (wc.heap[gb251]? = some (.cells #[.string t243, .string t244, .string t245, .string t246, (.slice Ao80 t247.length co80)] 44 (0, 0))) ∧ Aside0 (Below w.heap.size w wc))
                      case first =>
                        have H := HC67.out
                        clear HC67
                        replace H := Option.bind_eq_some_iff.mp H
                        obtain ⟨t252, A810, H⟩ := H
                        replace H : (if t252 = true then (laws_FnExactRequestOf.j2 kj38 t237 (t250 != t215) t220 t221 t222 t223 t238) else (laws_FnExactRequestOf.j2 kj38 t237 true t220 t221 t222 t223 t238)) = some r := H
                        have A81 := Aside0.mk A810
                        clear A810
                        by_cases c82 : t252 = true
                        · subst c82
                          have H1 : (laws_FnExactRequestOf.j2 kj38 t237 (t250 != t215) t220 t221 t222 t223 t238) = some r := by rw [if_pos rfl] at H; exact H
                          clear H
                          have H := H1
                          clear H1
                          have H' := Aside0.mk H
                          clear H
                          have hnb83 := NB251_216.out
                          have hnc83 := NB216_251.out
                          have hnb84 := NB251_228.out
                          have hnc84 := NB228_251.out
                          have hcz85_0 : w76.cell? ⟨gb251, 0, none⟩ = some (.string (⟨#[]⟩ : ByteArray)) := (blk_cell BK251.out 0).trans rfl
                          have hcz85_1 : w76.cell? ⟨gb251, 1, none⟩ = some (.string (⟨#[]⟩ : ByteArray)) := (blk_cell BK251.out 1).trans rfl
                          have hcz85_2 : w76.cell? ⟨gb251, 2, none⟩ = some (.string (⟨#[]⟩ : ByteArray)) := (blk_cell BK251.out 2).trans rfl
                          have hcz85_3 : w76.cell? ⟨gb251, 3, none⟩ = some (.string (⟨#[]⟩ : ByteArray)) := (blk_cell BK251.out 3).trans rfl
                          have hcz85_4 : w76.cell? ⟨gb251, 4, none⟩ = some (.slice none 0 0) := (blk_cell BK251.out 4).trans rfl
                          have hfz85_0 := blk_frozen BK251.out 0
                          have hfz85_1 := blk_frozen BK251.out 1
                          have hfz85_2 := blk_frozen BK251.out 2
                          have hfz85_3 := blk_frozen BK251.out 3
                          have hfz85_4 := blk_frozen BK251.out 4
                          have hnb86 := NB216_228.out
                          have hnc86 := NB228_216.out
                          have hcz87_0 : w76.cell? ⟨gb216, 0, none⟩ = some (.string t208) := (blk_cell BK216.out 0).trans rfl
                          have hcz87_1 : w76.cell? ⟨gb216, 1, none⟩ = some (.string t209) := (blk_cell BK216.out 1).trans rfl
                          have hcz87_2 : w76.cell? ⟨gb216, 2, none⟩ = some (.string t210) := (blk_cell BK216.out 2).trans rfl
                          have hcz87_3 : w76.cell? ⟨gb216, 3, none⟩ = some (.string t211) := (blk_cell BK216.out 3).trans rfl
                          have hcz87_4 : w76.cell? ⟨gb216, 4, none⟩ = some (.slice Ao16 t212.length co16) := (blk_cell BK216.out 4).trans rfl
                          have hfz87_0 := blk_frozen BK216.out 0
                          have hfz87_1 := blk_frozen BK216.out 1
                          have hfz87_2 := blk_frozen BK216.out 2
                          have hfz87_3 := blk_frozen BK216.out 3
                          have hfz87_4 := blk_frozen BK216.out 4
                          go_wp2_with (first | ((with_reducible refine gate_callee (f := 25) rfl ?_); refine goesL_ (some 81) rfl rfl Tryd.func25 (by kernel_rfl) rfl #[.agg #[.string t243, .string t244, .string t245, .string t246, .slice Ao80 t247.length co80], .agg #[.string t208, .string t209, .string t210, .string t211, .slice Ao16 t212.length co16]] rfl (by (try simp only [List.map_toArray, List.map_cons, List.map_nil]); first | done | rfl | (simp only [List.length_drop, List.length_take]; rfl)) ?_; (with_reducible refine (laws_eqRequest.calls kj38 t243 t244 t245 t246 _ _ t247 t208 t209 t210 t211 _ _ t212 true _ ?side1 ?side2 ?side3 ?side4 A81.out).mono ?_); (case side1 => refine (Kd.R_reads' (e := 78) (base := w.heap.size) (ok := fun k_ => (((True ∧ some k_ ≠ (.slice Ao16 t212.length co16 : Value).ownBlock) ∧ some k_ ≠ (.slice Ao23 t224.length co23 : Value).ownBlock) ∧ some k_ ≠ (.slice Ao74 t240.length co74 : Value).ownBlock)) (n := t247.length) (c := co80) ?_).2.2; exact (by (with_reducible repeat (first | apply Kd.R_alloc | apply Kd.R_drewN | apply Kd.R_drew)); exact (Kd.R_mono (Kd.R_far (p := ⟨gb251, 4, none⟩) (Kd.R_far (p := ⟨gb251, 3, none⟩) (Kd.R_far (p := ⟨gb251, 2, none⟩) (Kd.R_far (p := ⟨gb251, 1, none⟩) (Kd.R_far (p := ⟨gb251, 0, none⟩) (Kd.R_types HO249.out BK251.out (by decide)) (fun _ hk => hk.2) (.string t243)) (fun _ hk => hk.2) (.string t244)) (fun _ hk => hk.2) (.string t245)) (fun _ hk => hk.2) (.string t246)) (fun _ hk => hk.2) (.slice Ao80 t247.length co80)) (fun _ h_ => h_.1)))); (case side2 => exact (Kd.R_reads' HO249.out).2.1); (case side3 => refine (Kd.R_reads' (e := 78) (base := w.heap.size) (ok := fun k_ => ((some k_ ≠ (.slice Ao23 t224.length co23 : Value).ownBlock ∧ some k_ ≠ (.slice Ao74 t240.length co74 : Value).ownBlock) ∧ some k_ ≠ (.slice Ao80 t247.length co80 : Value).ownBlock)) (n := t212.length) (c := co16) ?_).2.2; exact (by (with_reducible repeat (first | apply Kd.R_alloc | apply Kd.R_drewN | apply Kd.R_drew)); exact (Kd.R_mono (Kd.R_far (p := ⟨gb251, 4, none⟩) (Kd.R_far (p := ⟨gb251, 3, none⟩) (Kd.R_far (p := ⟨gb251, 2, none⟩) (Kd.R_far (p := ⟨gb251, 1, none⟩) (Kd.R_far (p := ⟨gb251, 0, none⟩) (Kd.R_types HO_217004.out BK251.out (by decide)) (fun _ hk => hk.2) (.string t243)) (fun _ hk => hk.2) (.string t244)) (fun _ hk => hk.2) (.string t245)) (fun _ hk => hk.2) (.string t246)) (fun _ hk => hk.2) (.slice Ao80 t247.length co80)) (fun _ h_ => h_.1)))); (case side4 => exact (Kd.R_reads' HO_217004.out).2.1); rintro e w88 ⟨rfl, hb⟩; refine ⟨_, rfl, ?_⟩; have n0_ := Aside0.mk (Kd.R_below (by (with_reducible repeat (first | apply Kd.R_alloc | apply Kd.R_drewN | apply Kd.R_drew)); exact (Kd.R_mono (Kd.R_far (p := ⟨gb251, 4, none⟩) (Kd.R_far (p := ⟨gb251, 3, none⟩) (Kd.R_far (p := ⟨gb251, 2, none⟩) (Kd.R_far (p := ⟨gb251, 1, none⟩) (Kd.R_far (p := ⟨gb251, 0, none⟩) (Kd.R_types HO_217004.out BK251.out (by decide)) (fun _ hk => hk.2) (.string t243)) (fun _ hk => hk.2) (.string t244)) (fun _ hk => hk.2) (.string t245)) (fun _ hk => hk.2) (.string t246)) (fun _ hk => hk.2) (.slice Ao80 t247.length co80)) (fun _ h_ => h_.1))) hb); have n1_ := Aside0.mk (Kd.R_below (by (with_reducible repeat (first | apply Kd.R_alloc | apply Kd.R_drewN | apply Kd.R_drew)); exact (Kd.R_mono (Kd.R_far (p := ⟨gb251, 4, none⟩) (Kd.R_far (p := ⟨gb251, 3, none⟩) (Kd.R_far (p := ⟨gb251, 2, none⟩) (Kd.R_far (p := ⟨gb251, 1, none⟩) (Kd.R_far (p := ⟨gb251, 0, none⟩) (Kd.R_types HO_229004.out BK251.out (by decide)) (fun _ hk => hk.2) (.string t243)) (fun _ hk => hk.2) (.string t244)) (fun _ hk => hk.2) (.string t245)) (fun _ hk => hk.2) (.string t246)) (fun _ hk => hk.2) (.slice Ao80 t247.length co80)) (fun _ h_ => h_.1))) hb); have n2_ := Aside0.mk (Kd.R_below (by (with_reducible repeat (first | apply Kd.R_alloc | apply Kd.R_drewN | apply Kd.R_drew)); exact (Kd.R_mono (Kd.R_far (p := ⟨gb251, 4, none⟩) (Kd.R_far (p := ⟨gb251, 3, none⟩) (Kd.R_far (p := ⟨gb251, 2, none⟩) (Kd.R_far (p := ⟨gb251, 1, none⟩) (Kd.R_far (p := ⟨gb251, 0, none⟩) (Kd.R_types HO242.out BK251.out (by decide)) (fun _ hk => hk.2) (.string t243)) (fun _ hk => hk.2) (.string t244)) (fun _ hk => hk.2) (.string t245)) (fun _ hk => hk.2) (.string t246)) (fun _ hk => hk.2) (.slice Ao80 t247.length co80)) (fun _ h_ => h_.1))) hb); have n3_ := Aside0.mk (Kd.R_below (by (with_reducible repeat (first | apply Kd.R_alloc | apply Kd.R_drewN | apply Kd.R_drew)); exact (Kd.R_mono (Kd.R_far (p := ⟨gb251, 4, none⟩) (Kd.R_far (p := ⟨gb251, 3, none⟩) (Kd.R_far (p := ⟨gb251, 2, none⟩) (Kd.R_far (p := ⟨gb251, 1, none⟩) (Kd.R_far (p := ⟨gb251, 0, none⟩) (Kd.R_types HO249.out BK251.out (by decide)) (fun _ hk => hk.2) (.string t243)) (fun _ hk => hk.2) (.string t244)) (fun _ hk => hk.2) (.string t245)) (fun _ hk => hk.2) (.string t246)) (fun _ hk => hk.2) (.slice Ao80 t247.length co80)) (fun _ h_ => h_.1))) hb); have n4_ := Aside0.mk (blk_below (g := gb216) (o := .cells #[.string t208, .string t209, .string t210, .string t211, .slice Ao16 t212.length co16] 44 (0, 0)) (by (with_reducible repeat (first | refine blk_drewN ?_ _ | refine blk_drew ?_ | refine blk_alloc ?_ _)); refine blk_far ?_ NB216_251.out _; (with_reducible repeat (first | refine blk_drewN ?_ _ | refine blk_drew ?_ | refine blk_alloc ?_ _)); refine blk_far ?_ NB216_251.out _; (with_reducible repeat (first | refine blk_drewN ?_ _ | refine blk_drew ?_ | refine blk_alloc ?_ _)); refine blk_far ?_ NB216_251.out _; (with_reducible repeat (first | refine blk_drewN ?_ _ | refine blk_drew ?_ | refine blk_alloc ?_ _)); refine blk_far ?_ NB216_251.out _; (with_reducible repeat (first | refine blk_drewN ?_ _ | refine blk_drew ?_ | refine blk_alloc ?_ _)); refine blk_far ?_ NB216_251.out _; (with_reducible repeat (first | refine blk_drewN ?_ _ | refine blk_drew ?_ | refine blk_alloc ?_ _)); exact BK216.out) hb); have n5_ := Aside0.mk (blk_below (g := gb228) (o := .cells #[.string t220, .string t221, .string t222, .string t223, .slice Ao23 t224.length co23] 44 (0, 0)) (by (with_reducible repeat (first | refine blk_drewN ?_ _ | refine blk_drew ?_ | refine blk_alloc ?_ _)); refine blk_far ?_ NB228_251.out _; (with_reducible repeat (first | refine blk_drewN ?_ _ | refine blk_drew ?_ | refine blk_alloc ?_ _)); refine blk_far ?_ NB228_251.out _; (with_reducible repeat (first | refine blk_drewN ?_ _ | refine blk_drew ?_ | refine blk_alloc ?_ _)); refine blk_far ?_ NB228_251.out _; (with_reducible repeat (first | refine blk_drewN ?_ _ | refine blk_drew ?_ | refine blk_alloc ?_ _)); refine blk_far ?_ NB228_251.out _; (with_reducible repeat (first | refine blk_drewN ?_ _ | refine blk_drew ?_ | refine blk_alloc ?_ _)); refine blk_far ?_ NB228_251.out _; (with_reducible repeat (first | refine blk_drewN ?_ _ | refine blk_drew ?_ | refine blk_alloc ?_ _)); exact BK228.out) hb); have n6_ := Aside0.mk (blk_below (g := gb251) (o := .cells #[.string t243, .string t244, .string t245, .string t246, .slice Ao80 t247.length co80] 44 (0, 0)) (by (with_reducible repeat (first | refine blk_drewN ?_ _ | refine blk_drew ?_ | refine blk_alloc ?_ _)); refine blk_put (cs := #[.string t243, .string t244, .string t245, .string t246, .slice none 0 0]) ?_ 4 _ rfl; (with_reducible repeat (first | refine blk_drewN ?_ _ | refine blk_drew ?_ | refine blk_alloc ?_ _)); refine blk_put (cs := #[.string t243, .string t244, .string t245, .string (⟨#[]⟩ : ByteArray), .slice none 0 0]) ?_ 3 _ rfl; (with_reducible repeat (first | refine blk_drewN ?_ _ | refine blk_drew ?_ | refine blk_alloc ?_ _)); refine blk_put (cs := #[.string t243, .string t244, .string (⟨#[]⟩ : ByteArray), .string (⟨#[]⟩ : ByteArray), .slice none 0 0]) ?_ 2 _ rfl; (with_reducible repeat (first | refine blk_drewN ?_ _ | refine blk_drew ?_ | refine blk_alloc ?_ _)); refine blk_put (cs := #[.string t243, .string (⟨#[]⟩ : ByteArray), .string (⟨#[]⟩ : ByteArray), .string (⟨#[]⟩ : ByteArray), .slice none 0 0]) ?_ 1 _ rfl; (with_reducible repeat (first | refine blk_drewN ?_ _ | refine blk_drew ?_ | refine blk_alloc ?_ _)); refine blk_put (cs := #[.string (⟨#[]⟩ : ByteArray), .string (⟨#[]⟩ : ByteArray), .string (⟨#[]⟩ : ByteArray), .string (⟨#[]⟩ : ByteArray), .slice none 0 0]) ?_ 0 _ rfl; (with_reducible repeat (first | refine blk_drewN ?_ _ | refine blk_drew ?_ | refine blk_alloc ?_ _)); exact BK251.out) hb); have n7_ := Aside0.mk (below_step (by repeat (first | (with_reducible first | exact HB.out | apply below_alloc | apply pw_below_drewN | apply below_drew1 | refine below_set ?_ GE216.out | refine below_set ?_ GE228.out | refine below_set ?_ GE251.out) | exact HB.out)) hb); clear HO_217004; clear HO_229004; clear HO242; clear HO249; clear BK216; clear BK228; clear BK251; clear HB; have HO_217004 := n0_; have HO_229004 := n1_; have HO242 := n2_; have HO249 := n3_; have BK216 := n4_; have BK228 := n5_; have BK251 := n6_; have HB := n7_; clear n0_ n1_ n2_ n3_ n4_ n5_ n6_ n7_; (try clear hb); (try clear hb2); (try clear hk); (try clear hi)))
                          go_meet
                          case rel => exact ⟨_, ((t250 != t215)), (by first | rfl | (simp; done) | (simp [*]; done)), H', ⟨by have := HJ8.out; have := HJ38.out; first | omega | exact Nat.le_refl _⟩, ⟨by (with_reducible repeat (first | apply Kd.R_alloc | apply Kd.R_drewN | apply Kd.R_drew)); exact Kd.R_mono HO_217004.out (fun _ hk => ⟨hk.1.1, hk.2⟩)⟩, ⟨by (with_reducible repeat (first | apply Kd.R_alloc | apply Kd.R_drewN | apply Kd.R_drew)); exact Kd.R_mono HO_229004.out (fun _ hk => ⟨hk.1.1, hk.2⟩)⟩, ⟨by (with_reducible repeat (first | apply Kd.R_alloc | apply Kd.R_drewN | apply Kd.R_drew)); exact Kd.R_mono HO249.out (fun _ hk => ⟨hk.1.1.2, hk.1.2⟩)⟩, ⟨by (with_reducible repeat (first | refine blk_drewN ?_ _ | refine blk_drew ?_ | refine blk_alloc ?_ _)); exact BK216.out⟩, ⟨by (with_reducible repeat (first | refine blk_drewN ?_ _ | refine blk_drew ?_ | refine blk_alloc ?_ _)); exact BK228.out⟩, ⟨by (with_reducible repeat (first | refine blk_drewN ?_ _ | refine blk_drew ?_ | refine blk_alloc ?_ _)); exact BK251.out⟩, ⟨by repeat (first | (with_reducible first | exact HB.out | apply below_alloc | apply pw_below_drewN | apply below_drew1 | refine below_set ?_ GE216.out | refine below_set ?_ GE228.out | refine below_set ?_ GE251.out) | exact HB.out)⟩⟩
                        · replace c82 := Bool.eq_false_iff.mpr c82
                          subst c82
                          have H1 : (laws_FnExactRequestOf.j2 kj38 t237 true t220 t221 t222 t223 t238) = some r := by rw [if_neg (show ¬ (false = true) by decide)] at H; exact H
                          clear H
                          have H := H1
                          clear H1
                          have H' := Aside0.mk H
                          clear H
                          have hnb89 := NB251_216.out
                          have hnc89 := NB216_251.out
                          have hnb90 := NB251_228.out
                          have hnc90 := NB228_251.out
                          have hcz91_0 : w76.cell? ⟨gb251, 0, none⟩ = some (.string (⟨#[]⟩ : ByteArray)) := (blk_cell BK251.out 0).trans rfl
                          have hcz91_1 : w76.cell? ⟨gb251, 1, none⟩ = some (.string (⟨#[]⟩ : ByteArray)) := (blk_cell BK251.out 1).trans rfl
                          have hcz91_2 : w76.cell? ⟨gb251, 2, none⟩ = some (.string (⟨#[]⟩ : ByteArray)) := (blk_cell BK251.out 2).trans rfl
                          have hcz91_3 : w76.cell? ⟨gb251, 3, none⟩ = some (.string (⟨#[]⟩ : ByteArray)) := (blk_cell BK251.out 3).trans rfl
                          have hcz91_4 : w76.cell? ⟨gb251, 4, none⟩ = some (.slice none 0 0) := (blk_cell BK251.out 4).trans rfl
                          have hfz91_0 := blk_frozen BK251.out 0
                          have hfz91_1 := blk_frozen BK251.out 1
                          have hfz91_2 := blk_frozen BK251.out 2
                          have hfz91_3 := blk_frozen BK251.out 3
                          have hfz91_4 := blk_frozen BK251.out 4
                          have hnb92 := NB216_228.out
                          have hnc92 := NB228_216.out
                          have hcz93_0 : w76.cell? ⟨gb216, 0, none⟩ = some (.string t208) := (blk_cell BK216.out 0).trans rfl
                          have hcz93_1 : w76.cell? ⟨gb216, 1, none⟩ = some (.string t209) := (blk_cell BK216.out 1).trans rfl
                          have hcz93_2 : w76.cell? ⟨gb216, 2, none⟩ = some (.string t210) := (blk_cell BK216.out 2).trans rfl
                          have hcz93_3 : w76.cell? ⟨gb216, 3, none⟩ = some (.string t211) := (blk_cell BK216.out 3).trans rfl
                          have hcz93_4 : w76.cell? ⟨gb216, 4, none⟩ = some (.slice Ao16 t212.length co16) := (blk_cell BK216.out 4).trans rfl
                          have hfz93_0 := blk_frozen BK216.out 0
                          have hfz93_1 := blk_frozen BK216.out 1
                          have hfz93_2 := blk_frozen BK216.out 2
                          have hfz93_3 := blk_frozen BK216.out 3
                          have hfz93_4 := blk_frozen BK216.out 4
                          go_wp2_with (first | ((with_reducible refine gate_callee (f := 25) rfl ?_); refine goesL_ (some 81) rfl rfl Tryd.func25 (by kernel_rfl) rfl #[.agg #[.string t243, .string t244, .string t245, .string t246, .slice Ao80 t247.length co80], .agg #[.string t208, .string t209, .string t210, .string t211, .slice Ao16 t212.length co16]] rfl (by (try simp only [List.map_toArray, List.map_cons, List.map_nil]); first | done | rfl | (simp only [List.length_drop, List.length_take]; rfl)) ?_; (with_reducible refine (laws_eqRequest.calls kj38 t243 t244 t245 t246 _ _ t247 t208 t209 t210 t211 _ _ t212 false _ ?side1 ?side2 ?side3 ?side4 A81.out).mono ?_); (case side1 => refine (Kd.R_reads' (e := 78) (base := w.heap.size) (ok := fun k_ => (((True ∧ some k_ ≠ (.slice Ao16 t212.length co16 : Value).ownBlock) ∧ some k_ ≠ (.slice Ao23 t224.length co23 : Value).ownBlock) ∧ some k_ ≠ (.slice Ao74 t240.length co74 : Value).ownBlock)) (n := t247.length) (c := co80) ?_).2.2; exact (by (with_reducible repeat (first | apply Kd.R_alloc | apply Kd.R_drewN | apply Kd.R_drew)); exact (Kd.R_mono (Kd.R_far (p := ⟨gb251, 4, none⟩) (Kd.R_far (p := ⟨gb251, 3, none⟩) (Kd.R_far (p := ⟨gb251, 2, none⟩) (Kd.R_far (p := ⟨gb251, 1, none⟩) (Kd.R_far (p := ⟨gb251, 0, none⟩) (Kd.R_types HO249.out BK251.out (by decide)) (fun _ hk => hk.2) (.string t243)) (fun _ hk => hk.2) (.string t244)) (fun _ hk => hk.2) (.string t245)) (fun _ hk => hk.2) (.string t246)) (fun _ hk => hk.2) (.slice Ao80 t247.length co80)) (fun _ h_ => h_.1)))); (case side2 => exact (Kd.R_reads' HO249.out).2.1); (case side3 => refine (Kd.R_reads' (e := 78) (base := w.heap.size) (ok := fun k_ => ((some k_ ≠ (.slice Ao23 t224.length co23 : Value).ownBlock ∧ some k_ ≠ (.slice Ao74 t240.length co74 : Value).ownBlock) ∧ some k_ ≠ (.slice Ao80 t247.length co80 : Value).ownBlock)) (n := t212.length) (c := co16) ?_).2.2; exact (by (with_reducible repeat (first | apply Kd.R_alloc | apply Kd.R_drewN | apply Kd.R_drew)); exact (Kd.R_mono (Kd.R_far (p := ⟨gb251, 4, none⟩) (Kd.R_far (p := ⟨gb251, 3, none⟩) (Kd.R_far (p := ⟨gb251, 2, none⟩) (Kd.R_far (p := ⟨gb251, 1, none⟩) (Kd.R_far (p := ⟨gb251, 0, none⟩) (Kd.R_types HO_217004.out BK251.out (by decide)) (fun _ hk => hk.2) (.string t243)) (fun _ hk => hk.2) (.string t244)) (fun _ hk => hk.2) (.string t245)) (fun _ hk => hk.2) (.string t246)) (fun _ hk => hk.2) (.slice Ao80 t247.length co80)) (fun _ h_ => h_.1)))); (case side4 => exact (Kd.R_reads' HO_217004.out).2.1); rintro e w94 ⟨rfl, hb⟩; refine ⟨_, rfl, ?_⟩; have n0_ := Aside0.mk (Kd.R_below (by (with_reducible repeat (first | apply Kd.R_alloc | apply Kd.R_drewN | apply Kd.R_drew)); exact (Kd.R_mono (Kd.R_far (p := ⟨gb251, 4, none⟩) (Kd.R_far (p := ⟨gb251, 3, none⟩) (Kd.R_far (p := ⟨gb251, 2, none⟩) (Kd.R_far (p := ⟨gb251, 1, none⟩) (Kd.R_far (p := ⟨gb251, 0, none⟩) (Kd.R_types HO_217004.out BK251.out (by decide)) (fun _ hk => hk.2) (.string t243)) (fun _ hk => hk.2) (.string t244)) (fun _ hk => hk.2) (.string t245)) (fun _ hk => hk.2) (.string t246)) (fun _ hk => hk.2) (.slice Ao80 t247.length co80)) (fun _ h_ => h_.1))) hb); have n1_ := Aside0.mk (Kd.R_below (by (with_reducible repeat (first | apply Kd.R_alloc | apply Kd.R_drewN | apply Kd.R_drew)); exact (Kd.R_mono (Kd.R_far (p := ⟨gb251, 4, none⟩) (Kd.R_far (p := ⟨gb251, 3, none⟩) (Kd.R_far (p := ⟨gb251, 2, none⟩) (Kd.R_far (p := ⟨gb251, 1, none⟩) (Kd.R_far (p := ⟨gb251, 0, none⟩) (Kd.R_types HO_229004.out BK251.out (by decide)) (fun _ hk => hk.2) (.string t243)) (fun _ hk => hk.2) (.string t244)) (fun _ hk => hk.2) (.string t245)) (fun _ hk => hk.2) (.string t246)) (fun _ hk => hk.2) (.slice Ao80 t247.length co80)) (fun _ h_ => h_.1))) hb); have n2_ := Aside0.mk (Kd.R_below (by (with_reducible repeat (first | apply Kd.R_alloc | apply Kd.R_drewN | apply Kd.R_drew)); exact (Kd.R_mono (Kd.R_far (p := ⟨gb251, 4, none⟩) (Kd.R_far (p := ⟨gb251, 3, none⟩) (Kd.R_far (p := ⟨gb251, 2, none⟩) (Kd.R_far (p := ⟨gb251, 1, none⟩) (Kd.R_far (p := ⟨gb251, 0, none⟩) (Kd.R_types HO242.out BK251.out (by decide)) (fun _ hk => hk.2) (.string t243)) (fun _ hk => hk.2) (.string t244)) (fun _ hk => hk.2) (.string t245)) (fun _ hk => hk.2) (.string t246)) (fun _ hk => hk.2) (.slice Ao80 t247.length co80)) (fun _ h_ => h_.1))) hb); have n3_ := Aside0.mk (Kd.R_below (by (with_reducible repeat (first | apply Kd.R_alloc | apply Kd.R_drewN | apply Kd.R_drew)); exact (Kd.R_mono (Kd.R_far (p := ⟨gb251, 4, none⟩) (Kd.R_far (p := ⟨gb251, 3, none⟩) (Kd.R_far (p := ⟨gb251, 2, none⟩) (Kd.R_far (p := ⟨gb251, 1, none⟩) (Kd.R_far (p := ⟨gb251, 0, none⟩) (Kd.R_types HO249.out BK251.out (by decide)) (fun _ hk => hk.2) (.string t243)) (fun _ hk => hk.2) (.string t244)) (fun _ hk => hk.2) (.string t245)) (fun _ hk => hk.2) (.string t246)) (fun _ hk => hk.2) (.slice Ao80 t247.length co80)) (fun _ h_ => h_.1))) hb); have n4_ := Aside0.mk (blk_below (g := gb216) (o := .cells #[.string t208, .string t209, .string t210, .string t211, .slice Ao16 t212.length co16] 44 (0, 0)) (by (with_reducible repeat (first | refine blk_drewN ?_ _ | refine blk_drew ?_ | refine blk_alloc ?_ _)); refine blk_far ?_ NB216_251.out _; (with_reducible repeat (first | refine blk_drewN ?_ _ | refine blk_drew ?_ | refine blk_alloc ?_ _)); refine blk_far ?_ NB216_251.out _; (with_reducible repeat (first | refine blk_drewN ?_ _ | refine blk_drew ?_ | refine blk_alloc ?_ _)); refine blk_far ?_ NB216_251.out _; (with_reducible repeat (first | refine blk_drewN ?_ _ | refine blk_drew ?_ | refine blk_alloc ?_ _)); refine blk_far ?_ NB216_251.out _; (with_reducible repeat (first | refine blk_drewN ?_ _ | refine blk_drew ?_ | refine blk_alloc ?_ _)); refine blk_far ?_ NB216_251.out _; (with_reducible repeat (first | refine blk_drewN ?_ _ | refine blk_drew ?_ | refine blk_alloc ?_ _)); exact BK216.out) hb); have n5_ := Aside0.mk (blk_below (g := gb228) (o := .cells #[.string t220, .string t221, .string t222, .string t223, .slice Ao23 t224.length co23] 44 (0, 0)) (by (with_reducible repeat (first | refine blk_drewN ?_ _ | refine blk_drew ?_ | refine blk_alloc ?_ _)); refine blk_far ?_ NB228_251.out _; (with_reducible repeat (first | refine blk_drewN ?_ _ | refine blk_drew ?_ | refine blk_alloc ?_ _)); refine blk_far ?_ NB228_251.out _; (with_reducible repeat (first | refine blk_drewN ?_ _ | refine blk_drew ?_ | refine blk_alloc ?_ _)); refine blk_far ?_ NB228_251.out _; (with_reducible repeat (first | refine blk_drewN ?_ _ | refine blk_drew ?_ | refine blk_alloc ?_ _)); refine blk_far ?_ NB228_251.out _; (with_reducible repeat (first | refine blk_drewN ?_ _ | refine blk_drew ?_ | refine blk_alloc ?_ _)); refine blk_far ?_ NB228_251.out _; (with_reducible repeat (first | refine blk_drewN ?_ _ | refine blk_drew ?_ | refine blk_alloc ?_ _)); exact BK228.out) hb); have n6_ := Aside0.mk (blk_below (g := gb251) (o := .cells #[.string t243, .string t244, .string t245, .string t246, .slice Ao80 t247.length co80] 44 (0, 0)) (by (with_reducible repeat (first | refine blk_drewN ?_ _ | refine blk_drew ?_ | refine blk_alloc ?_ _)); refine blk_put (cs := #[.string t243, .string t244, .string t245, .string t246, .slice none 0 0]) ?_ 4 _ rfl; (with_reducible repeat (first | refine blk_drewN ?_ _ | refine blk_drew ?_ | refine blk_alloc ?_ _)); refine blk_put (cs := #[.string t243, .string t244, .string t245, .string (⟨#[]⟩ : ByteArray), .slice none 0 0]) ?_ 3 _ rfl; (with_reducible repeat (first | refine blk_drewN ?_ _ | refine blk_drew ?_ | refine blk_alloc ?_ _)); refine blk_put (cs := #[.string t243, .string t244, .string (⟨#[]⟩ : ByteArray), .string (⟨#[]⟩ : ByteArray), .slice none 0 0]) ?_ 2 _ rfl; (with_reducible repeat (first | refine blk_drewN ?_ _ | refine blk_drew ?_ | refine blk_alloc ?_ _)); refine blk_put (cs := #[.string t243, .string (⟨#[]⟩ : ByteArray), .string (⟨#[]⟩ : ByteArray), .string (⟨#[]⟩ : ByteArray), .slice none 0 0]) ?_ 1 _ rfl; (with_reducible repeat (first | refine blk_drewN ?_ _ | refine blk_drew ?_ | refine blk_alloc ?_ _)); refine blk_put (cs := #[.string (⟨#[]⟩ : ByteArray), .string (⟨#[]⟩ : ByteArray), .string (⟨#[]⟩ : ByteArray), .string (⟨#[]⟩ : ByteArray), .slice none 0 0]) ?_ 0 _ rfl; (with_reducible repeat (first | refine blk_drewN ?_ _ | refine blk_drew ?_ | refine blk_alloc ?_ _)); exact BK251.out) hb); have n7_ := Aside0.mk (below_step (by repeat (first | (with_reducible first | exact HB.out | apply below_alloc | apply pw_below_drewN | apply below_drew1 | refine below_set ?_ GE216.out | refine below_set ?_ GE228.out | refine below_set ?_ GE251.out) | exact HB.out)) hb); clear HO_217004; clear HO_229004; clear HO242; clear HO249; clear BK216; clear BK228; clear BK251; clear HB; have HO_217004 := n0_; have HO_229004 := n1_; have HO242 := n2_; have HO249 := n3_; have BK216 := n4_; have BK228 := n5_; have BK251 := n6_; have HB := n7_; clear n0_ n1_ n2_ n3_ n4_ n5_ n6_ n7_; (try clear hb); (try clear hb2); (try clear hk); (try clear hi)))
                          go_meet
                          case rel => exact ⟨_, (true), (by first | rfl | (simp; done) | (simp [*]; done)), H', ⟨by have := HJ8.out; have := HJ38.out; first | omega | exact Nat.le_refl _⟩, ⟨by (with_reducible repeat (first | apply Kd.R_alloc | apply Kd.R_drewN | apply Kd.R_drew)); exact Kd.R_mono HO_217004.out (fun _ hk => ⟨hk.1.1, hk.2⟩)⟩, ⟨by (with_reducible repeat (first | apply Kd.R_alloc | apply Kd.R_drewN | apply Kd.R_drew)); exact Kd.R_mono HO_229004.out (fun _ hk => ⟨hk.1.1, hk.2⟩)⟩, ⟨by (with_reducible repeat (first | apply Kd.R_alloc | apply Kd.R_drewN | apply Kd.R_drew)); exact Kd.R_mono HO249.out (fun _ hk => ⟨hk.1.1.2, hk.1.2⟩)⟩, ⟨by (with_reducible repeat (first | refine blk_drewN ?_ _ | refine blk_drew ?_ | refine blk_alloc ?_ _)); exact BK216.out⟩, ⟨by (with_reducible repeat (first | refine blk_drewN ?_ _ | refine blk_drew ?_ | refine blk_alloc ?_ _)); exact BK228.out⟩, ⟨by (with_reducible repeat (first | refine blk_drewN ?_ _ | refine blk_drew ?_ | refine blk_alloc ?_ _)); exact BK251.out⟩, ⟨by repeat (first | (with_reducible first | exact HB.out | apply below_alloc | apply pw_below_drewN | apply below_drew1 | refine below_set ?_ GE216.out | refine below_set ?_ GE228.out | refine below_set ?_ GE251.out) | exact HB.out)⟩⟩
                      case rest =>
                        clear HC67
                        try clear c1
                        try clear c2
                        try clear p2
                        try clear c3
                        try clear c3b0
                        try clear c4
                        try clear c5
                        try clear c6
                        try clear c7
                        try clear c8
                        try clear c9
                        try clear c16
                        try clear c18
                        try clear c20
                        try clear c21
                        try clear c25
                        try clear c26
                        try clear c27
                        try clear c29
                        try clear c30
                        try clear c31
                        try clear c34
                        try clear c37
                        try clear c44
                        try clear c44b0
                        try clear c46
                        try clear c47
                        try clear c51
                        try clear c55
                        try clear c58
                        try clear c58b0
                        try clear c59
                        try clear c64
                        try clear c64b0
                        try clear c64b1
                        try clear c68
                        try clear c77
                        try clear c78
                        try clear c82
                        try clear c83
                        try clear c84
                        try clear c86
                        try clear c89
                        try clear c90
                        try clear c92
                        try clear hcz15_0
                        try clear hcz15_1
                        try clear hcz15_2
                        try clear hcz15_3
                        try clear hcz15_4
                        try clear hcz22_0
                        try clear hcz22_1
                        try clear hcz22_2
                        try clear hcz22_3
                        try clear hcz22_4
                        try clear hcz27_0
                        try clear hcz27_1
                        try clear hcz27_2
                        try clear hcz27_3
                        try clear hcz27_4
                        try clear hcz28_0
                        try clear hcz28_1
                        try clear hcz28_2
                        try clear hcz28_3
                        try clear hcz28_4
                        try clear hcz31_0
                        try clear hcz31_1
                        try clear hcz31_2
                        try clear hcz31_3
                        try clear hcz31_4
                        try clear hcz32_0
                        try clear hcz32_1
                        try clear hcz32_2
                        try clear hcz32_3
                        try clear hcz32_4
                        try clear hcz48_0
                        try clear hcz48_1
                        try clear hcz48_2
                        try clear hcz48_3
                        try clear hcz48_4
                        try clear hcz49_0
                        try clear hcz49_1
                        try clear hcz49_2
                        try clear hcz49_3
                        try clear hcz49_4
                        try clear hcz52_0
                        try clear hcz52_1
                        try clear hcz52_2
                        try clear hcz52_3
                        try clear hcz52_4
                        try clear hcz53_0
                        try clear hcz53_1
                        try clear hcz53_2
                        try clear hcz53_3
                        try clear hcz53_4
                        try clear hcz60_0
                        try clear hcz60_1
                        try clear hcz60_2
                        try clear hcz60_3
                        try clear hcz60_4
                        try clear hcz62_0
                        try clear hcz62_1
                        try clear hcz62_2
                        try clear hcz62_3
                        try clear hcz62_4
                        try clear hcz69_0
                        try clear hcz69_1
                        try clear hcz69_2
                        try clear hcz69_3
                        try clear hcz69_4
                        try clear hcz71_0
                        try clear hcz71_1
                        try clear hcz71_2
                        try clear hcz71_3
                        try clear hcz71_4
                        try clear hcz79_0
                        try clear hcz79_1
                        try clear hcz79_2
                        try clear hcz79_3
                        try clear hcz79_4
                        try clear hcz85_0
                        try clear hcz85_1
                        try clear hcz85_2
                        try clear hcz85_3
                        try clear hcz85_4
                        try clear hcz87_0
                        try clear hcz87_1
                        try clear hcz87_2
                        try clear hcz87_3
                        try clear hcz87_4
                        try clear hcz91_0
                        try clear hcz91_1
                        try clear hcz91_2
                        try clear hcz91_3
                        try clear hcz91_4
                        try clear hcz93_0
                        try clear hcz93_1
                        try clear hcz93_2
                        try clear hcz93_3
                        try clear hcz93_4
                        try clear hfz15_0
                        try clear hfz15_1
                        try clear hfz15_2
                        try clear hfz15_3
                        try clear hfz15_4
                        try clear hfz22_0
                        try clear hfz22_1
                        try clear hfz22_2
                        try clear hfz22_3
                        try clear hfz22_4
                        try clear hfz27_0
                        try clear hfz27_1
                        try clear hfz27_2
                        try clear hfz27_3
                        try clear hfz27_4
                        try clear hfz28_0
                        try clear hfz28_1
                        try clear hfz28_2
                        try clear hfz28_3
                        try clear hfz28_4
                        try clear hfz31_0
                        try clear hfz31_1
                        try clear hfz31_2
                        try clear hfz31_3
                        try clear hfz31_4
                        try clear hfz32_0
                        try clear hfz32_1
                        try clear hfz32_2
                        try clear hfz32_3
                        try clear hfz32_4
                        try clear hfz48_0
                        try clear hfz48_1
                        try clear hfz48_2
                        try clear hfz48_3
                        try clear hfz48_4
                        try clear hfz49_0
                        try clear hfz49_1
                        try clear hfz49_2
                        try clear hfz49_3
                        try clear hfz49_4
                        try clear hfz52_0
                        try clear hfz52_1
                        try clear hfz52_2
                        try clear hfz52_3
                        try clear hfz52_4
                        try clear hfz53_0
                        try clear hfz53_1
                        try clear hfz53_2
                        try clear hfz53_3
                        try clear hfz53_4
                        try clear hfz60_0
                        try clear hfz60_1
                        try clear hfz60_2
                        try clear hfz60_3
                        try clear hfz60_4
                        try clear hfz62_0
                        try clear hfz62_1
                        try clear hfz62_2
                        try clear hfz62_3
                        try clear hfz62_4
                        try clear hfz69_0
                        try clear hfz69_1
                        try clear hfz69_2
                        try clear hfz69_3
                        try clear hfz69_4
                        try clear hfz71_0
                        try clear hfz71_1
                        try clear hfz71_2
                        try clear hfz71_3
                        try clear hfz71_4
                        try clear hfz79_0
                        try clear hfz79_1
                        try clear hfz79_2
                        try clear hfz79_3
                        try clear hfz79_4
                        try clear hfz85_0
                        try clear hfz85_1
                        try clear hfz85_2
                        try clear hfz85_3
                        try clear hfz85_4
                        try clear hfz87_0
                        try clear hfz87_1
                        try clear hfz87_2
                        try clear hfz87_3
                        try clear hfz87_4
                        try clear hfz91_0
                        try clear hfz91_1
                        try clear hfz91_2
                        try clear hfz91_3
                        try clear hfz91_4
                        try clear hfz93_0
                        try clear hfz93_1
                        try clear hfz93_2
                        try clear hfz93_3
                        try clear hfz93_4
                        try clear p2
                        obtain ⟨kq, x87_66, rfl, HA, HJ66, HO_217004, HO_229004, HO_252004, BK216, BK228, BK251, HB⟩ := hcut
                        have hl229004_66 := (Kd.R_reads' HO_229004.out).1
                        rw [hl229004_66] at HO_229004
                        (try simp only [hl229004_66])
                        (try simp only [hl229004_66] at BK216)
                        (try simp only [hl229004_66] at BK228)
                        (try simp only [hl229004_66] at BK251)
                        (try simp only [hl229004_66] at HO_217004)
                        (try simp only [hl229004_66] at HO_252004)
                        cases kq with
                        | zero => exact absurd HA.out (by simp [laws_FnExactRequestOf.j2])
                        | succ kj66 =>
                          have H := HA.out
                          clear HA
                          simp only [laws_FnExactRequestOf.j2] at H
                          by_cases c95 : x87_66 = true
                          · subst c95
                            have H1 : (some false) = some r := by rw [if_pos rfl] at H; exact H
                            clear H
                            have H := H1
                            clear H1
                            obtain rfl := Option.some.inj H
                            go_wp2
                            go_ret
                            exact ⟨by first | rfl | (simp [errW_none, errW_some] <;> rfl) | (simp [*, errW_none, errW_some] <;> rfl), by repeat (first | (with_reducible first | exact HB.out | apply below_alloc | apply pw_below_drewN | apply below_drew1 | refine below_set ?_ GE216.out | refine below_set ?_ GE228.out | refine below_set ?_ GE251.out) | exact HB.out)⟩
                          · replace c95 := Bool.eq_false_iff.mpr c95
                            subst c95
                            have H1 : ((laws_heldRequest.f kj66 t220 t221 t222 t223 t238 1).bind fun t253 => (if t253 < 0 then (some false) else (if t253 = t237 then (some true) else (some false)))) = some r := by rw [if_neg (show ¬ (false = true) by decide)] at H; exact H
                            clear H
                            have H := H1
                            clear H1
                            replace H := Option.bind_eq_some_iff.mp H
                            obtain ⟨t253, A960, H⟩ := H
                            replace H : (if t253 < 0 then (some false) else (if t253 = t237 then (some true) else (some false))) = some r := H
                            have A96 := Aside0.mk A960
                            clear A960
                            by_cases c97 : t253 < 0
                            · rw [if_pos c97] at H
                              have c97b0 : decide (t253 < 0) = true := decide_eq_true c97
                              clear c97
                              obtain rfl := Option.some.inj H
                              have hnb98 := NB228_216.out
                              have hnc98 := NB216_228.out
                              have hnb99 := NB228_251.out
                              have hnc99 := NB251_228.out
                              have hcz100_0 : wc.cell? ⟨gb228, 0, none⟩ = some (.string t220) := (blk_cell BK228.out 0).trans rfl
                              have hcz100_1 : wc.cell? ⟨gb228, 1, none⟩ = some (.string t221) := (blk_cell BK228.out 1).trans rfl
                              have hcz100_2 : wc.cell? ⟨gb228, 2, none⟩ = some (.string t222) := (blk_cell BK228.out 2).trans rfl
                              have hcz100_3 : wc.cell? ⟨gb228, 3, none⟩ = some (.string t223) := (blk_cell BK228.out 3).trans rfl
                              have hcz100_4 : wc.cell? ⟨gb228, 4, none⟩ = some (.slice Ao23 t238.length co23) := (blk_cell BK228.out 4).trans rfl
                              have hfz100_0 := blk_frozen BK228.out 0
                              have hfz100_1 := blk_frozen BK228.out 1
                              have hfz100_2 := blk_frozen BK228.out 2
                              have hfz100_3 := blk_frozen BK228.out 3
                              have hfz100_4 := blk_frozen BK228.out 4
                              go_wp2_with (first | ((with_reducible refine gate_callee (f := 31) rfl ?_); refine goesL_ (some 90) rfl rfl Tryd.func31 (by kernel_rfl) rfl #[.agg #[.string t220, .string t221, .string t222, .string t223, .slice Ao23 t238.length co23], .int .i64 1] rfl (by (try simp only [List.map_toArray, List.map_cons, List.map_nil]); first | done | rfl | (simp only [List.length_drop, List.length_take]; rfl)) ?_; (with_reducible refine (laws_heldRequest.calls kj66 t220 t221 t222 t223 _ _ t238 1 t253 _ ?side1 ?side2 A96.out).mono ?_); (case side1 => repeat (first | exact (Kd.R_reads' HO_229004.out).2.2 | (with_reducible refine Kd.C_alloc ?_ _) | (with_reducible refine Kd.C_drewN ?_ _) | (with_reducible refine Kd.C_drew ?_))); (case side2 => exact (Kd.R_reads' HO_229004.out).2.1); rintro e w101 ⟨rfl, hb⟩; refine ⟨_, rfl, ?_⟩; have n0_ := Aside0.mk (Kd.R_below (by (with_reducible repeat (first | apply Kd.R_alloc | apply Kd.R_drewN | apply Kd.R_drew)); exact HO_217004.out) hb); have n1_ := Aside0.mk (Kd.R_below (by (with_reducible repeat (first | apply Kd.R_alloc | apply Kd.R_drewN | apply Kd.R_drew)); exact HO_229004.out) hb); have n2_ := Aside0.mk (Kd.R_below (by (with_reducible repeat (first | apply Kd.R_alloc | apply Kd.R_drewN | apply Kd.R_drew)); exact HO_252004.out) hb); have n3_ := Aside0.mk (blk_below (g := gb216) (o := .cells #[.string t208, .string t209, .string t210, .string t211, .slice Ao16 t212.length co16] 44 (0, 0)) (by (with_reducible repeat (first | refine blk_drewN ?_ _ | refine blk_drew ?_ | refine blk_alloc ?_ _)); exact BK216.out) hb); have n4_ := Aside0.mk (blk_below (g := gb228) (o := .cells #[.string t220, .string t221, .string t222, .string t223, .slice Ao23 t238.length co23] 44 (0, 0)) (by (with_reducible repeat (first | refine blk_drewN ?_ _ | refine blk_drew ?_ | refine blk_alloc ?_ _)); exact BK228.out) hb); have n5_ := Aside0.mk (blk_below (g := gb251) (o := .cells #[.string t243, .string t244, .string t245, .string t246, .slice Ao80 t247.length co80] 44 (0, 0)) (by (with_reducible repeat (first | refine blk_drewN ?_ _ | refine blk_drew ?_ | refine blk_alloc ?_ _)); exact BK251.out) hb); have n6_ := Aside0.mk (below_step (by repeat (first | (with_reducible first | exact HB.out | apply below_alloc | apply pw_below_drewN | apply below_drew1 | refine below_set ?_ GE216.out | refine below_set ?_ GE228.out | refine below_set ?_ GE251.out) | exact HB.out)) hb); clear HO_217004; clear HO_229004; clear HO_252004; clear BK216; clear BK228; clear BK251; clear HB; have HO_217004 := n0_; have HO_229004 := n1_; have HO_252004 := n2_; have BK216 := n3_; have BK228 := n4_; have BK251 := n5_; have HB := n6_; clear n0_ n1_ n2_ n3_ n4_ n5_ n6_; (try clear hb); (try clear hb2); (try clear hk); (try clear hi)))
                              go_ret
                              exact ⟨by first | rfl | (simp [errW_none, errW_some] <;> rfl) | (simp [*, errW_none, errW_some] <;> rfl), by repeat (first | (with_reducible first | exact HB.out | apply below_alloc | apply pw_below_drewN | apply below_drew1 | refine below_set ?_ GE216.out | refine below_set ?_ GE228.out | refine below_set ?_ GE251.out) | exact HB.out)⟩
                            · rw [if_neg c97] at H
                              have c97b0 : decide (t253 < 0) = false := decide_eq_false c97
                              clear c97
                              by_cases c102 : t253 = t237
                              · rw [if_pos c102] at H
                                have c102b0 : (t253 == t237) = true := beq_iff_eq.mpr c102
                                have c102b1 : (t253 != t237) = false := bne_eq_false_iff_eq.mpr c102
                                clear c102
                                obtain rfl := Option.some.inj H
                                have hnb103 := NB228_216.out
                                have hnc103 := NB216_228.out
                                have hnb104 := NB228_251.out
                                have hnc104 := NB251_228.out
                                have hcz105_0 : wc.cell? ⟨gb228, 0, none⟩ = some (.string t220) := (blk_cell BK228.out 0).trans rfl
                                have hcz105_1 : wc.cell? ⟨gb228, 1, none⟩ = some (.string t221) := (blk_cell BK228.out 1).trans rfl
                                have hcz105_2 : wc.cell? ⟨gb228, 2, none⟩ = some (.string t222) := (blk_cell BK228.out 2).trans rfl
                                have hcz105_3 : wc.cell? ⟨gb228, 3, none⟩ = some (.string t223) := (blk_cell BK228.out 3).trans rfl
                                have hcz105_4 : wc.cell? ⟨gb228, 4, none⟩ = some (.slice Ao23 t238.length co23) := (blk_cell BK228.out 4).trans rfl
                                have hfz105_0 := blk_frozen BK228.out 0
                                have hfz105_1 := blk_frozen BK228.out 1
                                have hfz105_2 := blk_frozen BK228.out 2
                                have hfz105_3 := blk_frozen BK228.out 3
                                have hfz105_4 := blk_frozen BK228.out 4
                                go_wp2_with (first | ((with_reducible refine gate_callee (f := 31) rfl ?_); refine goesL_ (some 90) rfl rfl Tryd.func31 (by kernel_rfl) rfl #[.agg #[.string t220, .string t221, .string t222, .string t223, .slice Ao23 t238.length co23], .int .i64 1] rfl (by (try simp only [List.map_toArray, List.map_cons, List.map_nil]); first | done | rfl | (simp only [List.length_drop, List.length_take]; rfl)) ?_; (with_reducible refine (laws_heldRequest.calls kj66 t220 t221 t222 t223 _ _ t238 1 t253 _ ?side1 ?side2 A96.out).mono ?_); (case side1 => repeat (first | exact (Kd.R_reads' HO_229004.out).2.2 | (with_reducible refine Kd.C_alloc ?_ _) | (with_reducible refine Kd.C_drewN ?_ _) | (with_reducible refine Kd.C_drew ?_))); (case side2 => exact (Kd.R_reads' HO_229004.out).2.1); rintro e w106 ⟨rfl, hb⟩; refine ⟨_, rfl, ?_⟩; have n0_ := Aside0.mk (Kd.R_below (by (with_reducible repeat (first | apply Kd.R_alloc | apply Kd.R_drewN | apply Kd.R_drew)); exact HO_217004.out) hb); have n1_ := Aside0.mk (Kd.R_below (by (with_reducible repeat (first | apply Kd.R_alloc | apply Kd.R_drewN | apply Kd.R_drew)); exact HO_229004.out) hb); have n2_ := Aside0.mk (Kd.R_below (by (with_reducible repeat (first | apply Kd.R_alloc | apply Kd.R_drewN | apply Kd.R_drew)); exact HO_252004.out) hb); have n3_ := Aside0.mk (blk_below (g := gb216) (o := .cells #[.string t208, .string t209, .string t210, .string t211, .slice Ao16 t212.length co16] 44 (0, 0)) (by (with_reducible repeat (first | refine blk_drewN ?_ _ | refine blk_drew ?_ | refine blk_alloc ?_ _)); exact BK216.out) hb); have n4_ := Aside0.mk (blk_below (g := gb228) (o := .cells #[.string t220, .string t221, .string t222, .string t223, .slice Ao23 t238.length co23] 44 (0, 0)) (by (with_reducible repeat (first | refine blk_drewN ?_ _ | refine blk_drew ?_ | refine blk_alloc ?_ _)); exact BK228.out) hb); have n5_ := Aside0.mk (blk_below (g := gb251) (o := .cells #[.string t243, .string t244, .string t245, .string t246, .slice Ao80 t247.length co80] 44 (0, 0)) (by (with_reducible repeat (first | refine blk_drewN ?_ _ | refine blk_drew ?_ | refine blk_alloc ?_ _)); exact BK251.out) hb); have n6_ := Aside0.mk (below_step (by repeat (first | (with_reducible first | exact HB.out | apply below_alloc | apply pw_below_drewN | apply below_drew1 | refine below_set ?_ GE216.out | refine below_set ?_ GE228.out | refine below_set ?_ GE251.out) | exact HB.out)) hb); clear HO_217004; clear HO_229004; clear HO_252004; clear BK216; clear BK228; clear BK251; clear HB; have HO_217004 := n0_; have HO_229004 := n1_; have HO_252004 := n2_; have BK216 := n3_; have BK228 := n4_; have BK251 := n5_; have HB := n6_; clear n0_ n1_ n2_ n3_ n4_ n5_ n6_; (try clear hb); (try clear hb2); (try clear hk); (try clear hi)))
                                go_ret
                                exact ⟨by first | rfl | (simp [errW_none, errW_some] <;> rfl) | (simp [*, errW_none, errW_some] <;> rfl), by repeat (first | (with_reducible first | exact HB.out | apply below_alloc | apply pw_below_drewN | apply below_drew1 | refine below_set ?_ GE216.out | refine below_set ?_ GE228.out | refine below_set ?_ GE251.out) | exact HB.out)⟩
                              · rw [if_neg c102] at H
                                have c102b0 : (t253 == t237) = false := beq_eq_false_iff_ne.mpr c102
                                have c102b1 : (t253 != t237) = true := bne_iff_ne.mpr c102
                                obtain rfl := Option.some.inj H
                                have hnb107 := NB228_216.out
                                have hnc107 := NB216_228.out
                                have hnb108 := NB228_251.out
                                have hnc108 := NB251_228.out
                                have hcz109_0 : wc.cell? ⟨gb228, 0, none⟩ = some (.string t220) := (blk_cell BK228.out 0).trans rfl
                                have hcz109_1 : wc.cell? ⟨gb228, 1, none⟩ = some (.string t221) := (blk_cell BK228.out 1).trans rfl
                                have hcz109_2 : wc.cell? ⟨gb228, 2, none⟩ = some (.string t222) := (blk_cell BK228.out 2).trans rfl
                                have hcz109_3 : wc.cell? ⟨gb228, 3, none⟩ = some (.string t223) := (blk_cell BK228.out 3).trans rfl
                                have hcz109_4 : wc.cell? ⟨gb228, 4, none⟩ = some (.slice Ao23 t238.length co23) := (blk_cell BK228.out 4).trans rfl
                                have hfz109_0 := blk_frozen BK228.out 0
                                have hfz109_1 := blk_frozen BK228.out 1
                                have hfz109_2 := blk_frozen BK228.out 2
                                have hfz109_3 := blk_frozen BK228.out 3
                                have hfz109_4 := blk_frozen BK228.out 4
                                go_wp2_with (first | ((with_reducible refine gate_callee (f := 31) rfl ?_); refine goesL_ (some 90) rfl rfl Tryd.func31 (by kernel_rfl) rfl #[.agg #[.string t220, .string t221, .string t222, .string t223, .slice Ao23 t238.length co23], .int .i64 1] rfl (by (try simp only [List.map_toArray, List.map_cons, List.map_nil]); first | done | rfl | (simp only [List.length_drop, List.length_take]; rfl)) ?_; (with_reducible refine (laws_heldRequest.calls kj66 t220 t221 t222 t223 _ _ t238 1 t253 _ ?side1 ?side2 A96.out).mono ?_); (case side1 => repeat (first | exact (Kd.R_reads' HO_229004.out).2.2 | (with_reducible refine Kd.C_alloc ?_ _) | (with_reducible refine Kd.C_drewN ?_ _) | (with_reducible refine Kd.C_drew ?_))); (case side2 => exact (Kd.R_reads' HO_229004.out).2.1); rintro e w110 ⟨rfl, hb⟩; refine ⟨_, rfl, ?_⟩; have n0_ := Aside0.mk (Kd.R_below (by (with_reducible repeat (first | apply Kd.R_alloc | apply Kd.R_drewN | apply Kd.R_drew)); exact HO_217004.out) hb); have n1_ := Aside0.mk (Kd.R_below (by (with_reducible repeat (first | apply Kd.R_alloc | apply Kd.R_drewN | apply Kd.R_drew)); exact HO_229004.out) hb); have n2_ := Aside0.mk (Kd.R_below (by (with_reducible repeat (first | apply Kd.R_alloc | apply Kd.R_drewN | apply Kd.R_drew)); exact HO_252004.out) hb); have n3_ := Aside0.mk (blk_below (g := gb216) (o := .cells #[.string t208, .string t209, .string t210, .string t211, .slice Ao16 t212.length co16] 44 (0, 0)) (by (with_reducible repeat (first | refine blk_drewN ?_ _ | refine blk_drew ?_ | refine blk_alloc ?_ _)); exact BK216.out) hb); have n4_ := Aside0.mk (blk_below (g := gb228) (o := .cells #[.string t220, .string t221, .string t222, .string t223, .slice Ao23 t238.length co23] 44 (0, 0)) (by (with_reducible repeat (first | refine blk_drewN ?_ _ | refine blk_drew ?_ | refine blk_alloc ?_ _)); exact BK228.out) hb); have n5_ := Aside0.mk (blk_below (g := gb251) (o := .cells #[.string t243, .string t244, .string t245, .string t246, .slice Ao80 t247.length co80] 44 (0, 0)) (by (with_reducible repeat (first | refine blk_drewN ?_ _ | refine blk_drew ?_ | refine blk_alloc ?_ _)); exact BK251.out) hb); have n6_ := Aside0.mk (below_step (by repeat (first | (with_reducible first | exact HB.out | apply below_alloc | apply pw_below_drewN | apply below_drew1 | refine below_set ?_ GE216.out | refine below_set ?_ GE228.out | refine below_set ?_ GE251.out) | exact HB.out)) hb); clear HO_217004; clear HO_229004; clear HO_252004; clear BK216; clear BK228; clear BK251; clear HB; have HO_217004 := n0_; have HO_229004 := n1_; have HO_252004 := n2_; have BK216 := n3_; have BK228 := n4_; have BK251 := n5_; have HB := n6_; clear n0_ n1_ n2_ n3_ n4_ n5_ n6_; (try clear hb); (try clear hb2); (try clear hk); (try clear hi)))
                                go_ret
                                exact ⟨by first | rfl | (simp [errW_none, errW_some] <;> rfl) | (simp [*, errW_none, errW_some] <;> rfl), by repeat (first | (with_reducible first | exact HB.out | apply below_alloc | apply pw_below_drewN | apply below_drew1 | refine below_set ?_ GE216.out | refine below_set ?_ GE228.out | refine below_set ?_ GE251.out) | exact HB.out)⟩
                    · rw [if_neg c64] at H
                      have c64b0 : (t239 == t237) = false := beq_eq_false_iff_ne.mpr c64
                      have c64b1 : (t239 != t237) = true := bne_iff_ne.mpr c64
                      obtain rfl := Option.some.inj H
                      have hnb111 := NB228_216.out
                      have hnc111 := NB216_228.out
                      have hcz112_0 : wc.cell? ⟨gb228, 0, none⟩ = some (.string t220) := (blk_cell BK228.out 0).trans rfl
                      have hcz112_1 : wc.cell? ⟨gb228, 1, none⟩ = some (.string t221) := (blk_cell BK228.out 1).trans rfl
                      have hcz112_2 : wc.cell? ⟨gb228, 2, none⟩ = some (.string t222) := (blk_cell BK228.out 2).trans rfl
                      have hcz112_3 : wc.cell? ⟨gb228, 3, none⟩ = some (.string t223) := (blk_cell BK228.out 3).trans rfl
                      have hcz112_4 : wc.cell? ⟨gb228, 4, none⟩ = some (.slice Ao23 t224.length co23) := (blk_cell BK228.out 4).trans rfl
                      have hfz112_0 := blk_frozen BK228.out 0
                      have hfz112_1 := blk_frozen BK228.out 1
                      have hfz112_2 := blk_frozen BK228.out 2
                      have hfz112_3 := blk_frozen BK228.out 3
                      have hfz112_4 := blk_frozen BK228.out 4
                      go_wp2_with (first | ((with_reducible refine gate_callee (f := 26) rfl ?_); refine goesL_ (some 64) rfl rfl Tryd.func26 (by kernel_rfl) rfl #[.agg #[.string t220, .string t221, .string t222, .string t223, .slice Ao23 t224.length co23], .int .i64 1] rfl (by (try simp only [List.map_toArray, List.map_cons, List.map_nil]); first | done | rfl | (simp only [List.length_drop, List.length_take]; rfl)) ?_; (with_reducible refine (laws_markRequest.calls kj38 t220 t221 t222 t223 (fun k_ => some k_ = (.slice Ao23 t224.length co23 : Value).ownBlock) (.slice Ao23 t224.length co23) t224 1 t237 t238 w _ ?side1 ?side2 A56.out).mono ?_); (case side1 => repeat (first | (with_reducible first | exact HB.out | apply below_alloc | apply pw_below_drewN | apply below_drew1 | refine below_set ?_ GE216.out | refine below_set ?_ GE228.out) | exact HB.out)); (case side2 => exact Kd.R_tight rfl HO_229004.out); rintro e w113 ⟨rfl, hy0, hb, hkp⟩; refine ⟨_, rfl, ?_⟩; have n0_ := Aside0.mk (Kd.R_mono (ok' := fun k_ => some k_ ≠ (.slice Ao23 t224.length co23 : Value).ownBlock) (Kd.R_keptB (HO_217004.out) hkp (fun k_ hk_ hs_ => (hk_) hs_)) (fun k_ hk_ => hk_.1)); have n1_ := Aside0.mk (Kd.R_reok rfl hy0 (fun k_ e_ => HO_229004.out.1 k_ e_)); have n2_ := Aside0.mk (blk_kept (by (with_reducible repeat (first | refine blk_drewN ?_ _ | refine blk_drew ?_ | refine blk_alloc ?_ _)); exact BK216.out) hkp (fun hs_ => (fun e_ => (Kd.R_ne HO_229004.out BK216.out (by decide)) e_) hs_)); have n3_ := Aside0.mk (blk_kept (by (with_reducible repeat (first | refine blk_drewN ?_ _ | refine blk_drew ?_ | refine blk_alloc ?_ _)); exact BK228.out) hkp (fun hs_ => (fun e_ => (Kd.R_ne HO_229004.out BK228.out (by decide)) e_) hs_)); have n4_ := Aside0.mk (hb); clear HO_217004; clear HO_229004; clear BK216; clear BK228; clear HB; have HO_217004 := n0_; have HO_229004 := n1_; have BK216 := n2_; have BK228 := n3_; have HB := n4_; clear n0_ n1_ n2_ n3_ n4_; (try clear hb); (try clear hkp); (try clear hy0); have hcz114_0 : w113.cell? ⟨gb228, 0, none⟩ = some (.string t220) := (blk_cell BK228.out 0).trans rfl; have hcz114_1 : w113.cell? ⟨gb228, 1, none⟩ = some (.string t221) := (blk_cell BK228.out 1).trans rfl; have hcz114_2 : w113.cell? ⟨gb228, 2, none⟩ = some (.string t222) := (blk_cell BK228.out 2).trans rfl; have hcz114_3 : w113.cell? ⟨gb228, 3, none⟩ = some (.string t223) := (blk_cell BK228.out 3).trans rfl; have hcz114_4 : w113.cell? ⟨gb228, 4, none⟩ = some (.slice Ao23 t224.length co23) := (blk_cell BK228.out 4).trans rfl; have hfz114_0 := blk_frozen BK228.out 0; have hfz114_1 := blk_frozen BK228.out 1; have hfz114_2 := blk_frozen BK228.out 2; have hfz114_3 := blk_frozen BK228.out 3; have hfz114_4 := blk_frozen BK228.out 4) | ((with_reducible refine gate_callee (f := 31) rfl ?_); refine goesL_ (some 67) rfl rfl Tryd.func31 (by kernel_rfl) rfl #[.agg #[.string t220, .string t221, .string t222, .string t223, .slice Ao23 t238.length co23], .int .i64 1] rfl (by (try simp only [List.map_toArray, List.map_cons, List.map_nil]); first | done | (rw [show t238.length = t224.length from (Kd.R_reads' HO_229004.out).1.symm] <;> rfl) | rfl | (simp only [List.length_drop, List.length_take]; rfl)) ?_; (with_reducible refine (laws_heldRequest.calls kj38 t220 t221 t222 t223 _ _ t238 1 t239 _ ?side1 ?side2 A57.out).mono ?_); (case side1 => repeat (first | exact (Kd.R_reads' HO_229004.out).2.2 | (with_reducible refine Kd.C_alloc ?_ _) | (with_reducible refine Kd.C_drewN ?_ _) | (with_reducible refine Kd.C_drew ?_))); (case side2 => rw [show t238.length = t224.length from (Kd.R_reads' HO_229004.out).1.symm]; exact (Kd.R_reads' HO_229004.out).2.1); rintro e w115 ⟨rfl, hb⟩; refine ⟨_, rfl, ?_⟩; have n0_ := Aside0.mk (Kd.R_below (by (with_reducible repeat (first | apply Kd.R_alloc | apply Kd.R_drewN | apply Kd.R_drew)); exact HO_217004.out) hb); have n1_ := Aside0.mk (Kd.R_below (by (with_reducible repeat (first | apply Kd.R_alloc | apply Kd.R_drewN | apply Kd.R_drew)); exact HO_229004.out) hb); have n2_ := Aside0.mk (blk_below (g := gb216) (o := .cells #[.string t208, .string t209, .string t210, .string t211, .slice Ao16 t212.length co16] 44 (0, 0)) (by (with_reducible repeat (first | refine blk_drewN ?_ _ | refine blk_drew ?_ | refine blk_alloc ?_ _)); exact BK216.out) hb); have n3_ := Aside0.mk (blk_below (g := gb228) (o := .cells #[.string t220, .string t221, .string t222, .string t223, .slice Ao23 t224.length co23] 44 (0, 0)) (by (with_reducible repeat (first | refine blk_drewN ?_ _ | refine blk_drew ?_ | refine blk_alloc ?_ _)); exact BK228.out) hb); have n4_ := Aside0.mk (below_step (by repeat (first | (with_reducible first | exact HB.out | apply below_alloc | apply pw_below_drewN | apply below_drew1 | refine below_set ?_ GE216.out | refine below_set ?_ GE228.out) | exact HB.out)) hb); clear HO_217004; clear HO_229004; clear BK216; clear BK228; clear HB; have HO_217004 := n0_; have HO_229004 := n1_; have BK216 := n2_; have BK228 := n3_; have HB := n4_; clear n0_ n1_ n2_ n3_ n4_; (try clear hb); (try clear hb2); (try clear hk); (try clear hi)))
                      go_ret
                      exact ⟨by first | rfl | (simp [errW_none, errW_some] <;> rfl) | (simp [*, errW_none, errW_some] <;> rfl), by repeat (first | (with_reducible first | exact HB.out | apply below_alloc | apply pw_below_drewN | apply below_drew1 | refine below_set ?_ GE216.out | refine below_set ?_ GE228.out) | exact HB.out)⟩
          · replace c37 := Bool.eq_false_iff.mpr c37
            subst c37
            have H1 : (some false) = some r := by rw [if_neg (show ¬ (false = true) by decide)] at H; exact H
            clear H
            have H := H1
            clear H1
            obtain rfl := Option.some.inj H
            go_wp2_with (first | ((with_reducible refine gate_callee (f := 18) rfl ?_); refine goesL_ (some 43) rfl rfl Tryd.func18 (by kernel_rfl) rfl #[.slice A0 l0.length c0] rfl (by (try simp only [List.map_toArray, List.map_cons, List.map_nil]); first | done | rfl | (simp only [List.length_drop, List.length_take]; rfl)) ?_; (with_reducible refine (laws_toFieldS.calls kj8 _ _ l0 t230 _ ?side1 ?side2 A35.out).mono ?_); (case side1 => repeat (first | exact (Kd.C_below HR0.out HB.out) | (with_reducible refine Kd.C_alloc ?_ _) | (with_reducible refine Kd.C_drewN ?_ _) | (with_reducible refine Kd.C_drew ?_))); (case side2 => exact HC0.out); rintro e w116 ⟨v231, rfl, ho0, hb⟩; refine ⟨_, rfl, ?_⟩; have n0_ := Aside0.mk (Kd.R_elder' (by (with_reducible repeat (first | apply Kd.R_alloc | apply Kd.R_drewN | apply Kd.R_drew)); exact HO_6.out) (Kd.R_base ho0) hb); have n1_ := Aside0.mk (Kd.R_elder' (by (with_reducible repeat (first | apply Kd.R_alloc | apply Kd.R_drewN | apply Kd.R_drew)); exact HO_217004.out) (Kd.R_base ho0) hb); have n2_ := Aside0.mk (Kd.R_elder' (by (with_reducible repeat (first | apply Kd.R_alloc | apply Kd.R_drewN | apply Kd.R_drew)); exact HO_229004.out) (Kd.R_base ho0) hb); have n3_ := Aside0.mk (Kd.R_lower (Kd.R_new' (Kd.R_new' (Kd.R_new' ho0 (Kd.R_lt (by (with_reducible repeat (first | apply Kd.R_alloc | apply Kd.R_drewN | apply Kd.R_drew)); exact HO_6.out))) (Kd.R_lt (by (with_reducible repeat (first | apply Kd.R_alloc | apply Kd.R_drewN | apply Kd.R_drew)); exact HO_217004.out))) (Kd.R_lt (by (with_reducible repeat (first | apply Kd.R_alloc | apply Kd.R_drewN | apply Kd.R_drew)); exact HO_229004.out))) (below_size (by repeat (first | (with_reducible first | exact HB.out | apply below_alloc | apply pw_below_drewN | apply below_drew1 | refine below_set ?_ GE216.out | refine below_set ?_ GE228.out) | exact HB.out)))); have n4_ := Aside0.mk (blk_below (g := gb216) (o := .cells #[.string t208, .string t209, .string t210, .string t211, .slice Ao16 t212.length co16] 44 (0, 0)) (by (with_reducible repeat (first | refine blk_drewN ?_ _ | refine blk_drew ?_ | refine blk_alloc ?_ _)); exact BK216.out) hb); have n5_ := Aside0.mk (blk_below (g := gb228) (o := .cells #[.string t220, .string t221, .string t222, .string t223, .slice Ao23 t224.length co23] 44 (0, 0)) (by (with_reducible repeat (first | refine blk_drewN ?_ _ | refine blk_drew ?_ | refine blk_alloc ?_ _)); exact BK228.out) hb); have n6_ := Aside0.mk (below_step (by repeat (first | (with_reducible first | exact HB.out | apply below_alloc | apply pw_below_drewN | apply below_drew1 | refine below_set ?_ GE216.out | refine below_set ?_ GE228.out) | exact HB.out)) hb); clear HO_6; clear HO_217004; clear HO_229004; clear BK216; clear BK228; clear HB; have HO_6 := n0_; have HO_217004 := n1_; have HO_229004 := n2_; have HO232 := n3_; have BK216 := n4_; have BK228 := n5_; have HB := n6_; clear n0_ n1_ n2_ n3_ n4_ n5_ n6_; (try clear hb); (try clear hb2); (try clear hk); (try clear hi); (try clear ho0); obtain ⟨Ao117, co117, eo117⟩ := Kd.R_slice HO232.out; subst eo117) | ((with_reducible refine gate_callee (f := 20) rfl ?_); refine goesL_ (some 44) rfl rfl Tryd.func20 (by kernel_rfl) rfl #[.slice Ao18 t217.length co18, .slice Ao117 t230.length co117] rfl (by (try simp only [List.map_toArray, List.map_cons, List.map_nil]); first | done | rfl | (simp only [List.length_drop, List.length_take]; rfl)) ?_; (with_reducible refine (laws_eqFieldS.calls kj8 _ _ t217 _ _ t230 false _ ?side1 ?side2 ?side3 ?side4 A36.out).mono ?_); (case side1 => repeat (first | exact (Kd.R_reads' HO_6.out).2.2 | (with_reducible refine Kd.C_alloc ?_ _) | (with_reducible refine Kd.C_drewN ?_ _) | (with_reducible refine Kd.C_drew ?_))); (case side2 => exact (Kd.R_reads' HO_6.out).2.1); (case side3 => repeat (first | exact (Kd.R_reads' HO232.out).2.2 | (with_reducible refine Kd.C_alloc ?_ _) | (with_reducible refine Kd.C_drewN ?_ _) | (with_reducible refine Kd.C_drew ?_))); (case side4 => exact (Kd.R_reads' HO232.out).2.1); rintro e w118 ⟨rfl, hb⟩; refine ⟨_, rfl, ?_⟩; have n0_ := Aside0.mk (Kd.R_below (by (with_reducible repeat (first | apply Kd.R_alloc | apply Kd.R_drewN | apply Kd.R_drew)); exact HO_6.out) hb); have n1_ := Aside0.mk (Kd.R_below (by (with_reducible repeat (first | apply Kd.R_alloc | apply Kd.R_drewN | apply Kd.R_drew)); exact HO_217004.out) hb); have n2_ := Aside0.mk (Kd.R_below (by (with_reducible repeat (first | apply Kd.R_alloc | apply Kd.R_drewN | apply Kd.R_drew)); exact HO_229004.out) hb); have n3_ := Aside0.mk (Kd.R_below (by (with_reducible repeat (first | apply Kd.R_alloc | apply Kd.R_drewN | apply Kd.R_drew)); exact HO232.out) hb); have n4_ := Aside0.mk (blk_below (g := gb216) (o := .cells #[.string t208, .string t209, .string t210, .string t211, .slice Ao16 t212.length co16] 44 (0, 0)) (by (with_reducible repeat (first | refine blk_drewN ?_ _ | refine blk_drew ?_ | refine blk_alloc ?_ _)); exact BK216.out) hb); have n5_ := Aside0.mk (blk_below (g := gb228) (o := .cells #[.string t220, .string t221, .string t222, .string t223, .slice Ao23 t224.length co23] 44 (0, 0)) (by (with_reducible repeat (first | refine blk_drewN ?_ _ | refine blk_drew ?_ | refine blk_alloc ?_ _)); exact BK228.out) hb); have n6_ := Aside0.mk (below_step (by repeat (first | (with_reducible first | exact HB.out | apply below_alloc | apply pw_below_drewN | apply below_drew1 | refine below_set ?_ GE216.out | refine below_set ?_ GE228.out) | exact HB.out)) hb); clear HO_6; clear HO_217004; clear HO_229004; clear HO232; clear BK216; clear BK228; clear HB; have HO_6 := n0_; have HO_217004 := n1_; have HO_229004 := n2_; have HO232 := n3_; have BK216 := n4_; have BK228 := n5_; have HB := n6_; clear n0_ n1_ n2_ n3_ n4_ n5_ n6_; (try clear hb); (try clear hb2); (try clear hk); (try clear hi)))
            go_ret
            exact ⟨by first | rfl | (simp [errW_none, errW_some] <;> rfl) | (simp [*, errW_none, errW_some] <;> rfl), by repeat (first | (with_reducible first | exact HB.out | apply below_alloc | apply pw_below_drewN | apply below_drew1 | refine below_set ?_ GE216.out | refine below_set ?_ GE228.out) | exact HB.out)⟩

end Go.Proofs.YtkcimmlaoipdkaaDoor.PFnExactRequestOf
