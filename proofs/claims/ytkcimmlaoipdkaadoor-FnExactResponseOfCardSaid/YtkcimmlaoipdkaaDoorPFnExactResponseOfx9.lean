-- Written by a program of this repo (xprint.py) out of the translation; Lean checks it.
import Derived.Test.YtkcimmlaoipdkaaDoorPFnExactResponseOfx0
import Derived.Test.YtkcimmlaoipdkaaDoorPFnExactResponseOfx1
import Derived.Test.YtkcimmlaoipdkaaDoorPFnExactResponseOfx2
import Derived.Test.YtkcimmlaoipdkaaDoorPFnExactResponseOfx5
import Derived.Test.YtkcimmlaoipdkaaDoorPFnExactResponseOfx7
import Derived.Test.YtkcimmlaoipdkaaDoorPFnExactResponseOfx8
namespace Go.Proofs.YtkcimmlaoipdkaaDoor.PFnExactResponseOf
open Go.RowKit Go.Proofs.YtkcimmlaoipdkaaDoorW.PrintWords Go.Proofs.YtkcimmlaoipdkaaDoorW.PrintLast Go.Proofs.YtkcimmlaoipdkaaDoorW.PrintMore
attribute [local go_sem] max2_int min2_int max_two min_two max_three min_three max_four min_four   -- for this text's walks alone
set_option linter.unusedVariables false
set_option linter.unusedSimpArgs false

/-! ### laws_FnExactResponseOf: function 10 -/
mutual
def laws_FnExactResponseOf.j0 : Nat → List (S77) → Int → List (S78) → Int → Bool → Int → List (S78) → Int → List (S78) → Option (Bool)
  | 0, _, _, _, _, _, _, _, _, _ => none
  | k + 1, x0, x5, x6, x8, x40, x199000, x199001, x208000, x208001 => if x40 = true then (some false) else ((laws_toFieldS.f k x0).bind fun t209 => ((laws_eqFieldS.f k x6 t209).bind fun t212 => (if t212 = true then ((laws_markFieldS.f k x6 1).bind fun bt213 => (if bt213.1 < 0 then (laws_FnExactResponseOf.j1 k x0 x5 true x199000 x199001 x208000 x208001) else ((laws_eqResponse.f k x208000 x208001 x199000 x199001).bind fun t215 => (if t215 = true then (laws_FnExactResponseOf.j1 k x0 x5 (x8 != x5) x199000 x199001 x208000 x208001) else (laws_FnExactResponseOf.j1 k x0 x5 true x199000 x199001 x208000 x208001))))) else (some false))))
def laws_FnExactResponseOf.j1 : Nat → List (S77) → Int → Bool → Int → List (S78) → Int → List (S78) → Option (Bool)
  | 0, _, _, _, _, _, _, _ => none
  | k + 1, x0, x5, x61, x199000, x199001, x208000, x208001 => if x61 = true then (some false) else ((laws_markResponse.f k x208000 x208001 1).bind fun bt216 => ((laws_heldResponse.f k x208000 bt216.2 1).bind fun t218 => (if t218 < 0 then (some false) else (if t218 = bt216.1 then ((laws_toFieldS.f k x0).bind fun t219 => ((impl_ResponseOf.f k t219).bind fun bt222 => ((laws_eqResponse.f k bt222.1 bt222.2.1 x199000 x199001).bind fun t228 => (if t228 = true then (laws_FnExactResponseOf.j2 k bt216.1 (bt222.2.2 != x5) x208000 bt216.2) else (laws_FnExactResponseOf.j2 k bt216.1 true x208000 bt216.2))))) else (some false)))))
def laws_FnExactResponseOf.j2 : Nat → Int → Bool → Int → List (S78) → Option (Bool)
  | 0, _, _, _, _ => none
  | k + 1, x10, x87, x208000, x208001 => if x87 = true then (some false) else ((laws_heldResponse.f k x208000 x208001 1).bind fun t229 => (if t229 < 0 then (some false) else (if t229 = x10 then (some true) else (some false))))
end
def laws_FnExactResponseOf.f (k : Nat) (l0 : List (S77)) : Option (Bool) := (laws_szFieldS.f k l0 1048576).bind fun t189 => (if t189 < 0 then (some true) else ((laws_toFieldS.f k l0).bind fun t190 => ((spec_ResponseOf.f k t190).bind fun bt193 => ((laws_toFieldS.f k l0).bind fun t199 => ((impl_ResponseOf.f k t199).bind fun bt202 => ((laws_eqResponse.f k bt202.1 bt202.2.1 bt193.1 bt193.2.1).bind fun t208 => (if t208 = true then (laws_FnExactResponseOf.j0 k l0 bt193.2.2 t199 bt202.2.2 (bt202.2.2 != bt193.2.2) bt193.1 bt193.2.1 bt202.1 bt202.2.1) else (laws_FnExactResponseOf.j0 k l0 bt193.2.2 t199 bt202.2.2 true bt193.1 bt193.2.1 bt202.1 bt202.2.1))))))))
theorem laws_FnExactResponseOf.mono_l : ∀ k, (∀ y0 y1 y2 y3 y4 y5 y6 y7 y8, LeO (laws_FnExactResponseOf.j0 k y0 y1 y2 y3 y4 y5 y6 y7 y8) (laws_FnExactResponseOf.j0 (k + 1) y0 y1 y2 y3 y4 y5 y6 y7 y8)) ∧ (∀ y0 y1 y2 y3 y4 y5 y6, LeO (laws_FnExactResponseOf.j1 k y0 y1 y2 y3 y4 y5 y6) (laws_FnExactResponseOf.j1 (k + 1) y0 y1 y2 y3 y4 y5 y6)) ∧ (∀ y0 y1 y2 y3, LeO (laws_FnExactResponseOf.j2 k y0 y1 y2 y3) (laws_FnExactResponseOf.j2 (k + 1) y0 y1 y2 y3))
  | 0 => ⟨fun _ _ _ _ _ _ _ _ _ r h => by simp [laws_FnExactResponseOf.j0] at h, fun _ _ _ _ _ _ _ r h => by simp [laws_FnExactResponseOf.j1] at h, fun _ _ _ _ r h => by simp [laws_FnExactResponseOf.j2] at h⟩
  | k + 1 => by
    obtain ⟨ih0, ih1, ih2⟩ := laws_FnExactResponseOf.mono_l k
    refine ⟨?_, ?_, ?_⟩
    · intro y0 y1 y2 y3 y4 y5 y6 y7 y8
      unfold laws_FnExactResponseOf.j0
      repeat' first
      | (with_reducible exact ih0 _ _ _ _ _ _ _ _ _)
      | (with_reducible exact ih1 _ _ _ _ _ _ _)
      | (with_reducible exact ih2 _ _ _ _)
      | (with_reducible exact impl_ResponseOf.mono _ _)
      | (with_reducible exact laws_eqFieldS.mono _ _ _)
      | (with_reducible exact laws_eqResponse.mono _ _ _ _ _)
      | (with_reducible exact laws_heldResponse.mono _ _ _ _)
      | (with_reducible exact laws_markFieldS.mono _ _ _)
      | (with_reducible exact laws_markResponse.mono _ _ _ _)
      | (with_reducible exact laws_szFieldS.mono _ _ _)
      | (with_reducible exact laws_toFieldS.mono _ _)
      | (with_reducible exact spec_ResponseOf.mono _ _)
      | (with_reducible exact LeO.refl _)
      | (with_reducible exact LeO.none _)
      | (with_reducible refine LeO.ite ?_ ?_)
      | (with_reducible refine LeO.bind ?_ (fun _ => ?_))
      | exact ih0 _ _ _ _ _ _ _ _ _
      | exact ih1 _ _ _ _ _ _ _
      | exact ih2 _ _ _ _
      | exact impl_ResponseOf.mono _ _
      | exact laws_eqFieldS.mono _ _ _
      | exact laws_eqResponse.mono _ _ _ _ _
      | exact laws_heldResponse.mono _ _ _ _
      | exact laws_markFieldS.mono _ _ _
      | exact laws_markResponse.mono _ _ _ _
      | exact laws_szFieldS.mono _ _ _
      | exact laws_toFieldS.mono _ _
      | exact spec_ResponseOf.mono _ _
      | exact LeO.none _
      | refine LeO.ite ?_ ?_
      | refine LeO.bind ?_ (fun _ => ?_)
    · intro y0 y1 y2 y3 y4 y5 y6
      unfold laws_FnExactResponseOf.j1
      repeat' first
      | (with_reducible exact ih0 _ _ _ _ _ _ _ _ _)
      | (with_reducible exact ih1 _ _ _ _ _ _ _)
      | (with_reducible exact ih2 _ _ _ _)
      | (with_reducible exact impl_ResponseOf.mono _ _)
      | (with_reducible exact laws_eqFieldS.mono _ _ _)
      | (with_reducible exact laws_eqResponse.mono _ _ _ _ _)
      | (with_reducible exact laws_heldResponse.mono _ _ _ _)
      | (with_reducible exact laws_markFieldS.mono _ _ _)
      | (with_reducible exact laws_markResponse.mono _ _ _ _)
      | (with_reducible exact laws_szFieldS.mono _ _ _)
      | (with_reducible exact laws_toFieldS.mono _ _)
      | (with_reducible exact spec_ResponseOf.mono _ _)
      | (with_reducible exact LeO.refl _)
      | (with_reducible exact LeO.none _)
      | (with_reducible refine LeO.ite ?_ ?_)
      | (with_reducible refine LeO.bind ?_ (fun _ => ?_))
      | exact ih0 _ _ _ _ _ _ _ _ _
      | exact ih1 _ _ _ _ _ _ _
      | exact ih2 _ _ _ _
      | exact impl_ResponseOf.mono _ _
      | exact laws_eqFieldS.mono _ _ _
      | exact laws_eqResponse.mono _ _ _ _ _
      | exact laws_heldResponse.mono _ _ _ _
      | exact laws_markFieldS.mono _ _ _
      | exact laws_markResponse.mono _ _ _ _
      | exact laws_szFieldS.mono _ _ _
      | exact laws_toFieldS.mono _ _
      | exact spec_ResponseOf.mono _ _
      | exact LeO.none _
      | refine LeO.ite ?_ ?_
      | refine LeO.bind ?_ (fun _ => ?_)
    · intro y0 y1 y2 y3
      unfold laws_FnExactResponseOf.j2
      repeat' first
      | (with_reducible exact ih0 _ _ _ _ _ _ _ _ _)
      | (with_reducible exact ih1 _ _ _ _ _ _ _)
      | (with_reducible exact ih2 _ _ _ _)
      | (with_reducible exact impl_ResponseOf.mono _ _)
      | (with_reducible exact laws_eqFieldS.mono _ _ _)
      | (with_reducible exact laws_eqResponse.mono _ _ _ _ _)
      | (with_reducible exact laws_heldResponse.mono _ _ _ _)
      | (with_reducible exact laws_markFieldS.mono _ _ _)
      | (with_reducible exact laws_markResponse.mono _ _ _ _)
      | (with_reducible exact laws_szFieldS.mono _ _ _)
      | (with_reducible exact laws_toFieldS.mono _ _)
      | (with_reducible exact spec_ResponseOf.mono _ _)
      | (with_reducible exact LeO.refl _)
      | (with_reducible exact LeO.none _)
      | (with_reducible refine LeO.ite ?_ ?_)
      | (with_reducible refine LeO.bind ?_ (fun _ => ?_))
      | exact ih0 _ _ _ _ _ _ _ _ _
      | exact ih1 _ _ _ _ _ _ _
      | exact ih2 _ _ _ _
      | exact impl_ResponseOf.mono _ _
      | exact laws_eqFieldS.mono _ _ _
      | exact laws_eqResponse.mono _ _ _ _ _
      | exact laws_heldResponse.mono _ _ _ _
      | exact laws_markFieldS.mono _ _ _
      | exact laws_markResponse.mono _ _ _ _
      | exact laws_szFieldS.mono _ _ _
      | exact laws_toFieldS.mono _ _
      | exact spec_ResponseOf.mono _ _
      | exact LeO.none _
      | refine LeO.ite ?_ ?_
      | refine LeO.bind ?_ (fun _ => ?_)
theorem laws_FnExactResponseOf.mono : ∀ a0 k, LeO (laws_FnExactResponseOf.f k a0) (laws_FnExactResponseOf.f (k + 1) a0) := by
  intro a0 k
  obtain ⟨ih0, ih1, ih2⟩ := laws_FnExactResponseOf.mono_l k
  unfold laws_FnExactResponseOf.f
  repeat' first
      | (with_reducible exact ih0 _ _ _ _ _ _ _ _ _)
      | (with_reducible exact ih1 _ _ _ _ _ _ _)
      | (with_reducible exact ih2 _ _ _ _)
      | (with_reducible exact impl_ResponseOf.mono _ _)
      | (with_reducible exact laws_eqFieldS.mono _ _ _)
      | (with_reducible exact laws_eqResponse.mono _ _ _ _ _)
      | (with_reducible exact laws_heldResponse.mono _ _ _ _)
      | (with_reducible exact laws_markFieldS.mono _ _ _)
      | (with_reducible exact laws_markResponse.mono _ _ _ _)
      | (with_reducible exact laws_szFieldS.mono _ _ _)
      | (with_reducible exact laws_toFieldS.mono _ _)
      | (with_reducible exact spec_ResponseOf.mono _ _)
      | (with_reducible exact LeO.refl _)
      | (with_reducible exact LeO.none _)
      | (with_reducible refine LeO.ite ?_ ?_)
      | (with_reducible refine LeO.bind ?_ (fun _ => ?_))
      | exact ih0 _ _ _ _ _ _ _ _ _
      | exact ih1 _ _ _ _ _ _ _
      | exact ih2 _ _ _ _
      | exact impl_ResponseOf.mono _ _
      | exact laws_eqFieldS.mono _ _ _
      | exact laws_eqResponse.mono _ _ _ _ _
      | exact laws_heldResponse.mono _ _ _ _
      | exact laws_markFieldS.mono _ _ _
      | exact laws_markResponse.mono _ _ _ _
      | exact laws_szFieldS.mono _ _ _
      | exact laws_toFieldS.mono _ _
      | exact spec_ResponseOf.mono _ _
      | exact LeO.none _
      | refine LeO.ite ?_ ?_
      | refine LeO.bind ?_ (fun _ => ?_)
set_option maxHeartbeats 8000000 in
set_option maxRecDepth 100000 in
theorem laws_FnExactResponseOf.calls (k : Nat) (A0 : Option Addr) (c0 : Nat) (l0 : List (S77)) (r : Bool) (w : World) (hr0 : Kd.C k77 w A0 l0.length l0) (hc0 : l0.length ≤ c0) (h : laws_FnExactResponseOf.f k l0 = some r) :
    Calls Tryd.prog 10 #[.slice A0 l0.length c0] w fun e w' => e = .returned (.bool r) ∧ Below w.heap.size w w' := by
  have hu57 := Tryd.underlying57
  have HR0 := Aside0.mk hr0
  have HC0 := Aside0.mk hc0
  clear hr0 hc0
  have HB := Aside0.mk (Below.refl w.heap.size w)
  have H : ((laws_szFieldS.f k l0 1048576).bind fun t189 => (if t189 < 0 then (some true) else ((laws_toFieldS.f k l0).bind fun t190 => ((spec_ResponseOf.f k t190).bind fun bt193 => ((laws_toFieldS.f k l0).bind fun t199 => ((impl_ResponseOf.f k t199).bind fun bt202 => ((laws_eqResponse.f k bt202.1 bt202.2.1 bt193.1 bt193.2.1).bind fun t208 => (if t208 = true then (laws_FnExactResponseOf.j0 k l0 bt193.2.2 t199 bt202.2.2 (bt202.2.2 != bt193.2.2) bt193.1 bt193.2.1 bt202.1 bt202.2.1) else (laws_FnExactResponseOf.j0 k l0 bt193.2.2 t199 bt202.2.2 true bt193.1 bt193.2.1 bt202.1 bt202.2.1))))))))) = some r := h
  clear h
  replace H := Option.bind_eq_some_iff.mp H
  obtain ⟨t189, A20, H⟩ := H
  replace H : (if t189 < 0 then (some true) else ((laws_toFieldS.f k l0).bind fun t190 => ((spec_ResponseOf.f k t190).bind fun bt193 => ((laws_toFieldS.f k l0).bind fun t199 => ((impl_ResponseOf.f k t199).bind fun bt202 => ((laws_eqResponse.f k bt202.1 bt202.2.1 bt193.1 bt193.2.1).bind fun t208 => (if t208 = true then (laws_FnExactResponseOf.j0 k l0 bt193.2.2 t199 bt202.2.2 (bt202.2.2 != bt193.2.2) bt193.1 bt193.2.1 bt202.1 bt202.2.1) else (laws_FnExactResponseOf.j0 k l0 bt193.2.2 t199 bt202.2.2 true bt193.1 bt193.2.1 bt202.1 bt202.2.1)))))))) = some r := H
  have A2 := Aside0.mk A20
  clear A20
  by_cases c3 : t189 < 0
  · rw [if_pos c3] at H
    have c3b0 : decide (t189 < 0) = true := decide_eq_true c3
    clear c3
    obtain rfl := Option.some.inj H
    go_enter Tryd.func10, Tryd.ntmps10
    go_wp2_with (first | ((with_reducible refine gate_callee (f := 16) rfl ?_); refine goesL_ (some 16) rfl rfl Tryd.func16 (by kernel_rfl) rfl #[.slice A0 l0.length c0, .int .i64 1048576] rfl (by (try simp only [List.map_toArray, List.map_cons, List.map_nil]); first | done | rfl | (simp only [List.length_drop, List.length_take]; rfl)) ?_; (with_reducible refine (laws_szFieldS.calls k _ _ l0 1048576 t189 _ ?side1 ?side2 A2.out).mono ?_); (case side1 => repeat (first | exact HR0.out | (with_reducible refine Kd.C_alloc ?_ _) | (with_reducible refine Kd.C_drewN ?_ _) | (with_reducible refine Kd.C_drew ?_))); (case side2 => exact HC0.out); rintro e w4 ⟨rfl, hb⟩; refine ⟨_, rfl, ?_⟩; have n0_ := Aside0.mk (below_step (by repeat (first | (with_reducible first | exact HB.out | apply below_alloc | apply pw_below_drewN | apply below_drew1) | exact HB.out)) hb); clear HB; have HB := n0_; clear n0_; (try clear hb); (try clear hb2); (try clear hk); (try clear hi)))
    go_ret
    exact ⟨by first | rfl | (simp [errW_none, errW_some] <;> rfl) | (simp [*, errW_none, errW_some] <;> rfl), by repeat (first | (with_reducible first | exact HB.out | apply below_alloc | apply pw_below_drewN | apply below_drew1) | exact HB.out)⟩
  · rw [if_neg c3] at H
    have c3b0 : decide (t189 < 0) = false := decide_eq_false c3
    clear c3
    replace H := Option.bind_eq_some_iff.mp H
    obtain ⟨t190, A50, H⟩ := H
    replace H : ((spec_ResponseOf.f k t190).bind fun bt193 => ((laws_toFieldS.f k l0).bind fun t199 => ((impl_ResponseOf.f k t199).bind fun bt202 => ((laws_eqResponse.f k bt202.1 bt202.2.1 bt193.1 bt193.2.1).bind fun t208 => (if t208 = true then (laws_FnExactResponseOf.j0 k l0 bt193.2.2 t199 bt202.2.2 (bt202.2.2 != bt193.2.2) bt193.1 bt193.2.1 bt202.1 bt202.2.1) else (laws_FnExactResponseOf.j0 k l0 bt193.2.2 t199 bt202.2.2 true bt193.1 bt193.2.1 bt202.1 bt202.2.1)))))) = some r := H
    have A5 := Aside0.mk A50
    clear A50
    replace H := Option.bind_eq_some_iff.mp H
    obtain ⟨⟨t193, t194, t197⟩, A60, H⟩ := H
    replace H : ((laws_toFieldS.f k l0).bind fun t199 => ((impl_ResponseOf.f k t199).bind fun bt202 => ((laws_eqResponse.f k bt202.1 bt202.2.1 t193 t194).bind fun t208 => (if t208 = true then (laws_FnExactResponseOf.j0 k l0 t197 t199 bt202.2.2 (bt202.2.2 != t197) t193 t194 bt202.1 bt202.2.1) else (laws_FnExactResponseOf.j0 k l0 t197 t199 bt202.2.2 true t193 t194 bt202.1 bt202.2.1))))) = some r := H
    have A6 := Aside0.mk A60
    clear A60
    replace H := Option.bind_eq_some_iff.mp H
    obtain ⟨t199, A70, H⟩ := H
    replace H : ((impl_ResponseOf.f k t199).bind fun bt202 => ((laws_eqResponse.f k bt202.1 bt202.2.1 t193 t194).bind fun t208 => (if t208 = true then (laws_FnExactResponseOf.j0 k l0 t197 t199 bt202.2.2 (bt202.2.2 != t197) t193 t194 bt202.1 bt202.2.1) else (laws_FnExactResponseOf.j0 k l0 t197 t199 bt202.2.2 true t193 t194 bt202.1 bt202.2.1)))) = some r := H
    have A7 := Aside0.mk A70
    clear A70
    replace H := Option.bind_eq_some_iff.mp H
    obtain ⟨⟨t202, t203, t206⟩, A80, H⟩ := H
    replace H : ((laws_eqResponse.f k t202 t203 t193 t194).bind fun t208 => (if t208 = true then (laws_FnExactResponseOf.j0 k l0 t197 t199 t206 (t206 != t197) t193 t194 t202 t203) else (laws_FnExactResponseOf.j0 k l0 t197 t199 t206 true t193 t194 t202 t203))) = some r := H
    have A8 := Aside0.mk A80
    clear A80
    have HC9 := Aside0.mk H
    clear H
    go_enter Tryd.func10, Tryd.ntmps10
    go_upto_region 8 with (first | ((with_reducible refine gate_callee (f := 16) rfl ?_); refine goesL_ (some 16) rfl rfl Tryd.func16 (by kernel_rfl) rfl #[.slice A0 l0.length c0, .int .i64 1048576] rfl (by (try simp only [List.map_toArray, List.map_cons, List.map_nil]); first | done | rfl | (simp only [List.length_drop, List.length_take]; rfl)) ?_; (with_reducible refine (laws_szFieldS.calls k _ _ l0 1048576 t189 _ ?side1 ?side2 A2.out).mono ?_); (case side1 => repeat (first | exact HR0.out | (with_reducible refine Kd.C_alloc ?_ _) | (with_reducible refine Kd.C_drewN ?_ _) | (with_reducible refine Kd.C_drew ?_))); (case side2 => exact HC0.out); rintro e w10 ⟨rfl, hb⟩; refine ⟨_, rfl, ?_⟩; have n0_ := Aside0.mk (below_step (by repeat (first | (with_reducible first | exact HB.out | apply below_alloc | apply pw_below_drewN | apply below_drew1) | exact HB.out)) hb); clear HB; have HB := n0_; clear n0_; (try clear hb); (try clear hb2); (try clear hk); (try clear hi)) | ((with_reducible refine gate_callee (f := 18) rfl ?_); refine goesL_ (some 21) rfl rfl Tryd.func18 (by kernel_rfl) rfl #[.slice A0 l0.length c0] rfl (by (try simp only [List.map_toArray, List.map_cons, List.map_nil]); first | done | rfl | (simp only [List.length_drop, List.length_take]; rfl)) ?_; (with_reducible refine (laws_toFieldS.calls k _ _ l0 t190 _ ?side1 ?side2 A5.out).mono ?_); (case side1 => repeat (first | exact (Kd.C_below HR0.out HB.out) | (with_reducible refine Kd.C_alloc ?_ _) | (with_reducible refine Kd.C_drewN ?_ _) | (with_reducible refine Kd.C_drew ?_))); (case side2 => exact HC0.out); rintro e w11 ⟨v191, rfl, ho0, hb⟩; refine ⟨_, rfl, ?_⟩; have n0_ := Aside0.mk (Kd.R_lower ho0 (below_size (by repeat (first | (with_reducible first | exact HB.out | apply below_alloc | apply pw_below_drewN | apply below_drew1) | exact HB.out)))); have n1_ := Aside0.mk (below_step (by repeat (first | (with_reducible first | exact HB.out | apply below_alloc | apply pw_below_drewN | apply below_drew1) | exact HB.out)) hb); clear HB; have HO192 := n0_; have HB := n1_; clear n0_ n1_; (try clear hb); (try clear hb2); (try clear hk); (try clear hi); (try clear ho0); obtain ⟨Ao12, co12, eo12⟩ := Kd.R_slice HO192.out; subst eo12) | ((with_reducible refine gate_callee (f := 38) rfl ?_); refine goesL_ (some 22) rfl rfl Tryd.func38 (by kernel_rfl) rfl #[.slice Ao12 t190.length co12] rfl (by (try simp only [List.map_toArray, List.map_cons, List.map_nil]); first | done | rfl | (simp only [List.length_drop, List.length_take]; rfl)) ?_; (with_reducible refine (spec_ResponseOf.calls k _ _ t190 t193 t194 t197 _ ?side1 ?side2 A6.out).mono ?_); (case side1 => repeat (first | exact (Kd.R_reads' HO192.out).2.2 | (with_reducible refine Kd.C_alloc ?_ _) | (with_reducible refine Kd.C_drewN ?_ _) | (with_reducible refine Kd.C_drew ?_))); (case side2 => exact (Kd.R_reads' HO192.out).2.1); rintro e w13 ⟨v195, rfl, ho0, hb⟩; refine ⟨_, rfl, ?_⟩; have n0_ := Aside0.mk (Kd.R_elder' (by (with_reducible repeat (first | apply Kd.R_alloc | apply Kd.R_drewN | apply Kd.R_drew)); exact HO192.out) (Kd.R_base ho0) hb); have n1_ := Aside0.mk (Kd.R_lower (Kd.R_new' ho0 (Kd.R_lt (by (with_reducible repeat (first | apply Kd.R_alloc | apply Kd.R_drewN | apply Kd.R_drew)); exact HO192.out))) (below_size (by repeat (first | (with_reducible first | exact HB.out | apply below_alloc | apply pw_below_drewN | apply below_drew1) | exact HB.out)))); have n2_ := Aside0.mk (below_step (by repeat (first | (with_reducible first | exact HB.out | apply below_alloc | apply pw_below_drewN | apply below_drew1) | exact HB.out)) hb); clear HO192; clear HB; have HO192 := n0_; have HO196 := n1_; have HB := n2_; clear n0_ n1_ n2_; (try clear hb); (try clear hb2); (try clear hk); (try clear hi); (try clear ho0)) | ((with_reducible refine gate_dst (N := 4) rfl ?_); refine box_event ?hg (N := 4) ?hd (cs := #[.int .i64 0, .slice none 0 0]) (t := 57) ?hr ?_; (case hd => rfl); (case hg => rfl); (case hr => first | (go_simp; done) | (go_simp; rfl)); intro gb198 hg w14 hbox hb; have n0_ := Aside0.mk (Kd.R_below (by (with_reducible repeat (first | apply Kd.R_alloc | apply Kd.R_drewN | apply Kd.R_drew)); exact HO192.out) hb); have n1_ := Aside0.mk (Kd.R_below (by (with_reducible repeat (first | apply Kd.R_alloc | apply Kd.R_drewN | apply Kd.R_drew)); exact HO196.out) hb); have n2_ := Aside0.mk (below_step (by repeat (first | (with_reducible first | exact HB.out | apply below_alloc | apply pw_below_drewN | apply below_drew1) | exact HB.out)) hb); have n3_ := Aside0.mk (hbox); have n4_ := Aside0.mk ((by rw [hg]; exact (below_size (by repeat (first | (with_reducible first | exact HB.out | apply below_alloc | apply pw_below_drewN | apply below_drew1) | exact HB.out))) : w.heap.size ≤ gb198)); have n5_ := Aside0.mk ((by rw [hg]; exact (below_size (by repeat (first | (with_reducible first | exact HB.out | apply below_alloc | apply pw_below_drewN | apply below_drew1) | exact HB.out))) : w.heap.size ≤ gb198)); clear HO192; clear HO196; clear HB; have HO192 := n0_; have HO196 := n1_; have HB := n2_; have BK198 := n3_; have GW198 := n4_; have GE198 := n5_; clear n0_ n1_ n2_ n3_ n4_ n5_; clear hb hbox hg; have hcz15_0 : w14.cell? ⟨gb198, 0, none⟩ = some (.int .i64 0) := (blk_cell BK198.out 0).trans rfl; have hcz15_1 : w14.cell? ⟨gb198, 1, none⟩ = some (.slice none 0 0) := (blk_cell BK198.out 1).trans rfl; have hfz15_0 := blk_frozen BK198.out 0; have hfz15_1 := blk_frozen BK198.out 1; obtain ⟨Ao16, co16, eo16⟩ := Kd.R_slice HO196.out; subst eo16) | ((with_reducible refine gate_callee (f := 18) rfl ?_); refine goesL_ (some 26) rfl rfl Tryd.func18 (by kernel_rfl) rfl #[.slice A0 l0.length c0] rfl (by (try simp only [List.map_toArray, List.map_cons, List.map_nil]); first | done | rfl | (simp only [List.length_drop, List.length_take]; rfl)) ?_; (with_reducible refine (laws_toFieldS.calls k _ _ l0 t199 _ ?side1 ?side2 A7.out).mono ?_); (case side1 => exact Kd.C_below HR0.out (by repeat (first | (with_reducible first | exact HB.out | apply below_alloc | apply pw_below_drewN | apply below_drew1 | refine below_set ?_ GE198.out) | exact HB.out))); (case side2 => exact HC0.out); rintro e w17 ⟨v200, rfl, ho0, hb⟩; refine ⟨_, rfl, ?_⟩; have n0_ := Aside0.mk (Kd.R_elder' (by (with_reducible repeat (first | apply Kd.R_alloc | apply Kd.R_drewN | apply Kd.R_drew)); exact (Kd.R_mono (Kd.R_far (p := ⟨gb198, 1, none⟩) (Kd.R_far (p := ⟨gb198, 0, none⟩) (Kd.R_types HO192.out BK198.out (by decide)) (fun _ hk => hk.2) (.int .i64 t193)) (fun _ hk => hk.2) (.slice Ao16 t194.length co16)) (fun _ h_ => h_.1))) (Kd.R_base ho0) hb); have n1_ := Aside0.mk (Kd.R_elder' (by (with_reducible repeat (first | apply Kd.R_alloc | apply Kd.R_drewN | apply Kd.R_drew)); exact (Kd.R_mono (Kd.R_far (p := ⟨gb198, 1, none⟩) (Kd.R_far (p := ⟨gb198, 0, none⟩) (Kd.R_types HO196.out BK198.out (by decide)) (fun _ hk => hk.2) (.int .i64 t193)) (fun _ hk => hk.2) (.slice Ao16 t194.length co16)) (fun _ h_ => h_.1))) (Kd.R_base ho0) hb); have n2_ := Aside0.mk (Kd.R_lower (Kd.R_new' (Kd.R_new' ho0 (Kd.R_lt (by (with_reducible repeat (first | apply Kd.R_alloc | apply Kd.R_drewN | apply Kd.R_drew)); exact (Kd.R_mono (Kd.R_far (p := ⟨gb198, 1, none⟩) (Kd.R_far (p := ⟨gb198, 0, none⟩) (Kd.R_types HO192.out BK198.out (by decide)) (fun _ hk => hk.2) (.int .i64 t193)) (fun _ hk => hk.2) (.slice Ao16 t194.length co16)) (fun _ h_ => h_.1))))) (Kd.R_lt (by (with_reducible repeat (first | apply Kd.R_alloc | apply Kd.R_drewN | apply Kd.R_drew)); exact (Kd.R_mono (Kd.R_far (p := ⟨gb198, 1, none⟩) (Kd.R_far (p := ⟨gb198, 0, none⟩) (Kd.R_types HO196.out BK198.out (by decide)) (fun _ hk => hk.2) (.int .i64 t193)) (fun _ hk => hk.2) (.slice Ao16 t194.length co16)) (fun _ h_ => h_.1))))) (below_size (by repeat (first | (with_reducible first | exact HB.out | apply below_alloc | apply pw_below_drewN | apply below_drew1 | refine below_set ?_ GE198.out) | exact HB.out)))); have n3_ := Aside0.mk (blk_below (g := gb198) (o := .cells #[.int .i64 t193, .slice Ao16 t194.length co16] 57 (0, 0)) (by (with_reducible repeat (first | refine blk_drewN ?_ _ | refine blk_drew ?_ | refine blk_alloc ?_ _)); refine blk_put (cs := #[.int .i64 t193, .slice none 0 0]) ?_ 1 _ rfl; (with_reducible repeat (first | refine blk_drewN ?_ _ | refine blk_drew ?_ | refine blk_alloc ?_ _)); refine blk_put (cs := #[.int .i64 0, .slice none 0 0]) ?_ 0 _ rfl; (with_reducible repeat (first | refine blk_drewN ?_ _ | refine blk_drew ?_ | refine blk_alloc ?_ _)); exact BK198.out) hb); have n4_ := Aside0.mk (below_step (by repeat (first | (with_reducible first | exact HB.out | apply below_alloc | apply pw_below_drewN | apply below_drew1 | refine below_set ?_ GE198.out) | exact HB.out)) hb); clear HO192; clear HO196; clear BK198; clear HB; have HO192 := n0_; have HO196 := n1_; have HO201 := n2_; have BK198 := n3_; have HB := n4_; clear n0_ n1_ n2_ n3_ n4_; (try clear hb); (try clear hb2); (try clear hk); (try clear hi); (try clear ho0); obtain ⟨Ao18, co18, eo18⟩ := Kd.R_slice HO201.out; subst eo18) | ((with_reducible refine gate_callee (f := 39) rfl ?_); refine goesL_ (some 29) rfl rfl Tryd.func39 (by kernel_rfl) rfl #[.slice Ao18 t199.length co18] rfl (by (try simp only [List.map_toArray, List.map_cons, List.map_nil]); first | done | rfl | (simp only [List.length_drop, List.length_take]; rfl)) ?_; (with_reducible refine (impl_ResponseOf.calls k _ _ t199 t202 t203 t206 _ ?side1 ?side2 A8.out).mono ?_); (case side1 => repeat (first | exact (Kd.R_reads' HO201.out).2.2 | (with_reducible refine Kd.C_alloc ?_ _) | (with_reducible refine Kd.C_drewN ?_ _) | (with_reducible refine Kd.C_drew ?_))); (case side2 => exact (Kd.R_reads' HO201.out).2.1); rintro e w19 ⟨v204, rfl, ho0, hb⟩; refine ⟨_, rfl, ?_⟩; have n0_ := Aside0.mk (Kd.R_elder' (by (with_reducible repeat (first | apply Kd.R_alloc | apply Kd.R_drewN | apply Kd.R_drew)); exact HO192.out) (Kd.R_base ho0) hb); have n1_ := Aside0.mk (Kd.R_elder' (by (with_reducible repeat (first | apply Kd.R_alloc | apply Kd.R_drewN | apply Kd.R_drew)); exact HO196.out) (Kd.R_base ho0) hb); have n2_ := Aside0.mk (Kd.R_elder' (by (with_reducible repeat (first | apply Kd.R_alloc | apply Kd.R_drewN | apply Kd.R_drew)); exact HO201.out) (Kd.R_base ho0) hb); have n3_ := Aside0.mk (Kd.R_lower (Kd.R_new' (Kd.R_new' (Kd.R_new' ho0 (Kd.R_lt (by (with_reducible repeat (first | apply Kd.R_alloc | apply Kd.R_drewN | apply Kd.R_drew)); exact HO192.out))) (Kd.R_lt (by (with_reducible repeat (first | apply Kd.R_alloc | apply Kd.R_drewN | apply Kd.R_drew)); exact HO196.out))) (Kd.R_lt (by (with_reducible repeat (first | apply Kd.R_alloc | apply Kd.R_drewN | apply Kd.R_drew)); exact HO201.out))) (below_size (by repeat (first | (with_reducible first | exact HB.out | apply below_alloc | apply pw_below_drewN | apply below_drew1 | refine below_set ?_ GE198.out) | exact HB.out)))); have n4_ := Aside0.mk (blk_below (g := gb198) (o := .cells #[.int .i64 t193, .slice Ao16 t194.length co16] 57 (0, 0)) (by (with_reducible repeat (first | refine blk_drewN ?_ _ | refine blk_drew ?_ | refine blk_alloc ?_ _)); exact BK198.out) hb); have n5_ := Aside0.mk (below_step (by repeat (first | (with_reducible first | exact HB.out | apply below_alloc | apply pw_below_drewN | apply below_drew1 | refine below_set ?_ GE198.out) | exact HB.out)) hb); clear HO192; clear HO196; clear HO201; clear BK198; clear HB; have HO192 := n0_; have HO196 := n1_; have HO201 := n2_; have HO205 := n3_; have BK198 := n4_; have HB := n5_; clear n0_ n1_ n2_ n3_ n4_ n5_; (try clear hb); (try clear hb2); (try clear hk); (try clear hi); (try clear ho0)) | ((with_reducible refine gate_dst (N := 7) rfl ?_); refine box_event ?hg (N := 7) ?hd (cs := #[.int .i64 0, .slice none 0 0]) (t := 57) ?hr ?_; (case hd => rfl); (case hg => rfl); (case hr => first | (go_simp; done) | (go_simp; rfl)); intro gb207 hg w20 hbox hb; have n0_ := Aside0.mk (Kd.R_below (by (with_reducible repeat (first | apply Kd.R_alloc | apply Kd.R_drewN | apply Kd.R_drew)); exact HO192.out) hb); have n1_ := Aside0.mk (Kd.R_below (by (with_reducible repeat (first | apply Kd.R_alloc | apply Kd.R_drewN | apply Kd.R_drew)); exact HO196.out) hb); have n2_ := Aside0.mk (Kd.R_below (by (with_reducible repeat (first | apply Kd.R_alloc | apply Kd.R_drewN | apply Kd.R_drew)); exact HO201.out) hb); have n3_ := Aside0.mk (Kd.R_below (by (with_reducible repeat (first | apply Kd.R_alloc | apply Kd.R_drewN | apply Kd.R_drew)); exact HO205.out) hb); have n4_ := Aside0.mk (blk_below (g := gb198) (o := .cells #[.int .i64 t193, .slice Ao16 t194.length co16] 57 (0, 0)) (by (with_reducible repeat (first | refine blk_drewN ?_ _ | refine blk_drew ?_ | refine blk_alloc ?_ _)); exact BK198.out) hb); have n5_ := Aside0.mk (below_step (by repeat (first | (with_reducible first | exact HB.out | apply below_alloc | apply pw_below_drewN | apply below_drew1 | refine below_set ?_ GE198.out) | exact HB.out)) hb); have n6_ := Aside0.mk (hbox); have n7_ := Aside0.mk ((by rw [hg]; exact (below_size (by repeat (first | (with_reducible first | exact HB.out | apply below_alloc | apply pw_below_drewN | apply below_drew1 | refine below_set ?_ GE198.out) | exact HB.out))) : w.heap.size ≤ gb207)); have n8_ := Aside0.mk ((by rw [hg]; exact (below_size (by repeat (first | (with_reducible first | exact HB.out | apply below_alloc | apply pw_below_drewN | apply below_drew1 | refine below_set ?_ GE198.out) | exact HB.out))) : w.heap.size ≤ gb207)); have n9_ := Aside0.mk ((by rw [hg]; exact Nat.ne_of_lt (blk_lt (g := gb198) (o := .cells #[.int .i64 t193, .slice Ao16 t194.length co16] 57 (0, 0)) (by (with_reducible repeat (first | refine blk_drewN ?_ _ | refine blk_drew ?_ | refine blk_alloc ?_ _)); exact BK198.out)) : gb198 ≠ gb207)); have n10_ := Aside0.mk ((by rw [hg]; exact Nat.ne_of_gt (blk_lt (g := gb198) (o := .cells #[.int .i64 t193, .slice Ao16 t194.length co16] 57 (0, 0)) (by (with_reducible repeat (first | refine blk_drewN ?_ _ | refine blk_drew ?_ | refine blk_alloc ?_ _)); exact BK198.out)) : gb207 ≠ gb198)); clear HO192; clear HO196; clear HO201; clear HO205; clear BK198; clear HB; have HO192 := n0_; have HO196 := n1_; have HO201 := n2_; have HO205 := n3_; have BK198 := n4_; have HB := n5_; have BK207 := n6_; have GW207 := n7_; have GE207 := n8_; have NB198_207 := n9_; have NB207_198 := n10_; clear n0_ n1_ n2_ n3_ n4_ n5_ n6_ n7_ n8_ n9_ n10_; clear hb hbox hg; have hnb21 := NB207_198.out; have hnc21 := NB198_207.out; have hcz22_0 : w20.cell? ⟨gb207, 0, none⟩ = some (.int .i64 0) := (blk_cell BK207.out 0).trans rfl; have hcz22_1 : w20.cell? ⟨gb207, 1, none⟩ = some (.slice none 0 0) := (blk_cell BK207.out 1).trans rfl; have hfz22_0 := blk_frozen BK207.out 0; have hfz22_1 := blk_frozen BK207.out 1; obtain ⟨Ao23, co23, eo23⟩ := Kd.R_slice HO205.out; subst eo23))
    (try simp only [Act.put, List.setIfInBounds_toArray, List.set_cons_zero, List.set_cons_succ])
    go_cut [40] (fun v40 wc => ∃ (kq : Nat) (x40_8 : Bool), v40 = .bool x40_8 ∧ Aside0 (laws_FnExactResponseOf.j0 kq l0 t197 t199 t206 x40_8 t193 t194 t202 t203 = some r) ∧ Aside0 (kq ≤ k) ∧ Aside0 (Kd.R k78 78 wc w.heap.size (fun k_ => some k_ ≠ ((.slice Ao16 t194.length co16) : Value).ownBlock ∧ some k_ ≠ ((.slice Ao23 t203.length co23) : Value).ownBlock) (.slice Ao18 t199.length co18) t199) ∧ Aside0 (Kd.R k78 78 wc w.heap.size (fun k_ => some k_ ≠ ((.slice Ao18 t199.length co18) : Value).ownBlock ∧ some k_ ≠ ((.slice Ao23 t203.length co23) : Value).ownBlock) (.slice Ao16 t194.length co16) t194) ∧ Aside0 (Kd.R k78 78 wc w.heap.size (fun k_ => some k_ ≠ ((.slice Ao18 t199.length co18) : Value).ownBlock ∧ some k_ ≠ ((.slice Ao16 t194.length co16) : Value).ownBlock) (.slice Ao23 t203.length co23) t203) ∧ Aside0 (wc.heap[gb198]? = some (.cells #[.int .i64 t193, (.slice Ao16 t194.length co16)] 57 (0, 0))) ∧ Aside0 (wc.heap[gb207]? = some (.cells #[.int .i64 t202, (.slice Ao23 t203.length co23)] 57 (0, 0))) ∧ Aside0 (Below w.heap.size w wc))
    case first =>
      have H := HC9.out
      clear HC9
      replace H := Option.bind_eq_some_iff.mp H
      obtain ⟨t208, A240, H⟩ := H
      replace H : (if t208 = true then (laws_FnExactResponseOf.j0 k l0 t197 t199 t206 (t206 != t197) t193 t194 t202 t203) else (laws_FnExactResponseOf.j0 k l0 t197 t199 t206 true t193 t194 t202 t203)) = some r := H
      have A24 := Aside0.mk A240
      clear A240
      by_cases c25 : t208 = true
      · subst c25
        have H1 : (laws_FnExactResponseOf.j0 k l0 t197 t199 t206 (t206 != t197) t193 t194 t202 t203) = some r := by rw [if_pos rfl] at H; exact H
        clear H
        have H := H1
        clear H1
        have H' := Aside0.mk H
        clear H
        have hnb26 := NB207_198.out
        have hnc26 := NB198_207.out
        have hcz27_0 : w20.cell? ⟨gb207, 0, none⟩ = some (.int .i64 0) := (blk_cell BK207.out 0).trans rfl
        have hcz27_1 : w20.cell? ⟨gb207, 1, none⟩ = some (.slice none 0 0) := (blk_cell BK207.out 1).trans rfl
        have hfz27_0 := blk_frozen BK207.out 0
        have hfz27_1 := blk_frozen BK207.out 1
        have hcz28_0 : w20.cell? ⟨gb198, 0, none⟩ = some (.int .i64 t193) := (blk_cell BK198.out 0).trans rfl
        have hcz28_1 : w20.cell? ⟨gb198, 1, none⟩ = some (.slice Ao16 t194.length co16) := (blk_cell BK198.out 1).trans rfl
        have hfz28_0 := blk_frozen BK198.out 0
        have hfz28_1 := blk_frozen BK198.out 1
        go_wp2_with (first | ((with_reducible refine gate_callee (f := 36) rfl ?_); refine goesL_ (some 34) rfl rfl Tryd.func36 (by kernel_rfl) rfl #[.agg #[.int .i64 t202, .slice Ao23 t203.length co23], .agg #[.int .i64 t193, .slice Ao16 t194.length co16]] rfl (by (try simp only [List.map_toArray, List.map_cons, List.map_nil]); first | done | rfl | (simp only [List.length_drop, List.length_take]; rfl)) ?_; (with_reducible refine (laws_eqResponse.calls k t202 _ _ t203 t193 _ _ t194 true _ ?side1 ?side2 ?side3 ?side4 A24.out).mono ?_); (case side1 => refine (Kd.R_reads' (e := 78) (base := w.heap.size) (ok := fun k_ => (((True ∧ some k_ ≠ (.slice Ao12 t190.length co12 : Value).ownBlock) ∧ some k_ ≠ (.slice Ao16 t194.length co16 : Value).ownBlock) ∧ some k_ ≠ (.slice Ao18 t199.length co18 : Value).ownBlock)) (n := t203.length) (c := co23) ?_).2.2; exact (by (with_reducible repeat (first | apply Kd.R_alloc | apply Kd.R_drewN | apply Kd.R_drew)); exact (Kd.R_mono (Kd.R_far (p := ⟨gb207, 1, none⟩) (Kd.R_far (p := ⟨gb207, 0, none⟩) (Kd.R_types HO205.out BK207.out (by decide)) (fun _ hk => hk.2) (.int .i64 t202)) (fun _ hk => hk.2) (.slice Ao23 t203.length co23)) (fun _ h_ => h_.1)))); (case side2 => exact (Kd.R_reads' HO205.out).2.1); (case side3 => refine (Kd.R_reads' (e := 78) (base := w.heap.size) (ok := fun k_ => (((True ∧ some k_ ≠ (.slice Ao12 t190.length co12 : Value).ownBlock) ∧ some k_ ≠ (.slice Ao18 t199.length co18 : Value).ownBlock) ∧ some k_ ≠ (.slice Ao23 t203.length co23 : Value).ownBlock)) (n := t194.length) (c := co16) ?_).2.2; exact (by (with_reducible repeat (first | apply Kd.R_alloc | apply Kd.R_drewN | apply Kd.R_drew)); exact (Kd.R_mono (Kd.R_far (p := ⟨gb207, 1, none⟩) (Kd.R_far (p := ⟨gb207, 0, none⟩) (Kd.R_types HO196.out BK207.out (by decide)) (fun _ hk => hk.2) (.int .i64 t202)) (fun _ hk => hk.2) (.slice Ao23 t203.length co23)) (fun _ h_ => h_.1)))); (case side4 => exact (Kd.R_reads' HO196.out).2.1); rintro e w29 ⟨rfl, hb⟩; refine ⟨_, rfl, ?_⟩; have n0_ := Aside0.mk (Kd.R_below (by (with_reducible repeat (first | apply Kd.R_alloc | apply Kd.R_drewN | apply Kd.R_drew)); exact (Kd.R_mono (Kd.R_far (p := ⟨gb207, 1, none⟩) (Kd.R_far (p := ⟨gb207, 0, none⟩) (Kd.R_types HO192.out BK207.out (by decide)) (fun _ hk => hk.2) (.int .i64 t202)) (fun _ hk => hk.2) (.slice Ao23 t203.length co23)) (fun _ h_ => h_.1))) hb); have n1_ := Aside0.mk (Kd.R_below (by (with_reducible repeat (first | apply Kd.R_alloc | apply Kd.R_drewN | apply Kd.R_drew)); exact (Kd.R_mono (Kd.R_far (p := ⟨gb207, 1, none⟩) (Kd.R_far (p := ⟨gb207, 0, none⟩) (Kd.R_types HO196.out BK207.out (by decide)) (fun _ hk => hk.2) (.int .i64 t202)) (fun _ hk => hk.2) (.slice Ao23 t203.length co23)) (fun _ h_ => h_.1))) hb); have n2_ := Aside0.mk (Kd.R_below (by (with_reducible repeat (first | apply Kd.R_alloc | apply Kd.R_drewN | apply Kd.R_drew)); exact (Kd.R_mono (Kd.R_far (p := ⟨gb207, 1, none⟩) (Kd.R_far (p := ⟨gb207, 0, none⟩) (Kd.R_types HO201.out BK207.out (by decide)) (fun _ hk => hk.2) (.int .i64 t202)) (fun _ hk => hk.2) (.slice Ao23 t203.length co23)) (fun _ h_ => h_.1))) hb); have n3_ := Aside0.mk (Kd.R_below (by (with_reducible repeat (first | apply Kd.R_alloc | apply Kd.R_drewN | apply Kd.R_drew)); exact (Kd.R_mono (Kd.R_far (p := ⟨gb207, 1, none⟩) (Kd.R_far (p := ⟨gb207, 0, none⟩) (Kd.R_types HO205.out BK207.out (by decide)) (fun _ hk => hk.2) (.int .i64 t202)) (fun _ hk => hk.2) (.slice Ao23 t203.length co23)) (fun _ h_ => h_.1))) hb); have n4_ := Aside0.mk (blk_below (g := gb198) (o := .cells #[.int .i64 t193, .slice Ao16 t194.length co16] 57 (0, 0)) (by (with_reducible repeat (first | refine blk_drewN ?_ _ | refine blk_drew ?_ | refine blk_alloc ?_ _)); refine blk_far ?_ NB198_207.out _; (with_reducible repeat (first | refine blk_drewN ?_ _ | refine blk_drew ?_ | refine blk_alloc ?_ _)); refine blk_far ?_ NB198_207.out _; (with_reducible repeat (first | refine blk_drewN ?_ _ | refine blk_drew ?_ | refine blk_alloc ?_ _)); exact BK198.out) hb); have n5_ := Aside0.mk (blk_below (g := gb207) (o := .cells #[.int .i64 t202, .slice Ao23 t203.length co23] 57 (0, 0)) (by (with_reducible repeat (first | refine blk_drewN ?_ _ | refine blk_drew ?_ | refine blk_alloc ?_ _)); refine blk_put (cs := #[.int .i64 t202, .slice none 0 0]) ?_ 1 _ rfl; (with_reducible repeat (first | refine blk_drewN ?_ _ | refine blk_drew ?_ | refine blk_alloc ?_ _)); refine blk_put (cs := #[.int .i64 0, .slice none 0 0]) ?_ 0 _ rfl; (with_reducible repeat (first | refine blk_drewN ?_ _ | refine blk_drew ?_ | refine blk_alloc ?_ _)); exact BK207.out) hb); have n6_ := Aside0.mk (below_step (by repeat (first | (with_reducible first | exact HB.out | apply below_alloc | apply pw_below_drewN | apply below_drew1 | refine below_set ?_ GE198.out | refine below_set ?_ GE207.out) | exact HB.out)) hb); clear HO192; clear HO196; clear HO201; clear HO205; clear BK198; clear BK207; clear HB; have HO192 := n0_; have HO196 := n1_; have HO201 := n2_; have HO205 := n3_; have BK198 := n4_; have BK207 := n5_; have HB := n6_; clear n0_ n1_ n2_ n3_ n4_ n5_ n6_; (try clear hb); (try clear hb2); (try clear hk); (try clear hi)))
        go_meet
        case rel => exact ⟨_, ((t206 != t197)), (by first | rfl | (simp; done) | (simp [*]; done)), H', ⟨by first | omega | exact Nat.le_refl _⟩, ⟨by (with_reducible repeat (first | apply Kd.R_alloc | apply Kd.R_drewN | apply Kd.R_drew)); exact Kd.R_mono HO201.out (fun _ hk => ⟨hk.1.2, hk.2⟩)⟩, ⟨by (with_reducible repeat (first | apply Kd.R_alloc | apply Kd.R_drewN | apply Kd.R_drew)); exact Kd.R_mono HO196.out (fun _ hk => ⟨hk.1.2, hk.2⟩)⟩, ⟨by (with_reducible repeat (first | apply Kd.R_alloc | apply Kd.R_drewN | apply Kd.R_drew)); exact Kd.R_mono HO205.out (fun _ hk => ⟨hk.2, hk.1.2⟩)⟩, ⟨by (with_reducible repeat (first | refine blk_drewN ?_ _ | refine blk_drew ?_ | refine blk_alloc ?_ _)); exact BK198.out⟩, ⟨by (with_reducible repeat (first | refine blk_drewN ?_ _ | refine blk_drew ?_ | refine blk_alloc ?_ _)); exact BK207.out⟩, ⟨by repeat (first | (with_reducible first | exact HB.out | apply below_alloc | apply pw_below_drewN | apply below_drew1 | refine below_set ?_ GE198.out | refine below_set ?_ GE207.out) | exact HB.out)⟩⟩
      · replace c25 := Bool.eq_false_iff.mpr c25
        subst c25
        have H1 : (laws_FnExactResponseOf.j0 k l0 t197 t199 t206 true t193 t194 t202 t203) = some r := by rw [if_neg (show ¬ (false = true) by decide)] at H; exact H
        clear H
        have H := H1
        clear H1
        have H' := Aside0.mk H
        clear H
        have hnb30 := NB207_198.out
        have hnc30 := NB198_207.out
        have hcz31_0 : w20.cell? ⟨gb207, 0, none⟩ = some (.int .i64 0) := (blk_cell BK207.out 0).trans rfl
        have hcz31_1 : w20.cell? ⟨gb207, 1, none⟩ = some (.slice none 0 0) := (blk_cell BK207.out 1).trans rfl
        have hfz31_0 := blk_frozen BK207.out 0
        have hfz31_1 := blk_frozen BK207.out 1
        have hcz32_0 : w20.cell? ⟨gb198, 0, none⟩ = some (.int .i64 t193) := (blk_cell BK198.out 0).trans rfl
        have hcz32_1 : w20.cell? ⟨gb198, 1, none⟩ = some (.slice Ao16 t194.length co16) := (blk_cell BK198.out 1).trans rfl
        have hfz32_0 := blk_frozen BK198.out 0
        have hfz32_1 := blk_frozen BK198.out 1
        go_wp2_with (first | ((with_reducible refine gate_callee (f := 36) rfl ?_); refine goesL_ (some 34) rfl rfl Tryd.func36 (by kernel_rfl) rfl #[.agg #[.int .i64 t202, .slice Ao23 t203.length co23], .agg #[.int .i64 t193, .slice Ao16 t194.length co16]] rfl (by (try simp only [List.map_toArray, List.map_cons, List.map_nil]); first | done | rfl | (simp only [List.length_drop, List.length_take]; rfl)) ?_; (with_reducible refine (laws_eqResponse.calls k t202 _ _ t203 t193 _ _ t194 false _ ?side1 ?side2 ?side3 ?side4 A24.out).mono ?_); (case side1 => refine (Kd.R_reads' (e := 78) (base := w.heap.size) (ok := fun k_ => (((True ∧ some k_ ≠ (.slice Ao12 t190.length co12 : Value).ownBlock) ∧ some k_ ≠ (.slice Ao16 t194.length co16 : Value).ownBlock) ∧ some k_ ≠ (.slice Ao18 t199.length co18 : Value).ownBlock)) (n := t203.length) (c := co23) ?_).2.2; exact (by (with_reducible repeat (first | apply Kd.R_alloc | apply Kd.R_drewN | apply Kd.R_drew)); exact (Kd.R_mono (Kd.R_far (p := ⟨gb207, 1, none⟩) (Kd.R_far (p := ⟨gb207, 0, none⟩) (Kd.R_types HO205.out BK207.out (by decide)) (fun _ hk => hk.2) (.int .i64 t202)) (fun _ hk => hk.2) (.slice Ao23 t203.length co23)) (fun _ h_ => h_.1)))); (case side2 => exact (Kd.R_reads' HO205.out).2.1); (case side3 => refine (Kd.R_reads' (e := 78) (base := w.heap.size) (ok := fun k_ => (((True ∧ some k_ ≠ (.slice Ao12 t190.length co12 : Value).ownBlock) ∧ some k_ ≠ (.slice Ao18 t199.length co18 : Value).ownBlock) ∧ some k_ ≠ (.slice Ao23 t203.length co23 : Value).ownBlock)) (n := t194.length) (c := co16) ?_).2.2; exact (by (with_reducible repeat (first | apply Kd.R_alloc | apply Kd.R_drewN | apply Kd.R_drew)); exact (Kd.R_mono (Kd.R_far (p := ⟨gb207, 1, none⟩) (Kd.R_far (p := ⟨gb207, 0, none⟩) (Kd.R_types HO196.out BK207.out (by decide)) (fun _ hk => hk.2) (.int .i64 t202)) (fun _ hk => hk.2) (.slice Ao23 t203.length co23)) (fun _ h_ => h_.1)))); (case side4 => exact (Kd.R_reads' HO196.out).2.1); rintro e w33 ⟨rfl, hb⟩; refine ⟨_, rfl, ?_⟩; have n0_ := Aside0.mk (Kd.R_below (by (with_reducible repeat (first | apply Kd.R_alloc | apply Kd.R_drewN | apply Kd.R_drew)); exact (Kd.R_mono (Kd.R_far (p := ⟨gb207, 1, none⟩) (Kd.R_far (p := ⟨gb207, 0, none⟩) (Kd.R_types HO192.out BK207.out (by decide)) (fun _ hk => hk.2) (.int .i64 t202)) (fun _ hk => hk.2) (.slice Ao23 t203.length co23)) (fun _ h_ => h_.1))) hb); have n1_ := Aside0.mk (Kd.R_below (by (with_reducible repeat (first | apply Kd.R_alloc | apply Kd.R_drewN | apply Kd.R_drew)); exact (Kd.R_mono (Kd.R_far (p := ⟨gb207, 1, none⟩) (Kd.R_far (p := ⟨gb207, 0, none⟩) (Kd.R_types HO196.out BK207.out (by decide)) (fun _ hk => hk.2) (.int .i64 t202)) (fun _ hk => hk.2) (.slice Ao23 t203.length co23)) (fun _ h_ => h_.1))) hb); have n2_ := Aside0.mk (Kd.R_below (by (with_reducible repeat (first | apply Kd.R_alloc | apply Kd.R_drewN | apply Kd.R_drew)); exact (Kd.R_mono (Kd.R_far (p := ⟨gb207, 1, none⟩) (Kd.R_far (p := ⟨gb207, 0, none⟩) (Kd.R_types HO201.out BK207.out (by decide)) (fun _ hk => hk.2) (.int .i64 t202)) (fun _ hk => hk.2) (.slice Ao23 t203.length co23)) (fun _ h_ => h_.1))) hb); have n3_ := Aside0.mk (Kd.R_below (by (with_reducible repeat (first | apply Kd.R_alloc | apply Kd.R_drewN | apply Kd.R_drew)); exact (Kd.R_mono (Kd.R_far (p := ⟨gb207, 1, none⟩) (Kd.R_far (p := ⟨gb207, 0, none⟩) (Kd.R_types HO205.out BK207.out (by decide)) (fun _ hk => hk.2) (.int .i64 t202)) (fun _ hk => hk.2) (.slice Ao23 t203.length co23)) (fun _ h_ => h_.1))) hb); have n4_ := Aside0.mk (blk_below (g := gb198) (o := .cells #[.int .i64 t193, .slice Ao16 t194.length co16] 57 (0, 0)) (by (with_reducible repeat (first | refine blk_drewN ?_ _ | refine blk_drew ?_ | refine blk_alloc ?_ _)); refine blk_far ?_ NB198_207.out _; (with_reducible repeat (first | refine blk_drewN ?_ _ | refine blk_drew ?_ | refine blk_alloc ?_ _)); refine blk_far ?_ NB198_207.out _; (with_reducible repeat (first | refine blk_drewN ?_ _ | refine blk_drew ?_ | refine blk_alloc ?_ _)); exact BK198.out) hb); have n5_ := Aside0.mk (blk_below (g := gb207) (o := .cells #[.int .i64 t202, .slice Ao23 t203.length co23] 57 (0, 0)) (by (with_reducible repeat (first | refine blk_drewN ?_ _ | refine blk_drew ?_ | refine blk_alloc ?_ _)); refine blk_put (cs := #[.int .i64 t202, .slice none 0 0]) ?_ 1 _ rfl; (with_reducible repeat (first | refine blk_drewN ?_ _ | refine blk_drew ?_ | refine blk_alloc ?_ _)); refine blk_put (cs := #[.int .i64 0, .slice none 0 0]) ?_ 0 _ rfl; (with_reducible repeat (first | refine blk_drewN ?_ _ | refine blk_drew ?_ | refine blk_alloc ?_ _)); exact BK207.out) hb); have n6_ := Aside0.mk (below_step (by repeat (first | (with_reducible first | exact HB.out | apply below_alloc | apply pw_below_drewN | apply below_drew1 | refine below_set ?_ GE198.out | refine below_set ?_ GE207.out) | exact HB.out)) hb); clear HO192; clear HO196; clear HO201; clear HO205; clear BK198; clear BK207; clear HB; have HO192 := n0_; have HO196 := n1_; have HO201 := n2_; have HO205 := n3_; have BK198 := n4_; have BK207 := n5_; have HB := n6_; clear n0_ n1_ n2_ n3_ n4_ n5_ n6_; (try clear hb); (try clear hb2); (try clear hk); (try clear hi)))
        go_meet
        case rel => exact ⟨_, (true), (by first | rfl | (simp; done) | (simp [*]; done)), H', ⟨by first | omega | exact Nat.le_refl _⟩, ⟨by (with_reducible repeat (first | apply Kd.R_alloc | apply Kd.R_drewN | apply Kd.R_drew)); exact Kd.R_mono HO201.out (fun _ hk => ⟨hk.1.2, hk.2⟩)⟩, ⟨by (with_reducible repeat (first | apply Kd.R_alloc | apply Kd.R_drewN | apply Kd.R_drew)); exact Kd.R_mono HO196.out (fun _ hk => ⟨hk.1.2, hk.2⟩)⟩, ⟨by (with_reducible repeat (first | apply Kd.R_alloc | apply Kd.R_drewN | apply Kd.R_drew)); exact Kd.R_mono HO205.out (fun _ hk => ⟨hk.2, hk.1.2⟩)⟩, ⟨by (with_reducible repeat (first | refine blk_drewN ?_ _ | refine blk_drew ?_ | refine blk_alloc ?_ _)); exact BK198.out⟩, ⟨by (with_reducible repeat (first | refine blk_drewN ?_ _ | refine blk_drew ?_ | refine blk_alloc ?_ _)); exact BK207.out⟩, ⟨by repeat (first | (with_reducible first | exact HB.out | apply below_alloc | apply pw_below_drewN | apply below_drew1 | refine below_set ?_ GE198.out | refine below_set ?_ GE207.out) | exact HB.out)⟩⟩
    case rest =>
      clear HC9
      try clear c1
      try clear c2
      try clear p2
      try clear c3
      try clear c3b0
      try clear c10
      try clear c16
      try clear c18
      try clear c21
      try clear c25
      try clear c26
      try clear c30
      try clear hcz15_0
      try clear hcz15_1
      try clear hcz22_0
      try clear hcz22_1
      try clear hcz27_0
      try clear hcz27_1
      try clear hcz28_0
      try clear hcz28_1
      try clear hcz31_0
      try clear hcz31_1
      try clear hcz32_0
      try clear hcz32_1
      try clear hfz15_0
      try clear hfz15_1
      try clear hfz22_0
      try clear hfz22_1
      try clear hfz27_0
      try clear hfz27_1
      try clear hfz28_0
      try clear hfz28_1
      try clear hfz31_0
      try clear hfz31_1
      try clear hfz32_0
      try clear hfz32_1
      obtain ⟨kq, x40_8, rfl, HA, HJ8, HO_6, HO_199001, HO_208001, BK198, BK207, HB⟩ := hcut
      cases kq with
      | zero => exact absurd HA.out (by simp [laws_FnExactResponseOf.j0])
      | succ kj8 =>
        have H := HA.out
        clear HA
        simp only [laws_FnExactResponseOf.j0] at H
        by_cases c34 : x40_8 = true
        · subst c34
          have H1 : (some false) = some r := by rw [if_pos rfl] at H; exact H
          clear H
          have H := H1
          clear H1
          obtain rfl := Option.some.inj H
          go_wp2
          go_ret
          exact ⟨by first | rfl | (simp [errW_none, errW_some] <;> rfl) | (simp [*, errW_none, errW_some] <;> rfl), by repeat (first | (with_reducible first | exact HB.out | apply below_alloc | apply pw_below_drewN | apply below_drew1 | refine below_set ?_ GE198.out | refine below_set ?_ GE207.out) | exact HB.out)⟩
        · replace c34 := Bool.eq_false_iff.mpr c34
          subst c34
          have H1 : ((laws_toFieldS.f kj8 l0).bind fun t209 => ((laws_eqFieldS.f kj8 t199 t209).bind fun t212 => (if t212 = true then ((laws_markFieldS.f kj8 t199 1).bind fun bt213 => (if bt213.1 < 0 then (laws_FnExactResponseOf.j1 kj8 l0 t197 true t193 t194 t202 t203) else ((laws_eqResponse.f kj8 t202 t203 t193 t194).bind fun t215 => (if t215 = true then (laws_FnExactResponseOf.j1 kj8 l0 t197 (t206 != t197) t193 t194 t202 t203) else (laws_FnExactResponseOf.j1 kj8 l0 t197 true t193 t194 t202 t203))))) else (some false)))) = some r := by rw [if_neg (show ¬ (false = true) by decide)] at H; exact H
          clear H
          have H := H1
          clear H1
          replace H := Option.bind_eq_some_iff.mp H
          obtain ⟨t209, A350, H⟩ := H
          replace H : ((laws_eqFieldS.f kj8 t199 t209).bind fun t212 => (if t212 = true then ((laws_markFieldS.f kj8 t199 1).bind fun bt213 => (if bt213.1 < 0 then (laws_FnExactResponseOf.j1 kj8 l0 t197 true t193 t194 t202 t203) else ((laws_eqResponse.f kj8 t202 t203 t193 t194).bind fun t215 => (if t215 = true then (laws_FnExactResponseOf.j1 kj8 l0 t197 (t206 != t197) t193 t194 t202 t203) else (laws_FnExactResponseOf.j1 kj8 l0 t197 true t193 t194 t202 t203))))) else (some false))) = some r := H
          have A35 := Aside0.mk A350
          clear A350
          replace H := Option.bind_eq_some_iff.mp H
          obtain ⟨t212, A360, H⟩ := H
          replace H : (if t212 = true then ((laws_markFieldS.f kj8 t199 1).bind fun bt213 => (if bt213.1 < 0 then (laws_FnExactResponseOf.j1 kj8 l0 t197 true t193 t194 t202 t203) else ((laws_eqResponse.f kj8 t202 t203 t193 t194).bind fun t215 => (if t215 = true then (laws_FnExactResponseOf.j1 kj8 l0 t197 (t206 != t197) t193 t194 t202 t203) else (laws_FnExactResponseOf.j1 kj8 l0 t197 true t193 t194 t202 t203))))) else (some false)) = some r := H
          have A36 := Aside0.mk A360
          clear A360
          by_cases c37 : t212 = true
          · subst c37
            have H1 : ((laws_markFieldS.f kj8 t199 1).bind fun bt213 => (if bt213.1 < 0 then (laws_FnExactResponseOf.j1 kj8 l0 t197 true t193 t194 t202 t203) else ((laws_eqResponse.f kj8 t202 t203 t193 t194).bind fun t215 => (if t215 = true then (laws_FnExactResponseOf.j1 kj8 l0 t197 (t206 != t197) t193 t194 t202 t203) else (laws_FnExactResponseOf.j1 kj8 l0 t197 true t193 t194 t202 t203))))) = some r := by rw [if_pos rfl] at H; exact H
            clear H
            have H := H1
            clear H1
            replace H := Option.bind_eq_some_iff.mp H
            obtain ⟨⟨t213, t214⟩, A380, H⟩ := H
            replace H : (if t213 < 0 then (laws_FnExactResponseOf.j1 kj8 l0 t197 true t193 t194 t202 t203) else ((laws_eqResponse.f kj8 t202 t203 t193 t194).bind fun t215 => (if t215 = true then (laws_FnExactResponseOf.j1 kj8 l0 t197 (t206 != t197) t193 t194 t202 t203) else (laws_FnExactResponseOf.j1 kj8 l0 t197 true t193 t194 t202 t203)))) = some r := H
            have A38 := Aside0.mk A380
            clear A380
            have HC39 := Aside0.mk H
            clear H
            go_upto_region 14 with (first | ((with_reducible refine gate_callee (f := 18) rfl ?_); refine goesL_ (some 43) rfl rfl Tryd.func18 (by kernel_rfl) rfl #[.slice A0 l0.length c0] rfl (by (try simp only [List.map_toArray, List.map_cons, List.map_nil]); first | done | rfl | (simp only [List.length_drop, List.length_take]; rfl)) ?_; (with_reducible refine (laws_toFieldS.calls kj8 _ _ l0 t209 _ ?side1 ?side2 A35.out).mono ?_); (case side1 => repeat (first | exact (Kd.C_below HR0.out HB.out) | (with_reducible refine Kd.C_alloc ?_ _) | (with_reducible refine Kd.C_drewN ?_ _) | (with_reducible refine Kd.C_drew ?_))); (case side2 => exact HC0.out); rintro e w40 ⟨v210, rfl, ho0, hb⟩; refine ⟨_, rfl, ?_⟩; have n0_ := Aside0.mk (Kd.R_elder' (by (with_reducible repeat (first | apply Kd.R_alloc | apply Kd.R_drewN | apply Kd.R_drew)); exact HO_6.out) (Kd.R_base ho0) hb); have n1_ := Aside0.mk (Kd.R_elder' (by (with_reducible repeat (first | apply Kd.R_alloc | apply Kd.R_drewN | apply Kd.R_drew)); exact HO_199001.out) (Kd.R_base ho0) hb); have n2_ := Aside0.mk (Kd.R_elder' (by (with_reducible repeat (first | apply Kd.R_alloc | apply Kd.R_drewN | apply Kd.R_drew)); exact HO_208001.out) (Kd.R_base ho0) hb); have n3_ := Aside0.mk (Kd.R_lower (Kd.R_new' (Kd.R_new' (Kd.R_new' ho0 (Kd.R_lt (by (with_reducible repeat (first | apply Kd.R_alloc | apply Kd.R_drewN | apply Kd.R_drew)); exact HO_6.out))) (Kd.R_lt (by (with_reducible repeat (first | apply Kd.R_alloc | apply Kd.R_drewN | apply Kd.R_drew)); exact HO_199001.out))) (Kd.R_lt (by (with_reducible repeat (first | apply Kd.R_alloc | apply Kd.R_drewN | apply Kd.R_drew)); exact HO_208001.out))) (below_size (by repeat (first | (with_reducible first | exact HB.out | apply below_alloc | apply pw_below_drewN | apply below_drew1 | refine below_set ?_ GE198.out | refine below_set ?_ GE207.out) | exact HB.out)))); have n4_ := Aside0.mk (blk_below (g := gb198) (o := .cells #[.int .i64 t193, .slice Ao16 t194.length co16] 57 (0, 0)) (by (with_reducible repeat (first | refine blk_drewN ?_ _ | refine blk_drew ?_ | refine blk_alloc ?_ _)); exact BK198.out) hb); have n5_ := Aside0.mk (blk_below (g := gb207) (o := .cells #[.int .i64 t202, .slice Ao23 t203.length co23] 57 (0, 0)) (by (with_reducible repeat (first | refine blk_drewN ?_ _ | refine blk_drew ?_ | refine blk_alloc ?_ _)); exact BK207.out) hb); have n6_ := Aside0.mk (below_step (by repeat (first | (with_reducible first | exact HB.out | apply below_alloc | apply pw_below_drewN | apply below_drew1 | refine below_set ?_ GE198.out | refine below_set ?_ GE207.out) | exact HB.out)) hb); clear HO_6; clear HO_199001; clear HO_208001; clear BK198; clear BK207; clear HB; have HO_6 := n0_; have HO_199001 := n1_; have HO_208001 := n2_; have HO211 := n3_; have BK198 := n4_; have BK207 := n5_; have HB := n6_; clear n0_ n1_ n2_ n3_ n4_ n5_ n6_; (try clear hb); (try clear hb2); (try clear hk); (try clear hi); (try clear ho0); obtain ⟨Ao41, co41, eo41⟩ := Kd.R_slice HO211.out; subst eo41) | ((with_reducible refine gate_callee (f := 20) rfl ?_); refine goesL_ (some 44) rfl rfl Tryd.func20 (by kernel_rfl) rfl #[.slice Ao18 t199.length co18, .slice Ao41 t209.length co41] rfl (by (try simp only [List.map_toArray, List.map_cons, List.map_nil]); first | done | rfl | (simp only [List.length_drop, List.length_take]; rfl)) ?_; (with_reducible refine (laws_eqFieldS.calls kj8 _ _ t199 _ _ t209 true _ ?side1 ?side2 ?side3 ?side4 A36.out).mono ?_); (case side1 => repeat (first | exact (Kd.R_reads' HO_6.out).2.2 | (with_reducible refine Kd.C_alloc ?_ _) | (with_reducible refine Kd.C_drewN ?_ _) | (with_reducible refine Kd.C_drew ?_))); (case side2 => exact (Kd.R_reads' HO_6.out).2.1); (case side3 => repeat (first | exact (Kd.R_reads' HO211.out).2.2 | (with_reducible refine Kd.C_alloc ?_ _) | (with_reducible refine Kd.C_drewN ?_ _) | (with_reducible refine Kd.C_drew ?_))); (case side4 => exact (Kd.R_reads' HO211.out).2.1); rintro e w42 ⟨rfl, hb⟩; refine ⟨_, rfl, ?_⟩; have n0_ := Aside0.mk (Kd.R_below (by (with_reducible repeat (first | apply Kd.R_alloc | apply Kd.R_drewN | apply Kd.R_drew)); exact HO_6.out) hb); have n1_ := Aside0.mk (Kd.R_below (by (with_reducible repeat (first | apply Kd.R_alloc | apply Kd.R_drewN | apply Kd.R_drew)); exact HO_199001.out) hb); have n2_ := Aside0.mk (Kd.R_below (by (with_reducible repeat (first | apply Kd.R_alloc | apply Kd.R_drewN | apply Kd.R_drew)); exact HO_208001.out) hb); have n3_ := Aside0.mk (Kd.R_below (by (with_reducible repeat (first | apply Kd.R_alloc | apply Kd.R_drewN | apply Kd.R_drew)); exact HO211.out) hb); have n4_ := Aside0.mk (blk_below (g := gb198) (o := .cells #[.int .i64 t193, .slice Ao16 t194.length co16] 57 (0, 0)) (by (with_reducible repeat (first | refine blk_drewN ?_ _ | refine blk_drew ?_ | refine blk_alloc ?_ _)); exact BK198.out) hb); have n5_ := Aside0.mk (blk_below (g := gb207) (o := .cells #[.int .i64 t202, .slice Ao23 t203.length co23] 57 (0, 0)) (by (with_reducible repeat (first | refine blk_drewN ?_ _ | refine blk_drew ?_ | refine blk_alloc ?_ _)); exact BK207.out) hb); have n6_ := Aside0.mk (below_step (by repeat (first | (with_reducible first | exact HB.out | apply below_alloc | apply pw_below_drewN | apply below_drew1 | refine below_set ?_ GE198.out | refine below_set ?_ GE207.out) | exact HB.out)) hb); clear HO_6; clear HO_199001; clear HO_208001; clear HO211; clear BK198; clear BK207; clear HB; have HO_6 := n0_; have HO_199001 := n1_; have HO_208001 := n2_; have HO211 := n3_; have BK198 := n4_; have BK207 := n5_; have HB := n6_; clear n0_ n1_ n2_ n3_ n4_ n5_ n6_; (try clear hb); (try clear hb2); (try clear hk); (try clear hi)) | ((with_reducible refine gate_callee (f := 27) rfl ?_); refine goesL_ (some 48) rfl rfl Tryd.func27 (by kernel_rfl) rfl #[.slice Ao18 t199.length co18, .int .i64 1] rfl (by (try simp only [List.map_toArray, List.map_cons, List.map_nil]); first | done | rfl | (simp only [List.length_drop, List.length_take]; rfl)) ?_; (with_reducible refine (laws_markFieldS.calls kj8 (fun k_ => some k_ = (.slice Ao18 t199.length co18 : Value).ownBlock) (.slice Ao18 t199.length co18) t199 1 t213 t214 w _ ?side1 ?side2 A38.out).mono ?_); (case side1 => repeat (first | (with_reducible first | exact HB.out | apply below_alloc | apply pw_below_drewN | apply below_drew1 | refine below_set ?_ GE198.out | refine below_set ?_ GE207.out) | exact HB.out)); (case side2 => exact Kd.R_tight rfl HO_6.out); rintro e w43 ⟨rfl, hy0, hb, hkp⟩; refine ⟨_, rfl, ?_⟩; have n0_ := Aside0.mk (Kd.R_reok rfl hy0 (fun k_ e_ => HO_6.out.1 k_ e_)); have n1_ := Aside0.mk (Kd.R_mono (ok' := fun k_ => some k_ ≠ (.slice Ao18 t199.length co18 : Value).ownBlock ∧ some k_ ≠ (.slice Ao23 t203.length co23 : Value).ownBlock ∧ some k_ ≠ (.slice Ao41 t209.length co41 : Value).ownBlock) (Kd.R_keptB (HO_199001.out) hkp (fun k_ hk_ hs_ => (hk_.1.1) hs_)) (fun k_ hk_ => ⟨hk_.1.1.1, hk_.1.1.2, hk_.1.2⟩)); have n2_ := Aside0.mk (Kd.R_mono (ok' := fun k_ => some k_ ≠ (.slice Ao18 t199.length co18 : Value).ownBlock ∧ some k_ ≠ (.slice Ao16 t194.length co16 : Value).ownBlock ∧ some k_ ≠ (.slice Ao41 t209.length co41 : Value).ownBlock) (Kd.R_keptB (HO_208001.out) hkp (fun k_ hk_ hs_ => (hk_.1.1) hs_)) (fun k_ hk_ => ⟨hk_.1.1.1, hk_.1.1.2, hk_.1.2⟩)); have n3_ := Aside0.mk (blk_kept (by (with_reducible repeat (first | refine blk_drewN ?_ _ | refine blk_drew ?_ | refine blk_alloc ?_ _)); exact BK198.out) hkp (fun hs_ => (fun e_ => (Kd.R_ne HO_6.out BK198.out (by decide)) e_) hs_)); have n4_ := Aside0.mk (blk_kept (by (with_reducible repeat (first | refine blk_drewN ?_ _ | refine blk_drew ?_ | refine blk_alloc ?_ _)); exact BK207.out) hkp (fun hs_ => (fun e_ => (Kd.R_ne HO_6.out BK207.out (by decide)) e_) hs_)); have n5_ := Aside0.mk (Kd.R_mono (ok' := fun k_ => some k_ ≠ (.slice Ao18 t199.length co18 : Value).ownBlock ∧ some k_ ≠ (.slice Ao16 t194.length co16 : Value).ownBlock ∧ some k_ ≠ (.slice Ao23 t203.length co23 : Value).ownBlock) (Kd.R_keptB (HO211.out) hkp (fun k_ hk_ hs_ => (hk_.1.1.2) hs_)) (fun k_ hk_ => ⟨hk_.1.1.1.2, hk_.1.1.2, hk_.1.2⟩)); have n6_ := Aside0.mk (hb); clear HO_6; clear HO_199001; clear HO_208001; clear BK198; clear BK207; clear HO211; clear HB; have HO_6 := n0_; have HO_199001 := n1_; have HO_208001 := n2_; have BK198 := n3_; have BK207 := n4_; have HO211 := n5_; have HB := n6_; clear n0_ n1_ n2_ n3_ n4_ n5_ n6_; (try clear hb); (try clear hkp); (try clear hy0)))
            (try simp only [Act.put, List.setIfInBounds_toArray, List.set_cons_zero, List.set_cons_succ])
            go_cut [61] (fun v61 wc => ∃ (kq : Nat) (x61_38 : Bool), v61 = .bool x61_38 ∧ Aside0 (laws_FnExactResponseOf.j1 kq l0 t197 x61_38 t193 t194 t202 t203 = some r) ∧ Aside0 (kq ≤ kj8) ∧ Aside0 (Kd.R k78 78 wc w.heap.size (fun k_ => some k_ ≠ ((.slice Ao23 t203.length co23) : Value).ownBlock) (.slice Ao16 t194.length co16) t194) ∧ Aside0 (Kd.R k78 78 wc w.heap.size (fun k_ => some k_ ≠ ((.slice Ao16 t194.length co16) : Value).ownBlock) (.slice Ao23 t203.length co23) t203) ∧ Aside0 (wc.heap[gb198]? = some (.cells #[.int .i64 t193, (.slice Ao16 t194.length co16)] 57 (0, 0))) ∧ Aside0 (wc.heap[gb207]? = some (.cells #[.int .i64 t202, (.slice Ao23 t203.length co23)] 57 (0, 0))) ∧ Aside0 (Below w.heap.size w wc))
            case first =>
              have H := HC39.out
              clear HC39
              by_cases c44 : t213 < 0
              · rw [if_pos c44] at H
                have c44b0 : decide (t213 < 0) = true := decide_eq_true c44
                clear c44
                (first | rw [c44b0] | (simp only [i64_w, i32_w]; rw [c44b0]) | skip)
                have H' := Aside0.mk H
                clear H
                go_wp2
                go_meet
                case rel => exact ⟨_, (true), (by first | rfl | (simp; done) | (simp [*]; done)), H', ⟨by have := HJ8.out; first | omega | exact Nat.le_refl _⟩, ⟨by (with_reducible repeat (first | apply Kd.R_alloc | apply Kd.R_drewN | apply Kd.R_drew)); exact Kd.R_mono HO_199001.out (fun _ hk => hk.2.1)⟩, ⟨by (with_reducible repeat (first | apply Kd.R_alloc | apply Kd.R_drewN | apply Kd.R_drew)); exact Kd.R_mono HO_208001.out (fun _ hk => hk.2.1)⟩, ⟨by (with_reducible repeat (first | refine blk_drewN ?_ _ | refine blk_drew ?_ | refine blk_alloc ?_ _)); exact BK198.out⟩, ⟨by (with_reducible repeat (first | refine blk_drewN ?_ _ | refine blk_drew ?_ | refine blk_alloc ?_ _)); exact BK207.out⟩, ⟨by repeat (first | (with_reducible first | exact HB.out | apply below_alloc | apply pw_below_drewN | apply below_drew1 | refine below_set ?_ GE198.out | refine below_set ?_ GE207.out) | exact HB.out)⟩⟩
              · rw [if_neg c44] at H
                have c44b0 : decide (t213 < 0) = false := decide_eq_false c44
                clear c44
                (first | rw [c44b0] | (simp only [i64_w, i32_w]; rw [c44b0]) | skip)
                replace H := Option.bind_eq_some_iff.mp H
                obtain ⟨t215, A450, H⟩ := H
                replace H : (if t215 = true then (laws_FnExactResponseOf.j1 kj8 l0 t197 (t206 != t197) t193 t194 t202 t203) else (laws_FnExactResponseOf.j1 kj8 l0 t197 true t193 t194 t202 t203)) = some r := H
                have A45 := Aside0.mk A450
                clear A450
                by_cases c46 : t215 = true
                · subst c46
                  have H1 : (laws_FnExactResponseOf.j1 kj8 l0 t197 (t206 != t197) t193 t194 t202 t203) = some r := by rw [if_pos rfl] at H; exact H
                  clear H
                  have H := H1
                  clear H1
                  have H' := Aside0.mk H
                  clear H
                  have hnb47 := NB207_198.out
                  have hnc47 := NB198_207.out
                  have hcz48_0 : w43.cell? ⟨gb207, 0, none⟩ = some (.int .i64 t202) := (blk_cell BK207.out 0).trans rfl
                  have hcz48_1 : w43.cell? ⟨gb207, 1, none⟩ = some (.slice Ao23 t203.length co23) := (blk_cell BK207.out 1).trans rfl
                  have hfz48_0 := blk_frozen BK207.out 0
                  have hfz48_1 := blk_frozen BK207.out 1
                  have hcz49_0 : w43.cell? ⟨gb198, 0, none⟩ = some (.int .i64 t193) := (blk_cell BK198.out 0).trans rfl
                  have hcz49_1 : w43.cell? ⟨gb198, 1, none⟩ = some (.slice Ao16 t194.length co16) := (blk_cell BK198.out 1).trans rfl
                  have hfz49_0 := blk_frozen BK198.out 0
                  have hfz49_1 := blk_frozen BK198.out 1
                  go_wp2_with (first | (go_at_call 36; (with_reducible refine (laws_eqResponse.calls kj8 t202 _ _ t203 t193 _ _ t194 true _ ?side1 ?side2 ?side3 ?side4 A45.out).mono ?_); (case side1 => repeat (first | exact (Kd.R_reads' HO_208001.out).2.2 | (with_reducible refine Kd.C_alloc ?_ _) | (with_reducible refine Kd.C_drewN ?_ _) | (with_reducible refine Kd.C_drew ?_))); (case side2 => exact (Kd.R_reads' HO_208001.out).2.1); (case side3 => repeat (first | exact (Kd.R_reads' HO_199001.out).2.2 | (with_reducible refine Kd.C_alloc ?_ _) | (with_reducible refine Kd.C_drewN ?_ _) | (with_reducible refine Kd.C_drew ?_))); (case side4 => exact (Kd.R_reads' HO_199001.out).2.1); rintro e w50 ⟨rfl, hb⟩; have n0_ := Aside0.mk (Kd.R_below (by (with_reducible repeat (first | apply Kd.R_alloc | apply Kd.R_drewN | apply Kd.R_drew)); exact HO_6.out) hb); have n1_ := Aside0.mk (Kd.R_below (by (with_reducible repeat (first | apply Kd.R_alloc | apply Kd.R_drewN | apply Kd.R_drew)); exact HO_199001.out) hb); have n2_ := Aside0.mk (Kd.R_below (by (with_reducible repeat (first | apply Kd.R_alloc | apply Kd.R_drewN | apply Kd.R_drew)); exact HO_208001.out) hb); have n3_ := Aside0.mk (Kd.R_below (by (with_reducible repeat (first | apply Kd.R_alloc | apply Kd.R_drewN | apply Kd.R_drew)); exact HO211.out) hb); have n4_ := Aside0.mk (blk_below (g := gb198) (o := .cells #[.int .i64 t193, .slice Ao16 t194.length co16] 57 (0, 0)) (by (with_reducible repeat (first | refine blk_drewN ?_ _ | refine blk_drew ?_ | refine blk_alloc ?_ _)); exact BK198.out) hb); have n5_ := Aside0.mk (blk_below (g := gb207) (o := .cells #[.int .i64 t202, .slice Ao23 t203.length co23] 57 (0, 0)) (by (with_reducible repeat (first | refine blk_drewN ?_ _ | refine blk_drew ?_ | refine blk_alloc ?_ _)); exact BK207.out) hb); have n6_ := Aside0.mk (below_step (by repeat (first | (with_reducible first | exact HB.out | apply below_alloc | apply pw_below_drewN | apply below_drew1 | refine below_set ?_ GE198.out | refine below_set ?_ GE207.out) | exact HB.out)) hb); clear HO_6; clear HO_199001; clear HO_208001; clear HO211; clear BK198; clear BK207; clear HB; have HO_6 := n0_; have HO_199001 := n1_; have HO_208001 := n2_; have HO211 := n3_; have BK198 := n4_; have BK207 := n5_; have HB := n6_; clear n0_ n1_ n2_ n3_ n4_ n5_ n6_; (try clear hb); (try clear hb2); (try clear hk); (try clear hi)))
                  go_meet
                  case rel => exact ⟨_, ((t206 != t197)), (by first | rfl | (simp; done) | (simp [*]; done)), H', ⟨by have := HJ8.out; first | omega | exact Nat.le_refl _⟩, ⟨by (with_reducible repeat (first | apply Kd.R_alloc | apply Kd.R_drewN | apply Kd.R_drew)); exact Kd.R_mono HO_199001.out (fun _ hk => hk.2.1)⟩, ⟨by (with_reducible repeat (first | apply Kd.R_alloc | apply Kd.R_drewN | apply Kd.R_drew)); exact Kd.R_mono HO_208001.out (fun _ hk => hk.2.1)⟩, ⟨by (with_reducible repeat (first | refine blk_drewN ?_ _ | refine blk_drew ?_ | refine blk_alloc ?_ _)); exact BK198.out⟩, ⟨by (with_reducible repeat (first | refine blk_drewN ?_ _ | refine blk_drew ?_ | refine blk_alloc ?_ _)); exact BK207.out⟩, ⟨by repeat (first | (with_reducible first | exact HB.out | apply below_alloc | apply pw_below_drewN | apply below_drew1 | refine below_set ?_ GE198.out | refine below_set ?_ GE207.out) | exact HB.out)⟩⟩
                · replace c46 := Bool.eq_false_iff.mpr c46
                  subst c46
                  have H1 : (laws_FnExactResponseOf.j1 kj8 l0 t197 true t193 t194 t202 t203) = some r := by rw [if_neg (show ¬ (false = true) by decide)] at H; exact H
                  clear H
                  have H := H1
                  clear H1
                  have H' := Aside0.mk H
                  clear H
                  have hnb51 := NB207_198.out
                  have hnc51 := NB198_207.out
                  have hcz52_0 : w43.cell? ⟨gb207, 0, none⟩ = some (.int .i64 t202) := (blk_cell BK207.out 0).trans rfl
                  have hcz52_1 : w43.cell? ⟨gb207, 1, none⟩ = some (.slice Ao23 t203.length co23) := (blk_cell BK207.out 1).trans rfl
                  have hfz52_0 := blk_frozen BK207.out 0
                  have hfz52_1 := blk_frozen BK207.out 1
                  have hcz53_0 : w43.cell? ⟨gb198, 0, none⟩ = some (.int .i64 t193) := (blk_cell BK198.out 0).trans rfl
                  have hcz53_1 : w43.cell? ⟨gb198, 1, none⟩ = some (.slice Ao16 t194.length co16) := (blk_cell BK198.out 1).trans rfl
                  have hfz53_0 := blk_frozen BK198.out 0
                  have hfz53_1 := blk_frozen BK198.out 1
                  go_wp2_with (first | (go_at_call 36; (with_reducible refine (laws_eqResponse.calls kj8 t202 _ _ t203 t193 _ _ t194 false _ ?side1 ?side2 ?side3 ?side4 A45.out).mono ?_); (case side1 => repeat (first | exact (Kd.R_reads' HO_208001.out).2.2 | (with_reducible refine Kd.C_alloc ?_ _) | (with_reducible refine Kd.C_drewN ?_ _) | (with_reducible refine Kd.C_drew ?_))); (case side2 => exact (Kd.R_reads' HO_208001.out).2.1); (case side3 => repeat (first | exact (Kd.R_reads' HO_199001.out).2.2 | (with_reducible refine Kd.C_alloc ?_ _) | (with_reducible refine Kd.C_drewN ?_ _) | (with_reducible refine Kd.C_drew ?_))); (case side4 => exact (Kd.R_reads' HO_199001.out).2.1); rintro e w54 ⟨rfl, hb⟩; have n0_ := Aside0.mk (Kd.R_below (by (with_reducible repeat (first | apply Kd.R_alloc | apply Kd.R_drewN | apply Kd.R_drew)); exact HO_6.out) hb); have n1_ := Aside0.mk (Kd.R_below (by (with_reducible repeat (first | apply Kd.R_alloc | apply Kd.R_drewN | apply Kd.R_drew)); exact HO_199001.out) hb); have n2_ := Aside0.mk (Kd.R_below (by (with_reducible repeat (first | apply Kd.R_alloc | apply Kd.R_drewN | apply Kd.R_drew)); exact HO_208001.out) hb); have n3_ := Aside0.mk (Kd.R_below (by (with_reducible repeat (first | apply Kd.R_alloc | apply Kd.R_drewN | apply Kd.R_drew)); exact HO211.out) hb); have n4_ := Aside0.mk (blk_below (g := gb198) (o := .cells #[.int .i64 t193, .slice Ao16 t194.length co16] 57 (0, 0)) (by (with_reducible repeat (first | refine blk_drewN ?_ _ | refine blk_drew ?_ | refine blk_alloc ?_ _)); exact BK198.out) hb); have n5_ := Aside0.mk (blk_below (g := gb207) (o := .cells #[.int .i64 t202, .slice Ao23 t203.length co23] 57 (0, 0)) (by (with_reducible repeat (first | refine blk_drewN ?_ _ | refine blk_drew ?_ | refine blk_alloc ?_ _)); exact BK207.out) hb); have n6_ := Aside0.mk (below_step (by repeat (first | (with_reducible first | exact HB.out | apply below_alloc | apply pw_below_drewN | apply below_drew1 | refine below_set ?_ GE198.out | refine below_set ?_ GE207.out) | exact HB.out)) hb); clear HO_6; clear HO_199001; clear HO_208001; clear HO211; clear BK198; clear BK207; clear HB; have HO_6 := n0_; have HO_199001 := n1_; have HO_208001 := n2_; have HO211 := n3_; have BK198 := n4_; have BK207 := n5_; have HB := n6_; clear n0_ n1_ n2_ n3_ n4_ n5_ n6_; (try clear hb); (try clear hb2); (try clear hk); (try clear hi)))
                  go_meet
                  case rel => exact ⟨_, (true), (by first | rfl | (simp; done) | (simp [*]; done)), H', ⟨by have := HJ8.out; first | omega | exact Nat.le_refl _⟩, ⟨by (with_reducible repeat (first | apply Kd.R_alloc | apply Kd.R_drewN | apply Kd.R_drew)); exact Kd.R_mono HO_199001.out (fun _ hk => hk.2.1)⟩, ⟨by (with_reducible repeat (first | apply Kd.R_alloc | apply Kd.R_drewN | apply Kd.R_drew)); exact Kd.R_mono HO_208001.out (fun _ hk => hk.2.1)⟩, ⟨by (with_reducible repeat (first | refine blk_drewN ?_ _ | refine blk_drew ?_ | refine blk_alloc ?_ _)); exact BK198.out⟩, ⟨by (with_reducible repeat (first | refine blk_drewN ?_ _ | refine blk_drew ?_ | refine blk_alloc ?_ _)); exact BK207.out⟩, ⟨by repeat (first | (with_reducible first | exact HB.out | apply below_alloc | apply pw_below_drewN | apply below_drew1 | refine below_set ?_ GE198.out | refine below_set ?_ GE207.out) | exact HB.out)⟩⟩
            case rest =>
              clear HC39
              try clear c1
              try clear c2
              try clear p2
              try clear c3
              try clear c3b0
              try clear c4
              try clear c5
              try clear c10
              try clear c16
              try clear c18
              try clear c20
              try clear c21
              try clear c25
              try clear c26
              try clear c27
              try clear c30
              try clear c34
              try clear c36
              try clear c37
              try clear c38
              try clear c39
              try clear c44
              try clear c44b0
              try clear c46
              try clear c47
              try clear c51
              try clear hcz15_0
              try clear hcz15_1
              try clear hcz22_0
              try clear hcz22_1
              try clear hcz27_0
              try clear hcz27_1
              try clear hcz28_0
              try clear hcz28_1
              try clear hcz31_0
              try clear hcz31_1
              try clear hcz32_0
              try clear hcz32_1
              try clear hcz48_0
              try clear hcz48_1
              try clear hcz49_0
              try clear hcz49_1
              try clear hcz52_0
              try clear hcz52_1
              try clear hcz53_0
              try clear hcz53_1
              try clear hfz15_0
              try clear hfz15_1
              try clear hfz22_0
              try clear hfz22_1
              try clear hfz27_0
              try clear hfz27_1
              try clear hfz28_0
              try clear hfz28_1
              try clear hfz31_0
              try clear hfz31_1
              try clear hfz32_0
              try clear hfz32_1
              try clear hfz48_0
              try clear hfz48_1
              try clear hfz49_0
              try clear hfz49_1
              try clear hfz52_0
              try clear hfz52_1
              try clear hfz53_0
              try clear hfz53_1
              try clear p2
              obtain ⟨kq, x61_38, rfl, HA, HJ38, HO_199001, HO_208001, BK198, BK207, HB⟩ := hcut
              cases kq with
              | zero => exact absurd HA.out (by simp [laws_FnExactResponseOf.j1])
              | succ kj38 =>
                have H := HA.out
                clear HA
                simp only [laws_FnExactResponseOf.j1] at H
                by_cases c55 : x61_38 = true
                · subst c55
                  have H1 : (some false) = some r := by rw [if_pos rfl] at H; exact H
                  clear H
                  have H := H1
                  clear H1
                  obtain rfl := Option.some.inj H
                  go_wp2
                  go_ret
                  exact ⟨by first | rfl | (simp [errW_none, errW_some] <;> rfl) | (simp [*, errW_none, errW_some] <;> rfl), by repeat (first | (with_reducible first | exact HB.out | apply below_alloc | apply pw_below_drewN | apply below_drew1 | refine below_set ?_ GE198.out | refine below_set ?_ GE207.out) | exact HB.out)⟩
                · replace c55 := Bool.eq_false_iff.mpr c55
                  subst c55
                  have H1 : ((laws_markResponse.f kj38 t202 t203 1).bind fun bt216 => ((laws_heldResponse.f kj38 t202 bt216.2 1).bind fun t218 => (if t218 < 0 then (some false) else (if t218 = bt216.1 then ((laws_toFieldS.f kj38 l0).bind fun t219 => ((impl_ResponseOf.f kj38 t219).bind fun bt222 => ((laws_eqResponse.f kj38 bt222.1 bt222.2.1 t193 t194).bind fun t228 => (if t228 = true then (laws_FnExactResponseOf.j2 kj38 bt216.1 (bt222.2.2 != t197) t202 bt216.2) else (laws_FnExactResponseOf.j2 kj38 bt216.1 true t202 bt216.2))))) else (some false))))) = some r := by rw [if_neg (show ¬ (false = true) by decide)] at H; exact H
                  clear H
                  have H := H1
                  clear H1
                  replace H := Option.bind_eq_some_iff.mp H
                  obtain ⟨⟨t216, t217⟩, A560, H⟩ := H
                  replace H : ((laws_heldResponse.f kj38 t202 t217 1).bind fun t218 => (if t218 < 0 then (some false) else (if t218 = t216 then ((laws_toFieldS.f kj38 l0).bind fun t219 => ((impl_ResponseOf.f kj38 t219).bind fun bt222 => ((laws_eqResponse.f kj38 bt222.1 bt222.2.1 t193 t194).bind fun t228 => (if t228 = true then (laws_FnExactResponseOf.j2 kj38 t216 (bt222.2.2 != t197) t202 t217) else (laws_FnExactResponseOf.j2 kj38 t216 true t202 t217))))) else (some false)))) = some r := H
                  have A56 := Aside0.mk A560
                  clear A560
                  replace H := Option.bind_eq_some_iff.mp H
                  obtain ⟨t218, A570, H⟩ := H
                  replace H : (if t218 < 0 then (some false) else (if t218 = t216 then ((laws_toFieldS.f kj38 l0).bind fun t219 => ((impl_ResponseOf.f kj38 t219).bind fun bt222 => ((laws_eqResponse.f kj38 bt222.1 bt222.2.1 t193 t194).bind fun t228 => (if t228 = true then (laws_FnExactResponseOf.j2 kj38 t216 (bt222.2.2 != t197) t202 t217) else (laws_FnExactResponseOf.j2 kj38 t216 true t202 t217))))) else (some false))) = some r := H
                  have A57 := Aside0.mk A570
                  clear A570
                  by_cases c58 : t218 < 0
                  · rw [if_pos c58] at H
                    have c58b0 : decide (t218 < 0) = true := decide_eq_true c58
                    clear c58
                    obtain rfl := Option.some.inj H
                    have hnb59 := NB207_198.out
                    have hnc59 := NB198_207.out
                    have hcz60_0 : wc.cell? ⟨gb207, 0, none⟩ = some (.int .i64 t202) := (blk_cell BK207.out 0).trans rfl
                    have hcz60_1 : wc.cell? ⟨gb207, 1, none⟩ = some (.slice Ao23 t203.length co23) := (blk_cell BK207.out 1).trans rfl
                    have hfz60_0 := blk_frozen BK207.out 0
                    have hfz60_1 := blk_frozen BK207.out 1
                    go_wp2_with (first | ((with_reducible refine gate_callee (f := 37) rfl ?_); refine goesL_ (some 64) rfl rfl Tryd.func37 (by kernel_rfl) rfl #[.agg #[.int .i64 t202, .slice Ao23 t203.length co23], .int .i64 1] rfl (by (try simp only [List.map_toArray, List.map_cons, List.map_nil]); first | done | rfl | (simp only [List.length_drop, List.length_take]; rfl)) ?_; (with_reducible refine (laws_markResponse.calls kj38 t202 (fun k_ => some k_ = (.slice Ao23 t203.length co23 : Value).ownBlock) (.slice Ao23 t203.length co23) t203 1 t216 t217 w _ ?side1 ?side2 A56.out).mono ?_); (case side1 => repeat (first | (with_reducible first | exact HB.out | apply below_alloc | apply pw_below_drewN | apply below_drew1 | refine below_set ?_ GE198.out | refine below_set ?_ GE207.out) | exact HB.out)); (case side2 => exact Kd.R_tight rfl HO_208001.out); rintro e w61 ⟨rfl, hy0, hb, hkp⟩; refine ⟨_, rfl, ?_⟩; have n0_ := Aside0.mk (Kd.R_mono (ok' := fun k_ => some k_ ≠ (.slice Ao23 t203.length co23 : Value).ownBlock) (Kd.R_keptB (HO_199001.out) hkp (fun k_ hk_ hs_ => (hk_) hs_)) (fun k_ hk_ => hk_.1)); have n1_ := Aside0.mk (Kd.R_reok rfl hy0 (fun k_ e_ => HO_208001.out.1 k_ e_)); have n2_ := Aside0.mk (blk_kept (by (with_reducible repeat (first | refine blk_drewN ?_ _ | refine blk_drew ?_ | refine blk_alloc ?_ _)); exact BK198.out) hkp (fun hs_ => (fun e_ => (Kd.R_ne HO_208001.out BK198.out (by decide)) e_) hs_)); have n3_ := Aside0.mk (blk_kept (by (with_reducible repeat (first | refine blk_drewN ?_ _ | refine blk_drew ?_ | refine blk_alloc ?_ _)); exact BK207.out) hkp (fun hs_ => (fun e_ => (Kd.R_ne HO_208001.out BK207.out (by decide)) e_) hs_)); have n4_ := Aside0.mk (hb); clear HO_199001; clear HO_208001; clear BK198; clear BK207; clear HB; have HO_199001 := n0_; have HO_208001 := n1_; have BK198 := n2_; have BK207 := n3_; have HB := n4_; clear n0_ n1_ n2_ n3_ n4_; (try clear hb); (try clear hkp); (try clear hy0); have hcz62_0 : w61.cell? ⟨gb207, 0, none⟩ = some (.int .i64 t202) := (blk_cell BK207.out 0).trans rfl; have hcz62_1 : w61.cell? ⟨gb207, 1, none⟩ = some (.slice Ao23 t203.length co23) := (blk_cell BK207.out 1).trans rfl; have hfz62_0 := blk_frozen BK207.out 0; have hfz62_1 := blk_frozen BK207.out 1) | ((with_reducible refine gate_callee (f := 40) rfl ?_); refine goesL_ (some 67) rfl rfl Tryd.func40 (by kernel_rfl) rfl #[.agg #[.int .i64 t202, .slice Ao23 t217.length co23], .int .i64 1] rfl (by (try simp only [List.map_toArray, List.map_cons, List.map_nil]); first | done | (rw [show t217.length = t203.length from (Kd.R_reads' HO_208001.out).1.symm] <;> rfl) | rfl | (simp only [List.length_drop, List.length_take]; rfl)) ?_; (with_reducible refine (laws_heldResponse.calls kj38 t202 _ _ t217 1 t218 _ ?side1 ?side2 A57.out).mono ?_); (case side1 => repeat (first | exact (Kd.R_reads' HO_208001.out).2.2 | (with_reducible refine Kd.C_alloc ?_ _) | (with_reducible refine Kd.C_drewN ?_ _) | (with_reducible refine Kd.C_drew ?_))); (case side2 => rw [show t217.length = t203.length from (Kd.R_reads' HO_208001.out).1.symm]; exact (Kd.R_reads' HO_208001.out).2.1); rintro e w63 ⟨rfl, hb⟩; refine ⟨_, rfl, ?_⟩; have n0_ := Aside0.mk (Kd.R_below (by (with_reducible repeat (first | apply Kd.R_alloc | apply Kd.R_drewN | apply Kd.R_drew)); exact HO_199001.out) hb); have n1_ := Aside0.mk (Kd.R_below (by (with_reducible repeat (first | apply Kd.R_alloc | apply Kd.R_drewN | apply Kd.R_drew)); exact HO_208001.out) hb); have n2_ := Aside0.mk (blk_below (g := gb198) (o := .cells #[.int .i64 t193, .slice Ao16 t194.length co16] 57 (0, 0)) (by (with_reducible repeat (first | refine blk_drewN ?_ _ | refine blk_drew ?_ | refine blk_alloc ?_ _)); exact BK198.out) hb); have n3_ := Aside0.mk (blk_below (g := gb207) (o := .cells #[.int .i64 t202, .slice Ao23 t203.length co23] 57 (0, 0)) (by (with_reducible repeat (first | refine blk_drewN ?_ _ | refine blk_drew ?_ | refine blk_alloc ?_ _)); exact BK207.out) hb); have n4_ := Aside0.mk (below_step (by repeat (first | (with_reducible first | exact HB.out | apply below_alloc | apply pw_below_drewN | apply below_drew1 | refine below_set ?_ GE198.out | refine below_set ?_ GE207.out) | exact HB.out)) hb); clear HO_199001; clear HO_208001; clear BK198; clear BK207; clear HB; have HO_199001 := n0_; have HO_208001 := n1_; have BK198 := n2_; have BK207 := n3_; have HB := n4_; clear n0_ n1_ n2_ n3_ n4_; (try clear hb); (try clear hb2); (try clear hk); (try clear hi)))
                    go_ret
                    exact ⟨by first | rfl | (simp [errW_none, errW_some] <;> rfl) | (simp [*, errW_none, errW_some] <;> rfl), by repeat (first | (with_reducible first | exact HB.out | apply below_alloc | apply pw_below_drewN | apply below_drew1 | refine below_set ?_ GE198.out | refine below_set ?_ GE207.out) | exact HB.out)⟩
                  · rw [if_neg c58] at H
                    have c58b0 : decide (t218 < 0) = false := decide_eq_false c58
                    clear c58
                    by_cases c64 : t218 = t216
                    · rw [if_pos c64] at H
                      have c64b0 : (t218 == t216) = true := beq_iff_eq.mpr c64
                      have c64b1 : (t218 != t216) = false := bne_eq_false_iff_eq.mpr c64
                      clear c64
                      replace H := Option.bind_eq_some_iff.mp H
                      obtain ⟨t219, A650, H⟩ := H
                      replace H : ((impl_ResponseOf.f kj38 t219).bind fun bt222 => ((laws_eqResponse.f kj38 bt222.1 bt222.2.1 t193 t194).bind fun t228 => (if t228 = true then (laws_FnExactResponseOf.j2 kj38 t216 (bt222.2.2 != t197) t202 t217) else (laws_FnExactResponseOf.j2 kj38 t216 true t202 t217)))) = some r := H
                      have A65 := Aside0.mk A650
                      clear A650
                      replace H := Option.bind_eq_some_iff.mp H
                      obtain ⟨⟨t222, t223, t226⟩, A660, H⟩ := H
                      replace H : ((laws_eqResponse.f kj38 t222 t223 t193 t194).bind fun t228 => (if t228 = true then (laws_FnExactResponseOf.j2 kj38 t216 (t226 != t197) t202 t217) else (laws_FnExactResponseOf.j2 kj38 t216 true t202 t217))) = some r := H
                      have A66 := Aside0.mk A660
                      clear A660
                      have HC67 := Aside0.mk H
                      clear H
                      have hnb68 := NB207_198.out
                      have hnc68 := NB198_207.out
                      have hcz69_0 : wc.cell? ⟨gb207, 0, none⟩ = some (.int .i64 t202) := (blk_cell BK207.out 0).trans rfl
                      have hcz69_1 : wc.cell? ⟨gb207, 1, none⟩ = some (.slice Ao23 t203.length co23) := (blk_cell BK207.out 1).trans rfl
                      have hfz69_0 := blk_frozen BK207.out 0
                      have hfz69_1 := blk_frozen BK207.out 1
                      go_upto_region 25 with (first | ((with_reducible refine gate_callee (f := 37) rfl ?_); refine goesL_ (some 64) rfl rfl Tryd.func37 (by kernel_rfl) rfl #[.agg #[.int .i64 t202, .slice Ao23 t203.length co23], .int .i64 1] rfl (by (try simp only [List.map_toArray, List.map_cons, List.map_nil]); first | done | rfl | (simp only [List.length_drop, List.length_take]; rfl)) ?_; (with_reducible refine (laws_markResponse.calls kj38 t202 (fun k_ => some k_ = (.slice Ao23 t203.length co23 : Value).ownBlock) (.slice Ao23 t203.length co23) t203 1 t216 t217 w _ ?side1 ?side2 A56.out).mono ?_); (case side1 => repeat (first | (with_reducible first | exact HB.out | apply below_alloc | apply pw_below_drewN | apply below_drew1 | refine below_set ?_ GE198.out | refine below_set ?_ GE207.out) | exact HB.out)); (case side2 => exact Kd.R_tight rfl HO_208001.out); rintro e w70 ⟨rfl, hy0, hb, hkp⟩; refine ⟨_, rfl, ?_⟩; have n0_ := Aside0.mk (Kd.R_mono (ok' := fun k_ => some k_ ≠ (.slice Ao23 t203.length co23 : Value).ownBlock) (Kd.R_keptB (HO_199001.out) hkp (fun k_ hk_ hs_ => (hk_) hs_)) (fun k_ hk_ => hk_.1)); have n1_ := Aside0.mk (Kd.R_reok rfl hy0 (fun k_ e_ => HO_208001.out.1 k_ e_)); have n2_ := Aside0.mk (blk_kept (by (with_reducible repeat (first | refine blk_drewN ?_ _ | refine blk_drew ?_ | refine blk_alloc ?_ _)); exact BK198.out) hkp (fun hs_ => (fun e_ => (Kd.R_ne HO_208001.out BK198.out (by decide)) e_) hs_)); have n3_ := Aside0.mk (blk_kept (by (with_reducible repeat (first | refine blk_drewN ?_ _ | refine blk_drew ?_ | refine blk_alloc ?_ _)); exact BK207.out) hkp (fun hs_ => (fun e_ => (Kd.R_ne HO_208001.out BK207.out (by decide)) e_) hs_)); have n4_ := Aside0.mk (hb); clear HO_199001; clear HO_208001; clear BK198; clear BK207; clear HB; have HO_199001 := n0_; have HO_208001 := n1_; have BK198 := n2_; have BK207 := n3_; have HB := n4_; clear n0_ n1_ n2_ n3_ n4_; (try clear hb); (try clear hkp); (try clear hy0); have hcz71_0 : w70.cell? ⟨gb207, 0, none⟩ = some (.int .i64 t202) := (blk_cell BK207.out 0).trans rfl; have hcz71_1 : w70.cell? ⟨gb207, 1, none⟩ = some (.slice Ao23 t203.length co23) := (blk_cell BK207.out 1).trans rfl; have hfz71_0 := blk_frozen BK207.out 0; have hfz71_1 := blk_frozen BK207.out 1) | ((with_reducible refine gate_callee (f := 40) rfl ?_); refine goesL_ (some 67) rfl rfl Tryd.func40 (by kernel_rfl) rfl #[.agg #[.int .i64 t202, .slice Ao23 t217.length co23], .int .i64 1] rfl (by (try simp only [List.map_toArray, List.map_cons, List.map_nil]); first | done | (rw [show t217.length = t203.length from (Kd.R_reads' HO_208001.out).1.symm] <;> rfl) | rfl | (simp only [List.length_drop, List.length_take]; rfl)) ?_; (with_reducible refine (laws_heldResponse.calls kj38 t202 _ _ t217 1 t218 _ ?side1 ?side2 A57.out).mono ?_); (case side1 => repeat (first | exact (Kd.R_reads' HO_208001.out).2.2 | (with_reducible refine Kd.C_alloc ?_ _) | (with_reducible refine Kd.C_drewN ?_ _) | (with_reducible refine Kd.C_drew ?_))); (case side2 => rw [show t217.length = t203.length from (Kd.R_reads' HO_208001.out).1.symm]; exact (Kd.R_reads' HO_208001.out).2.1); rintro e w72 ⟨rfl, hb⟩; refine ⟨_, rfl, ?_⟩; have n0_ := Aside0.mk (Kd.R_below (by (with_reducible repeat (first | apply Kd.R_alloc | apply Kd.R_drewN | apply Kd.R_drew)); exact HO_199001.out) hb); have n1_ := Aside0.mk (Kd.R_below (by (with_reducible repeat (first | apply Kd.R_alloc | apply Kd.R_drewN | apply Kd.R_drew)); exact HO_208001.out) hb); have n2_ := Aside0.mk (blk_below (g := gb198) (o := .cells #[.int .i64 t193, .slice Ao16 t194.length co16] 57 (0, 0)) (by (with_reducible repeat (first | refine blk_drewN ?_ _ | refine blk_drew ?_ | refine blk_alloc ?_ _)); exact BK198.out) hb); have n3_ := Aside0.mk (blk_below (g := gb207) (o := .cells #[.int .i64 t202, .slice Ao23 t203.length co23] 57 (0, 0)) (by (with_reducible repeat (first | refine blk_drewN ?_ _ | refine blk_drew ?_ | refine blk_alloc ?_ _)); exact BK207.out) hb); have n4_ := Aside0.mk (below_step (by repeat (first | (with_reducible first | exact HB.out | apply below_alloc | apply pw_below_drewN | apply below_drew1 | refine below_set ?_ GE198.out | refine below_set ?_ GE207.out) | exact HB.out)) hb); clear HO_199001; clear HO_208001; clear BK198; clear BK207; clear HB; have HO_199001 := n0_; have HO_208001 := n1_; have BK198 := n2_; have BK207 := n3_; have HB := n4_; clear n0_ n1_ n2_ n3_ n4_; (try clear hb); (try clear hb2); (try clear hk); (try clear hi)) | ((with_reducible refine gate_callee (f := 18) rfl ?_); refine goesL_ (some 75) rfl rfl Tryd.func18 (by kernel_rfl) rfl #[.slice A0 l0.length c0] rfl (by (try simp only [List.map_toArray, List.map_cons, List.map_nil]); first | done | rfl | (simp only [List.length_drop, List.length_take]; rfl)) ?_; (with_reducible refine (laws_toFieldS.calls kj38 _ _ l0 t219 _ ?side1 ?side2 A65.out).mono ?_); (case side1 => repeat (first | exact (Kd.C_below HR0.out HB.out) | (with_reducible refine Kd.C_alloc ?_ _) | (with_reducible refine Kd.C_drewN ?_ _) | (with_reducible refine Kd.C_drew ?_))); (case side2 => exact HC0.out); rintro e w73 ⟨v220, rfl, ho0, hb⟩; refine ⟨_, rfl, ?_⟩; have n0_ := Aside0.mk (Kd.R_elder' (by (with_reducible repeat (first | apply Kd.R_alloc | apply Kd.R_drewN | apply Kd.R_drew)); exact HO_199001.out) (Kd.R_base ho0) hb); have n1_ := Aside0.mk (Kd.R_elder' (by (with_reducible repeat (first | apply Kd.R_alloc | apply Kd.R_drewN | apply Kd.R_drew)); exact HO_208001.out) (Kd.R_base ho0) hb); have n2_ := Aside0.mk (Kd.R_lower (Kd.R_new' (Kd.R_new' ho0 (Kd.R_lt (by (with_reducible repeat (first | apply Kd.R_alloc | apply Kd.R_drewN | apply Kd.R_drew)); exact HO_199001.out))) (Kd.R_lt (by (with_reducible repeat (first | apply Kd.R_alloc | apply Kd.R_drewN | apply Kd.R_drew)); exact HO_208001.out))) (below_size (by repeat (first | (with_reducible first | exact HB.out | apply below_alloc | apply pw_below_drewN | apply below_drew1 | refine below_set ?_ GE198.out | refine below_set ?_ GE207.out) | exact HB.out)))); have n3_ := Aside0.mk (blk_below (g := gb198) (o := .cells #[.int .i64 t193, .slice Ao16 t194.length co16] 57 (0, 0)) (by (with_reducible repeat (first | refine blk_drewN ?_ _ | refine blk_drew ?_ | refine blk_alloc ?_ _)); exact BK198.out) hb); have n4_ := Aside0.mk (blk_below (g := gb207) (o := .cells #[.int .i64 t202, .slice Ao23 t203.length co23] 57 (0, 0)) (by (with_reducible repeat (first | refine blk_drewN ?_ _ | refine blk_drew ?_ | refine blk_alloc ?_ _)); exact BK207.out) hb); have n5_ := Aside0.mk (below_step (by repeat (first | (with_reducible first | exact HB.out | apply below_alloc | apply pw_below_drewN | apply below_drew1 | refine below_set ?_ GE198.out | refine below_set ?_ GE207.out) | exact HB.out)) hb); clear HO_199001; clear HO_208001; clear BK198; clear BK207; clear HB; have HO_199001 := n0_; have HO_208001 := n1_; have HO221 := n2_; have BK198 := n3_; have BK207 := n4_; have HB := n5_; clear n0_ n1_ n2_ n3_ n4_ n5_; (try clear hb); (try clear hb2); (try clear hk); (try clear hi); (try clear ho0); obtain ⟨Ao74, co74, eo74⟩ := Kd.R_slice HO221.out; subst eo74) | ((with_reducible refine gate_callee (f := 39) rfl ?_); refine goesL_ (some 76) rfl rfl Tryd.func39 (by kernel_rfl) rfl #[.slice Ao74 t219.length co74] rfl (by (try simp only [List.map_toArray, List.map_cons, List.map_nil]); first | done | rfl | (simp only [List.length_drop, List.length_take]; rfl)) ?_; (with_reducible refine (impl_ResponseOf.calls kj38 _ _ t219 t222 t223 t226 _ ?side1 ?side2 A66.out).mono ?_); (case side1 => repeat (first | exact (Kd.R_reads' HO221.out).2.2 | (with_reducible refine Kd.C_alloc ?_ _) | (with_reducible refine Kd.C_drewN ?_ _) | (with_reducible refine Kd.C_drew ?_))); (case side2 => exact (Kd.R_reads' HO221.out).2.1); rintro e w75 ⟨v224, rfl, ho0, hb⟩; refine ⟨_, rfl, ?_⟩; have n0_ := Aside0.mk (Kd.R_elder' (by (with_reducible repeat (first | apply Kd.R_alloc | apply Kd.R_drewN | apply Kd.R_drew)); exact HO_199001.out) (Kd.R_base ho0) hb); have n1_ := Aside0.mk (Kd.R_elder' (by (with_reducible repeat (first | apply Kd.R_alloc | apply Kd.R_drewN | apply Kd.R_drew)); exact HO_208001.out) (Kd.R_base ho0) hb); have n2_ := Aside0.mk (Kd.R_elder' (by (with_reducible repeat (first | apply Kd.R_alloc | apply Kd.R_drewN | apply Kd.R_drew)); exact HO221.out) (Kd.R_base ho0) hb); have n3_ := Aside0.mk (Kd.R_lower (Kd.R_new' (Kd.R_new' (Kd.R_new' ho0 (Kd.R_lt (by (with_reducible repeat (first | apply Kd.R_alloc | apply Kd.R_drewN | apply Kd.R_drew)); exact HO_199001.out))) (Kd.R_lt (by (with_reducible repeat (first | apply Kd.R_alloc | apply Kd.R_drewN | apply Kd.R_drew)); exact HO_208001.out))) (Kd.R_lt (by (with_reducible repeat (first | apply Kd.R_alloc | apply Kd.R_drewN | apply Kd.R_drew)); exact HO221.out))) (below_size (by repeat (first | (with_reducible first | exact HB.out | apply below_alloc | apply pw_below_drewN | apply below_drew1 | refine below_set ?_ GE198.out | refine below_set ?_ GE207.out) | exact HB.out)))); have n4_ := Aside0.mk (blk_below (g := gb198) (o := .cells #[.int .i64 t193, .slice Ao16 t194.length co16] 57 (0, 0)) (by (with_reducible repeat (first | refine blk_drewN ?_ _ | refine blk_drew ?_ | refine blk_alloc ?_ _)); exact BK198.out) hb); have n5_ := Aside0.mk (blk_below (g := gb207) (o := .cells #[.int .i64 t202, .slice Ao23 t203.length co23] 57 (0, 0)) (by (with_reducible repeat (first | refine blk_drewN ?_ _ | refine blk_drew ?_ | refine blk_alloc ?_ _)); exact BK207.out) hb); have n6_ := Aside0.mk (below_step (by repeat (first | (with_reducible first | exact HB.out | apply below_alloc | apply pw_below_drewN | apply below_drew1 | refine below_set ?_ GE198.out | refine below_set ?_ GE207.out) | exact HB.out)) hb); clear HO_199001; clear HO_208001; clear HO221; clear BK198; clear BK207; clear HB; have HO_199001 := n0_; have HO_208001 := n1_; have HO221 := n2_; have HO225 := n3_; have BK198 := n4_; have BK207 := n5_; have HB := n6_; clear n0_ n1_ n2_ n3_ n4_ n5_ n6_; (try clear hb); (try clear hb2); (try clear hk); (try clear hi); (try clear ho0)) | ((with_reducible refine gate_dst (N := 12) rfl ?_); refine box_event ?hg (N := 12) ?hd (cs := #[.int .i64 0, .slice none 0 0]) (t := 57) ?hr ?_; (case hd => rfl); (case hg => rfl); (case hr => first | (go_simp; done) | (go_simp; rfl)); intro gb227 hg w76 hbox hb; have n0_ := Aside0.mk (Kd.R_below (by (with_reducible repeat (first | apply Kd.R_alloc | apply Kd.R_drewN | apply Kd.R_drew)); exact HO_199001.out) hb); have n1_ := Aside0.mk (Kd.R_below (by (with_reducible repeat (first | apply Kd.R_alloc | apply Kd.R_drewN | apply Kd.R_drew)); exact HO_208001.out) hb); have n2_ := Aside0.mk (Kd.R_below (by (with_reducible repeat (first | apply Kd.R_alloc | apply Kd.R_drewN | apply Kd.R_drew)); exact HO221.out) hb); have n3_ := Aside0.mk (Kd.R_below (by (with_reducible repeat (first | apply Kd.R_alloc | apply Kd.R_drewN | apply Kd.R_drew)); exact HO225.out) hb); have n4_ := Aside0.mk (blk_below (g := gb198) (o := .cells #[.int .i64 t193, .slice Ao16 t194.length co16] 57 (0, 0)) (by (with_reducible repeat (first | refine blk_drewN ?_ _ | refine blk_drew ?_ | refine blk_alloc ?_ _)); exact BK198.out) hb); have n5_ := Aside0.mk (blk_below (g := gb207) (o := .cells #[.int .i64 t202, .slice Ao23 t203.length co23] 57 (0, 0)) (by (with_reducible repeat (first | refine blk_drewN ?_ _ | refine blk_drew ?_ | refine blk_alloc ?_ _)); exact BK207.out) hb); have n6_ := Aside0.mk (below_step (by repeat (first | (with_reducible first | exact HB.out | apply below_alloc | apply pw_below_drewN | apply below_drew1 | refine below_set ?_ GE198.out | refine below_set ?_ GE207.out) | exact HB.out)) hb); have n7_ := Aside0.mk (hbox); have n8_ := Aside0.mk ((by rw [hg]; exact (below_size (by repeat (first | (with_reducible first | exact HB.out | apply below_alloc | apply pw_below_drewN | apply below_drew1 | refine below_set ?_ GE198.out | refine below_set ?_ GE207.out) | exact HB.out))) : w.heap.size ≤ gb227)); have n9_ := Aside0.mk ((by rw [hg]; exact (below_size (by repeat (first | (with_reducible first | exact HB.out | apply below_alloc | apply pw_below_drewN | apply below_drew1 | refine below_set ?_ GE198.out | refine below_set ?_ GE207.out) | exact HB.out))) : w.heap.size ≤ gb227)); have n10_ := Aside0.mk ((by rw [hg]; exact Nat.ne_of_lt (blk_lt (g := gb198) (o := .cells #[.int .i64 t193, .slice Ao16 t194.length co16] 57 (0, 0)) (by (with_reducible repeat (first | refine blk_drewN ?_ _ | refine blk_drew ?_ | refine blk_alloc ?_ _)); exact BK198.out)) : gb198 ≠ gb227)); have n11_ := Aside0.mk ((by rw [hg]; exact Nat.ne_of_gt (blk_lt (g := gb198) (o := .cells #[.int .i64 t193, .slice Ao16 t194.length co16] 57 (0, 0)) (by (with_reducible repeat (first | refine blk_drewN ?_ _ | refine blk_drew ?_ | refine blk_alloc ?_ _)); exact BK198.out)) : gb227 ≠ gb198)); have n12_ := Aside0.mk ((by rw [hg]; exact Nat.ne_of_lt (blk_lt (g := gb207) (o := .cells #[.int .i64 t202, .slice Ao23 t203.length co23] 57 (0, 0)) (by (with_reducible repeat (first | refine blk_drewN ?_ _ | refine blk_drew ?_ | refine blk_alloc ?_ _)); exact BK207.out)) : gb207 ≠ gb227)); have n13_ := Aside0.mk ((by rw [hg]; exact Nat.ne_of_gt (blk_lt (g := gb207) (o := .cells #[.int .i64 t202, .slice Ao23 t203.length co23] 57 (0, 0)) (by (with_reducible repeat (first | refine blk_drewN ?_ _ | refine blk_drew ?_ | refine blk_alloc ?_ _)); exact BK207.out)) : gb227 ≠ gb207)); clear HO_199001; clear HO_208001; clear HO221; clear HO225; clear BK198; clear BK207; clear HB; have HO_199001 := n0_; have HO_208001 := n1_; have HO221 := n2_; have HO225 := n3_; have BK198 := n4_; have BK207 := n5_; have HB := n6_; have BK227 := n7_; have GW227 := n8_; have GE227 := n9_; have NB198_227 := n10_; have NB227_198 := n11_; have NB207_227 := n12_; have NB227_207 := n13_; clear n0_ n1_ n2_ n3_ n4_ n5_ n6_ n7_ n8_ n9_ n10_ n11_ n12_ n13_; clear hb hbox hg; have hnb77 := NB227_198.out; have hnc77 := NB198_227.out; have hnb78 := NB227_207.out; have hnc78 := NB207_227.out; have hcz79_0 : w76.cell? ⟨gb227, 0, none⟩ = some (.int .i64 0) := (blk_cell BK227.out 0).trans rfl; have hcz79_1 : w76.cell? ⟨gb227, 1, none⟩ = some (.slice none 0 0) := (blk_cell BK227.out 1).trans rfl; have hfz79_0 := blk_frozen BK227.out 0; have hfz79_1 := blk_frozen BK227.out 1; obtain ⟨Ao80, co80, eo80⟩ := Kd.R_slice HO225.out; subst eo80))
                      (try simp only [Act.put, List.setIfInBounds_toArray, List.set_cons_zero, List.set_cons_succ])
                      go_cut [87] (fun v87 wc => ∃ (kq : Nat) (x87_66 : Bool), v87 = .bool x87_66 ∧ Aside0 (laws_FnExactResponseOf.j2 kq t216 x87_66 t202 t217 = some r) ∧ Aside0 (kq ≤ kj38) ∧ Aside0 (Kd.R k78 78 wc w.heap.size (fun k_ => some k_ ≠ ((.slice Ao23 t203.length co23) : Value).ownBlock ∧ some k_ ≠ ((.slice Ao80 t223.length co80) : Value).ownBlock) (.slice Ao16 t194.length co16) t194) ∧ Aside0 (Kd.R k78 78 wc w.heap.size (fun k_ => some k_ ≠ ((.slice Ao16 t194.length co16) : Value).ownBlock ∧ some k_ ≠ ((.slice Ao80 t223.length co80) : Value).ownBlock) (.slice Ao23 t203.length co23) t217) ∧ Aside0 (Kd.R k78 78 wc w.heap.size (fun k_ => some k_ ≠ ((.slice Ao16 t194.length co16) : Value).ownBlock ∧ some k_ ≠ ((.slice Ao23 t203.length co23) : Value).ownBlock) (.slice Ao80 t223.length co80) t223) ∧ Aside0 (wc.heap[gb198]? = some (.cells #[.int .i64 t193, (.slice Ao16 t194.length co16)] 57 (0, 0))) ∧ Aside0 (wc.heap[gb207]? = some (.cells #[.int .i64 t202, (.slice Ao23 t203.length co23)] 57 (0, 0))) ∧ Aside0 (wc.heap[gb227]? = some (.cells #[.int .i64 t222, (.slice Ao80 t223.length co80)] 57 (0, 0))) ∧ Aside0 (Below w.heap.size w wc))
                      case first =>
                        have H := HC67.out
                        clear HC67
                        replace H := Option.bind_eq_some_iff.mp H
                        obtain ⟨t228, A810, H⟩ := H
                        replace H : (if t228 = true then (laws_FnExactResponseOf.j2 kj38 t216 (t226 != t197) t202 t217) else (laws_FnExactResponseOf.j2 kj38 t216 true t202 t217)) = some r := H
                        have A81 := Aside0.mk A810
                        clear A810
                        by_cases c82 : t228 = true
                        · subst c82
                          have H1 : (laws_FnExactResponseOf.j2 kj38 t216 (t226 != t197) t202 t217) = some r := by rw [if_pos rfl] at H; exact H
                          clear H
                          have H := H1
                          clear H1
                          have H' := Aside0.mk H
                          clear H
                          have hnb83 := NB227_198.out
                          have hnc83 := NB198_227.out
                          have hnb84 := NB227_207.out
                          have hnc84 := NB207_227.out
                          have hcz85_0 : w76.cell? ⟨gb227, 0, none⟩ = some (.int .i64 0) := (blk_cell BK227.out 0).trans rfl
                          have hcz85_1 : w76.cell? ⟨gb227, 1, none⟩ = some (.slice none 0 0) := (blk_cell BK227.out 1).trans rfl
                          have hfz85_0 := blk_frozen BK227.out 0
                          have hfz85_1 := blk_frozen BK227.out 1
                          have hnb86 := NB198_207.out
                          have hnc86 := NB207_198.out
                          have hcz87_0 : w76.cell? ⟨gb198, 0, none⟩ = some (.int .i64 t193) := (blk_cell BK198.out 0).trans rfl
                          have hcz87_1 : w76.cell? ⟨gb198, 1, none⟩ = some (.slice Ao16 t194.length co16) := (blk_cell BK198.out 1).trans rfl
                          have hfz87_0 := blk_frozen BK198.out 0
                          have hfz87_1 := blk_frozen BK198.out 1
                          go_wp2_with (first | ((with_reducible refine gate_callee (f := 36) rfl ?_); refine goesL_ (some 81) rfl rfl Tryd.func36 (by kernel_rfl) rfl #[.agg #[.int .i64 t222, .slice Ao80 t223.length co80], .agg #[.int .i64 t193, .slice Ao16 t194.length co16]] rfl (by (try simp only [List.map_toArray, List.map_cons, List.map_nil]); first | done | rfl | (simp only [List.length_drop, List.length_take]; rfl)) ?_; (with_reducible refine (laws_eqResponse.calls kj38 t222 _ _ t223 t193 _ _ t194 true _ ?side1 ?side2 ?side3 ?side4 A81.out).mono ?_); (case side1 => refine (Kd.R_reads' (e := 78) (base := w.heap.size) (ok := fun k_ => (((True ∧ some k_ ≠ (.slice Ao16 t194.length co16 : Value).ownBlock) ∧ some k_ ≠ (.slice Ao23 t203.length co23 : Value).ownBlock) ∧ some k_ ≠ (.slice Ao74 t219.length co74 : Value).ownBlock)) (n := t223.length) (c := co80) ?_).2.2; exact (by (with_reducible repeat (first | apply Kd.R_alloc | apply Kd.R_drewN | apply Kd.R_drew)); exact (Kd.R_mono (Kd.R_far (p := ⟨gb227, 1, none⟩) (Kd.R_far (p := ⟨gb227, 0, none⟩) (Kd.R_types HO225.out BK227.out (by decide)) (fun _ hk => hk.2) (.int .i64 t222)) (fun _ hk => hk.2) (.slice Ao80 t223.length co80)) (fun _ h_ => h_.1)))); (case side2 => exact (Kd.R_reads' HO225.out).2.1); (case side3 => refine (Kd.R_reads' (e := 78) (base := w.heap.size) (ok := fun k_ => ((some k_ ≠ (.slice Ao23 t203.length co23 : Value).ownBlock ∧ some k_ ≠ (.slice Ao74 t219.length co74 : Value).ownBlock) ∧ some k_ ≠ (.slice Ao80 t223.length co80 : Value).ownBlock)) (n := t194.length) (c := co16) ?_).2.2; exact (by (with_reducible repeat (first | apply Kd.R_alloc | apply Kd.R_drewN | apply Kd.R_drew)); exact (Kd.R_mono (Kd.R_far (p := ⟨gb227, 1, none⟩) (Kd.R_far (p := ⟨gb227, 0, none⟩) (Kd.R_types HO_199001.out BK227.out (by decide)) (fun _ hk => hk.2) (.int .i64 t222)) (fun _ hk => hk.2) (.slice Ao80 t223.length co80)) (fun _ h_ => h_.1)))); (case side4 => exact (Kd.R_reads' HO_199001.out).2.1); rintro e w88 ⟨rfl, hb⟩; refine ⟨_, rfl, ?_⟩; have n0_ := Aside0.mk (Kd.R_below (by (with_reducible repeat (first | apply Kd.R_alloc | apply Kd.R_drewN | apply Kd.R_drew)); exact (Kd.R_mono (Kd.R_far (p := ⟨gb227, 1, none⟩) (Kd.R_far (p := ⟨gb227, 0, none⟩) (Kd.R_types HO_199001.out BK227.out (by decide)) (fun _ hk => hk.2) (.int .i64 t222)) (fun _ hk => hk.2) (.slice Ao80 t223.length co80)) (fun _ h_ => h_.1))) hb); have n1_ := Aside0.mk (Kd.R_below (by (with_reducible repeat (first | apply Kd.R_alloc | apply Kd.R_drewN | apply Kd.R_drew)); exact (Kd.R_mono (Kd.R_far (p := ⟨gb227, 1, none⟩) (Kd.R_far (p := ⟨gb227, 0, none⟩) (Kd.R_types HO_208001.out BK227.out (by decide)) (fun _ hk => hk.2) (.int .i64 t222)) (fun _ hk => hk.2) (.slice Ao80 t223.length co80)) (fun _ h_ => h_.1))) hb); have n2_ := Aside0.mk (Kd.R_below (by (with_reducible repeat (first | apply Kd.R_alloc | apply Kd.R_drewN | apply Kd.R_drew)); exact (Kd.R_mono (Kd.R_far (p := ⟨gb227, 1, none⟩) (Kd.R_far (p := ⟨gb227, 0, none⟩) (Kd.R_types HO221.out BK227.out (by decide)) (fun _ hk => hk.2) (.int .i64 t222)) (fun _ hk => hk.2) (.slice Ao80 t223.length co80)) (fun _ h_ => h_.1))) hb); have n3_ := Aside0.mk (Kd.R_below (by (with_reducible repeat (first | apply Kd.R_alloc | apply Kd.R_drewN | apply Kd.R_drew)); exact (Kd.R_mono (Kd.R_far (p := ⟨gb227, 1, none⟩) (Kd.R_far (p := ⟨gb227, 0, none⟩) (Kd.R_types HO225.out BK227.out (by decide)) (fun _ hk => hk.2) (.int .i64 t222)) (fun _ hk => hk.2) (.slice Ao80 t223.length co80)) (fun _ h_ => h_.1))) hb); have n4_ := Aside0.mk (blk_below (g := gb198) (o := .cells #[.int .i64 t193, .slice Ao16 t194.length co16] 57 (0, 0)) (by (with_reducible repeat (first | refine blk_drewN ?_ _ | refine blk_drew ?_ | refine blk_alloc ?_ _)); refine blk_far ?_ NB198_227.out _; (with_reducible repeat (first | refine blk_drewN ?_ _ | refine blk_drew ?_ | refine blk_alloc ?_ _)); refine blk_far ?_ NB198_227.out _; (with_reducible repeat (first | refine blk_drewN ?_ _ | refine blk_drew ?_ | refine blk_alloc ?_ _)); exact BK198.out) hb); have n5_ := Aside0.mk (blk_below (g := gb207) (o := .cells #[.int .i64 t202, .slice Ao23 t203.length co23] 57 (0, 0)) (by (with_reducible repeat (first | refine blk_drewN ?_ _ | refine blk_drew ?_ | refine blk_alloc ?_ _)); refine blk_far ?_ NB207_227.out _; (with_reducible repeat (first | refine blk_drewN ?_ _ | refine blk_drew ?_ | refine blk_alloc ?_ _)); refine blk_far ?_ NB207_227.out _; (with_reducible repeat (first | refine blk_drewN ?_ _ | refine blk_drew ?_ | refine blk_alloc ?_ _)); exact BK207.out) hb); have n6_ := Aside0.mk (blk_below (g := gb227) (o := .cells #[.int .i64 t222, .slice Ao80 t223.length co80] 57 (0, 0)) (by (with_reducible repeat (first | refine blk_drewN ?_ _ | refine blk_drew ?_ | refine blk_alloc ?_ _)); refine blk_put (cs := #[.int .i64 t222, .slice none 0 0]) ?_ 1 _ rfl; (with_reducible repeat (first | refine blk_drewN ?_ _ | refine blk_drew ?_ | refine blk_alloc ?_ _)); refine blk_put (cs := #[.int .i64 0, .slice none 0 0]) ?_ 0 _ rfl; (with_reducible repeat (first | refine blk_drewN ?_ _ | refine blk_drew ?_ | refine blk_alloc ?_ _)); exact BK227.out) hb); have n7_ := Aside0.mk (below_step (by repeat (first | (with_reducible first | exact HB.out | apply below_alloc | apply pw_below_drewN | apply below_drew1 | refine below_set ?_ GE198.out | refine below_set ?_ GE207.out | refine below_set ?_ GE227.out) | exact HB.out)) hb); clear HO_199001; clear HO_208001; clear HO221; clear HO225; clear BK198; clear BK207; clear BK227; clear HB; have HO_199001 := n0_; have HO_208001 := n1_; have HO221 := n2_; have HO225 := n3_; have BK198 := n4_; have BK207 := n5_; have BK227 := n6_; have HB := n7_; clear n0_ n1_ n2_ n3_ n4_ n5_ n6_ n7_; (try clear hb); (try clear hb2); (try clear hk); (try clear hi)))
                          go_meet
                          case rel => exact ⟨_, ((t226 != t197)), (by first | rfl | (simp; done) | (simp [*]; done)), H', ⟨by have := HJ8.out; have := HJ38.out; first | omega | exact Nat.le_refl _⟩, ⟨by (with_reducible repeat (first | apply Kd.R_alloc | apply Kd.R_drewN | apply Kd.R_drew)); exact Kd.R_mono HO_199001.out (fun _ hk => ⟨hk.1.1, hk.2⟩)⟩, ⟨by (with_reducible repeat (first | apply Kd.R_alloc | apply Kd.R_drewN | apply Kd.R_drew)); exact Kd.R_mono HO_208001.out (fun _ hk => ⟨hk.1.1, hk.2⟩)⟩, ⟨by (with_reducible repeat (first | apply Kd.R_alloc | apply Kd.R_drewN | apply Kd.R_drew)); exact Kd.R_mono HO225.out (fun _ hk => ⟨hk.1.1.2, hk.1.2⟩)⟩, ⟨by (with_reducible repeat (first | refine blk_drewN ?_ _ | refine blk_drew ?_ | refine blk_alloc ?_ _)); exact BK198.out⟩, ⟨by (with_reducible repeat (first | refine blk_drewN ?_ _ | refine blk_drew ?_ | refine blk_alloc ?_ _)); exact BK207.out⟩, ⟨by (with_reducible repeat (first | refine blk_drewN ?_ _ | refine blk_drew ?_ | refine blk_alloc ?_ _)); exact BK227.out⟩, ⟨by repeat (first | (with_reducible first | exact HB.out | apply below_alloc | apply pw_below_drewN | apply below_drew1 | refine below_set ?_ GE198.out | refine below_set ?_ GE207.out | refine below_set ?_ GE227.out) | exact HB.out)⟩⟩
                        · replace c82 := Bool.eq_false_iff.mpr c82
                          subst c82
                          have H1 : (laws_FnExactResponseOf.j2 kj38 t216 true t202 t217) = some r := by rw [if_neg (show ¬ (false = true) by decide)] at H; exact H
                          clear H
                          have H := H1
                          clear H1
                          have H' := Aside0.mk H
                          clear H
                          have hnb89 := NB227_198.out
                          have hnc89 := NB198_227.out
                          have hnb90 := NB227_207.out
                          have hnc90 := NB207_227.out
                          have hcz91_0 : w76.cell? ⟨gb227, 0, none⟩ = some (.int .i64 0) := (blk_cell BK227.out 0).trans rfl
                          have hcz91_1 : w76.cell? ⟨gb227, 1, none⟩ = some (.slice none 0 0) := (blk_cell BK227.out 1).trans rfl
                          have hfz91_0 := blk_frozen BK227.out 0
                          have hfz91_1 := blk_frozen BK227.out 1
                          have hnb92 := NB198_207.out
                          have hnc92 := NB207_198.out
                          have hcz93_0 : w76.cell? ⟨gb198, 0, none⟩ = some (.int .i64 t193) := (blk_cell BK198.out 0).trans rfl
                          have hcz93_1 : w76.cell? ⟨gb198, 1, none⟩ = some (.slice Ao16 t194.length co16) := (blk_cell BK198.out 1).trans rfl
                          have hfz93_0 := blk_frozen BK198.out 0
                          have hfz93_1 := blk_frozen BK198.out 1
                          go_wp2_with (first | ((with_reducible refine gate_callee (f := 36) rfl ?_); refine goesL_ (some 81) rfl rfl Tryd.func36 (by kernel_rfl) rfl #[.agg #[.int .i64 t222, .slice Ao80 t223.length co80], .agg #[.int .i64 t193, .slice Ao16 t194.length co16]] rfl (by (try simp only [List.map_toArray, List.map_cons, List.map_nil]); first | done | rfl | (simp only [List.length_drop, List.length_take]; rfl)) ?_; (with_reducible refine (laws_eqResponse.calls kj38 t222 _ _ t223 t193 _ _ t194 false _ ?side1 ?side2 ?side3 ?side4 A81.out).mono ?_); (case side1 => refine (Kd.R_reads' (e := 78) (base := w.heap.size) (ok := fun k_ => (((True ∧ some k_ ≠ (.slice Ao16 t194.length co16 : Value).ownBlock) ∧ some k_ ≠ (.slice Ao23 t203.length co23 : Value).ownBlock) ∧ some k_ ≠ (.slice Ao74 t219.length co74 : Value).ownBlock)) (n := t223.length) (c := co80) ?_).2.2; exact (by (with_reducible repeat (first | apply Kd.R_alloc | apply Kd.R_drewN | apply Kd.R_drew)); exact (Kd.R_mono (Kd.R_far (p := ⟨gb227, 1, none⟩) (Kd.R_far (p := ⟨gb227, 0, none⟩) (Kd.R_types HO225.out BK227.out (by decide)) (fun _ hk => hk.2) (.int .i64 t222)) (fun _ hk => hk.2) (.slice Ao80 t223.length co80)) (fun _ h_ => h_.1)))); (case side2 => exact (Kd.R_reads' HO225.out).2.1); (case side3 => refine (Kd.R_reads' (e := 78) (base := w.heap.size) (ok := fun k_ => ((some k_ ≠ (.slice Ao23 t203.length co23 : Value).ownBlock ∧ some k_ ≠ (.slice Ao74 t219.length co74 : Value).ownBlock) ∧ some k_ ≠ (.slice Ao80 t223.length co80 : Value).ownBlock)) (n := t194.length) (c := co16) ?_).2.2; exact (by (with_reducible repeat (first | apply Kd.R_alloc | apply Kd.R_drewN | apply Kd.R_drew)); exact (Kd.R_mono (Kd.R_far (p := ⟨gb227, 1, none⟩) (Kd.R_far (p := ⟨gb227, 0, none⟩) (Kd.R_types HO_199001.out BK227.out (by decide)) (fun _ hk => hk.2) (.int .i64 t222)) (fun _ hk => hk.2) (.slice Ao80 t223.length co80)) (fun _ h_ => h_.1)))); (case side4 => exact (Kd.R_reads' HO_199001.out).2.1); rintro e w94 ⟨rfl, hb⟩; refine ⟨_, rfl, ?_⟩; have n0_ := Aside0.mk (Kd.R_below (by (with_reducible repeat (first | apply Kd.R_alloc | apply Kd.R_drewN | apply Kd.R_drew)); exact (Kd.R_mono (Kd.R_far (p := ⟨gb227, 1, none⟩) (Kd.R_far (p := ⟨gb227, 0, none⟩) (Kd.R_types HO_199001.out BK227.out (by decide)) (fun _ hk => hk.2) (.int .i64 t222)) (fun _ hk => hk.2) (.slice Ao80 t223.length co80)) (fun _ h_ => h_.1))) hb); have n1_ := Aside0.mk (Kd.R_below (by (with_reducible repeat (first | apply Kd.R_alloc | apply Kd.R_drewN | apply Kd.R_drew)); exact (Kd.R_mono (Kd.R_far (p := ⟨gb227, 1, none⟩) (Kd.R_far (p := ⟨gb227, 0, none⟩) (Kd.R_types HO_208001.out BK227.out (by decide)) (fun _ hk => hk.2) (.int .i64 t222)) (fun _ hk => hk.2) (.slice Ao80 t223.length co80)) (fun _ h_ => h_.1))) hb); have n2_ := Aside0.mk (Kd.R_below (by (with_reducible repeat (first | apply Kd.R_alloc | apply Kd.R_drewN | apply Kd.R_drew)); exact (Kd.R_mono (Kd.R_far (p := ⟨gb227, 1, none⟩) (Kd.R_far (p := ⟨gb227, 0, none⟩) (Kd.R_types HO221.out BK227.out (by decide)) (fun _ hk => hk.2) (.int .i64 t222)) (fun _ hk => hk.2) (.slice Ao80 t223.length co80)) (fun _ h_ => h_.1))) hb); have n3_ := Aside0.mk (Kd.R_below (by (with_reducible repeat (first | apply Kd.R_alloc | apply Kd.R_drewN | apply Kd.R_drew)); exact (Kd.R_mono (Kd.R_far (p := ⟨gb227, 1, none⟩) (Kd.R_far (p := ⟨gb227, 0, none⟩) (Kd.R_types HO225.out BK227.out (by decide)) (fun _ hk => hk.2) (.int .i64 t222)) (fun _ hk => hk.2) (.slice Ao80 t223.length co80)) (fun _ h_ => h_.1))) hb); have n4_ := Aside0.mk (blk_below (g := gb198) (o := .cells #[.int .i64 t193, .slice Ao16 t194.length co16] 57 (0, 0)) (by (with_reducible repeat (first | refine blk_drewN ?_ _ | refine blk_drew ?_ | refine blk_alloc ?_ _)); refine blk_far ?_ NB198_227.out _; (with_reducible repeat (first | refine blk_drewN ?_ _ | refine blk_drew ?_ | refine blk_alloc ?_ _)); refine blk_far ?_ NB198_227.out _; (with_reducible repeat (first | refine blk_drewN ?_ _ | refine blk_drew ?_ | refine blk_alloc ?_ _)); exact BK198.out) hb); have n5_ := Aside0.mk (blk_below (g := gb207) (o := .cells #[.int .i64 t202, .slice Ao23 t203.length co23] 57 (0, 0)) (by (with_reducible repeat (first | refine blk_drewN ?_ _ | refine blk_drew ?_ | refine blk_alloc ?_ _)); refine blk_far ?_ NB207_227.out _; (with_reducible repeat (first | refine blk_drewN ?_ _ | refine blk_drew ?_ | refine blk_alloc ?_ _)); refine blk_far ?_ NB207_227.out _; (with_reducible repeat (first | refine blk_drewN ?_ _ | refine blk_drew ?_ | refine blk_alloc ?_ _)); exact BK207.out) hb); have n6_ := Aside0.mk (blk_below (g := gb227) (o := .cells #[.int .i64 t222, .slice Ao80 t223.length co80] 57 (0, 0)) (by (with_reducible repeat (first | refine blk_drewN ?_ _ | refine blk_drew ?_ | refine blk_alloc ?_ _)); refine blk_put (cs := #[.int .i64 t222, .slice none 0 0]) ?_ 1 _ rfl; (with_reducible repeat (first | refine blk_drewN ?_ _ | refine blk_drew ?_ | refine blk_alloc ?_ _)); refine blk_put (cs := #[.int .i64 0, .slice none 0 0]) ?_ 0 _ rfl; (with_reducible repeat (first | refine blk_drewN ?_ _ | refine blk_drew ?_ | refine blk_alloc ?_ _)); exact BK227.out) hb); have n7_ := Aside0.mk (below_step (by repeat (first | (with_reducible first | exact HB.out | apply below_alloc | apply pw_below_drewN | apply below_drew1 | refine below_set ?_ GE198.out | refine below_set ?_ GE207.out | refine below_set ?_ GE227.out) | exact HB.out)) hb); clear HO_199001; clear HO_208001; clear HO221; clear HO225; clear BK198; clear BK207; clear BK227; clear HB; have HO_199001 := n0_; have HO_208001 := n1_; have HO221 := n2_; have HO225 := n3_; have BK198 := n4_; have BK207 := n5_; have BK227 := n6_; have HB := n7_; clear n0_ n1_ n2_ n3_ n4_ n5_ n6_ n7_; (try clear hb); (try clear hb2); (try clear hk); (try clear hi)))
                          go_meet
                          case rel => exact ⟨_, (true), (by first | rfl | (simp; done) | (simp [*]; done)), H', ⟨by have := HJ8.out; have := HJ38.out; first | omega | exact Nat.le_refl _⟩, ⟨by (with_reducible repeat (first | apply Kd.R_alloc | apply Kd.R_drewN | apply Kd.R_drew)); exact Kd.R_mono HO_199001.out (fun _ hk => ⟨hk.1.1, hk.2⟩)⟩, ⟨by (with_reducible repeat (first | apply Kd.R_alloc | apply Kd.R_drewN | apply Kd.R_drew)); exact Kd.R_mono HO_208001.out (fun _ hk => ⟨hk.1.1, hk.2⟩)⟩, ⟨by (with_reducible repeat (first | apply Kd.R_alloc | apply Kd.R_drewN | apply Kd.R_drew)); exact Kd.R_mono HO225.out (fun _ hk => ⟨hk.1.1.2, hk.1.2⟩)⟩, ⟨by (with_reducible repeat (first | refine blk_drewN ?_ _ | refine blk_drew ?_ | refine blk_alloc ?_ _)); exact BK198.out⟩, ⟨by (with_reducible repeat (first | refine blk_drewN ?_ _ | refine blk_drew ?_ | refine blk_alloc ?_ _)); exact BK207.out⟩, ⟨by (with_reducible repeat (first | refine blk_drewN ?_ _ | refine blk_drew ?_ | refine blk_alloc ?_ _)); exact BK227.out⟩, ⟨by repeat (first | (with_reducible first | exact HB.out | apply below_alloc | apply pw_below_drewN | apply below_drew1 | refine below_set ?_ GE198.out | refine below_set ?_ GE207.out | refine below_set ?_ GE227.out) | exact HB.out)⟩⟩
                      case rest =>
                        clear HC67
                        try clear c1
                        try clear c2
                        try clear p2
                        try clear c3
                        try clear c3b0
                        try clear c4
                        try clear c5
                        try clear c6
                        try clear c7
                        try clear c8
                        try clear c9
                        try clear c10
                        try clear c16
                        try clear c18
                        try clear c20
                        try clear c21
                        try clear c25
                        try clear c26
                        try clear c27
                        try clear c30
                        try clear c34
                        try clear c36
                        try clear c37
                        try clear c38
                        try clear c39
                        try clear c40
                        try clear c44
                        try clear c44b0
                        try clear c46
                        try clear c47
                        try clear c51
                        try clear c55
                        try clear c58
                        try clear c58b0
                        try clear c59
                        try clear c64
                        try clear c64b0
                        try clear c64b1
                        try clear c68
                        try clear c77
                        try clear c78
                        try clear c82
                        try clear c83
                        try clear c84
                        try clear c86
                        try clear c89
                        try clear c90
                        try clear c92
                        try clear hcz15_0
                        try clear hcz15_1
                        try clear hcz22_0
                        try clear hcz22_1
                        try clear hcz27_0
                        try clear hcz27_1
                        try clear hcz28_0
                        try clear hcz28_1
                        try clear hcz31_0
                        try clear hcz31_1
                        try clear hcz32_0
                        try clear hcz32_1
                        try clear hcz48_0
                        try clear hcz48_1
                        try clear hcz49_0
                        try clear hcz49_1
                        try clear hcz52_0
                        try clear hcz52_1
                        try clear hcz53_0
                        try clear hcz53_1
                        try clear hcz60_0
                        try clear hcz60_1
                        try clear hcz62_0
                        try clear hcz62_1
                        try clear hcz69_0
                        try clear hcz69_1
                        try clear hcz71_0
                        try clear hcz71_1
                        try clear hcz79_0
                        try clear hcz79_1
                        try clear hcz85_0
                        try clear hcz85_1
                        try clear hcz87_0
                        try clear hcz87_1
                        try clear hcz91_0
                        try clear hcz91_1
                        try clear hcz93_0
                        try clear hcz93_1
                        try clear hfz15_0
                        try clear hfz15_1
                        try clear hfz22_0
                        try clear hfz22_1
                        try clear hfz27_0
                        try clear hfz27_1
                        try clear hfz28_0
                        try clear hfz28_1
                        try clear hfz31_0
                        try clear hfz31_1
                        try clear hfz32_0
                        try clear hfz32_1
                        try clear hfz48_0
                        try clear hfz48_1
                        try clear hfz49_0
                        try clear hfz49_1
                        try clear hfz52_0
                        try clear hfz52_1
                        try clear hfz53_0
                        try clear hfz53_1
                        try clear hfz60_0
                        try clear hfz60_1
                        try clear hfz62_0
                        try clear hfz62_1
                        try clear hfz69_0
                        try clear hfz69_1
                        try clear hfz71_0
                        try clear hfz71_1
                        try clear hfz79_0
                        try clear hfz79_1
                        try clear hfz85_0
                        try clear hfz85_1
                        try clear hfz87_0
                        try clear hfz87_1
                        try clear hfz91_0
                        try clear hfz91_1
                        try clear hfz93_0
                        try clear hfz93_1
                        try clear p2
                        obtain ⟨kq, x87_66, rfl, HA, HJ66, HO_199001, HO_208001, HO_228001, BK198, BK207, BK227, HB⟩ := hcut
                        have hl208001_66 := (Kd.R_reads' HO_208001.out).1
                        rw [hl208001_66] at HO_208001
                        (try simp only [hl208001_66])
                        (try simp only [hl208001_66] at BK198)
                        (try simp only [hl208001_66] at BK207)
                        (try simp only [hl208001_66] at BK227)
                        (try simp only [hl208001_66] at HO_199001)
                        (try simp only [hl208001_66] at HO_228001)
                        cases kq with
                        | zero => exact absurd HA.out (by simp [laws_FnExactResponseOf.j2])
                        | succ kj66 =>
                          have H := HA.out
                          clear HA
                          simp only [laws_FnExactResponseOf.j2] at H
                          by_cases c95 : x87_66 = true
                          · subst c95
                            have H1 : (some false) = some r := by rw [if_pos rfl] at H; exact H
                            clear H
                            have H := H1
                            clear H1
                            obtain rfl := Option.some.inj H
                            go_wp2
                            go_ret
                            exact ⟨by first | rfl | (simp [errW_none, errW_some] <;> rfl) | (simp [*, errW_none, errW_some] <;> rfl), by repeat (first | (with_reducible first | exact HB.out | apply below_alloc | apply pw_below_drewN | apply below_drew1 | refine below_set ?_ GE198.out | refine below_set ?_ GE207.out | refine below_set ?_ GE227.out) | exact HB.out)⟩
                          · replace c95 := Bool.eq_false_iff.mpr c95
                            subst c95
                            have H1 : ((laws_heldResponse.f kj66 t202 t217 1).bind fun t229 => (if t229 < 0 then (some false) else (if t229 = t216 then (some true) else (some false)))) = some r := by rw [if_neg (show ¬ (false = true) by decide)] at H; exact H
                            clear H
                            have H := H1
                            clear H1
                            replace H := Option.bind_eq_some_iff.mp H
                            obtain ⟨t229, A960, H⟩ := H
                            replace H : (if t229 < 0 then (some false) else (if t229 = t216 then (some true) else (some false))) = some r := H
                            have A96 := Aside0.mk A960
                            clear A960
                            by_cases c97 : t229 < 0
                            · rw [if_pos c97] at H
                              have c97b0 : decide (t229 < 0) = true := decide_eq_true c97
                              clear c97
                              obtain rfl := Option.some.inj H
                              have hnb98 := NB207_198.out
                              have hnc98 := NB198_207.out
                              have hnb99 := NB207_227.out
                              have hnc99 := NB227_207.out
                              have hcz100_0 : wc.cell? ⟨gb207, 0, none⟩ = some (.int .i64 t202) := (blk_cell BK207.out 0).trans rfl
                              have hcz100_1 : wc.cell? ⟨gb207, 1, none⟩ = some (.slice Ao23 t217.length co23) := (blk_cell BK207.out 1).trans rfl
                              have hfz100_0 := blk_frozen BK207.out 0
                              have hfz100_1 := blk_frozen BK207.out 1
                              go_wp2_with (first | ((with_reducible refine gate_callee (f := 40) rfl ?_); refine goesL_ (some 90) rfl rfl Tryd.func40 (by kernel_rfl) rfl #[.agg #[.int .i64 t202, .slice Ao23 t217.length co23], .int .i64 1] rfl (by (try simp only [List.map_toArray, List.map_cons, List.map_nil]); first | done | rfl | (simp only [List.length_drop, List.length_take]; rfl)) ?_; (with_reducible refine (laws_heldResponse.calls kj66 t202 _ _ t217 1 t229 _ ?side1 ?side2 A96.out).mono ?_); (case side1 => repeat (first | exact (Kd.R_reads' HO_208001.out).2.2 | (with_reducible refine Kd.C_alloc ?_ _) | (with_reducible refine Kd.C_drewN ?_ _) | (with_reducible refine Kd.C_drew ?_))); (case side2 => exact (Kd.R_reads' HO_208001.out).2.1); rintro e w101 ⟨rfl, hb⟩; refine ⟨_, rfl, ?_⟩; have n0_ := Aside0.mk (Kd.R_below (by (with_reducible repeat (first | apply Kd.R_alloc | apply Kd.R_drewN | apply Kd.R_drew)); exact HO_199001.out) hb); have n1_ := Aside0.mk (Kd.R_below (by (with_reducible repeat (first | apply Kd.R_alloc | apply Kd.R_drewN | apply Kd.R_drew)); exact HO_208001.out) hb); have n2_ := Aside0.mk (Kd.R_below (by (with_reducible repeat (first | apply Kd.R_alloc | apply Kd.R_drewN | apply Kd.R_drew)); exact HO_228001.out) hb); have n3_ := Aside0.mk (blk_below (g := gb198) (o := .cells #[.int .i64 t193, .slice Ao16 t194.length co16] 57 (0, 0)) (by (with_reducible repeat (first | refine blk_drewN ?_ _ | refine blk_drew ?_ | refine blk_alloc ?_ _)); exact BK198.out) hb); have n4_ := Aside0.mk (blk_below (g := gb207) (o := .cells #[.int .i64 t202, .slice Ao23 t217.length co23] 57 (0, 0)) (by (with_reducible repeat (first | refine blk_drewN ?_ _ | refine blk_drew ?_ | refine blk_alloc ?_ _)); exact BK207.out) hb); have n5_ := Aside0.mk (blk_below (g := gb227) (o := .cells #[.int .i64 t222, .slice Ao80 t223.length co80] 57 (0, 0)) (by (with_reducible repeat (first | refine blk_drewN ?_ _ | refine blk_drew ?_ | refine blk_alloc ?_ _)); exact BK227.out) hb); have n6_ := Aside0.mk (below_step (by repeat (first | (with_reducible first | exact HB.out | apply below_alloc | apply pw_below_drewN | apply below_drew1 | refine below_set ?_ GE198.out | refine below_set ?_ GE207.out | refine below_set ?_ GE227.out) | exact HB.out)) hb); clear HO_199001; clear HO_208001; clear HO_228001; clear BK198; clear BK207; clear BK227; clear HB; have HO_199001 := n0_; have HO_208001 := n1_; have HO_228001 := n2_; have BK198 := n3_; have BK207 := n4_; have BK227 := n5_; have HB := n6_; clear n0_ n1_ n2_ n3_ n4_ n5_ n6_; (try clear hb); (try clear hb2); (try clear hk); (try clear hi)))
                              go_ret
                              exact ⟨by first | rfl | (simp [errW_none, errW_some] <;> rfl) | (simp [*, errW_none, errW_some] <;> rfl), by repeat (first | (with_reducible first | exact HB.out | apply below_alloc | apply pw_below_drewN | apply below_drew1 | refine below_set ?_ GE198.out | refine below_set ?_ GE207.out | refine below_set ?_ GE227.out) | exact HB.out)⟩
                            · rw [if_neg c97] at H
                              have c97b0 : decide (t229 < 0) = false := decide_eq_false c97
                              clear c97
                              by_cases c102 : t229 = t216
                              · rw [if_pos c102] at H
                                have c102b0 : (t229 == t216) = true := beq_iff_eq.mpr c102
                                have c102b1 : (t229 != t216) = false := bne_eq_false_iff_eq.mpr c102
                                clear c102
                                obtain rfl := Option.some.inj H
                                have hnb103 := NB207_198.out
                                have hnc103 := NB198_207.out
                                have hnb104 := NB207_227.out
                                have hnc104 := NB227_207.out
                                have hcz105_0 : wc.cell? ⟨gb207, 0, none⟩ = some (.int .i64 t202) := (blk_cell BK207.out 0).trans rfl
                                have hcz105_1 : wc.cell? ⟨gb207, 1, none⟩ = some (.slice Ao23 t217.length co23) := (blk_cell BK207.out 1).trans rfl
                                have hfz105_0 := blk_frozen BK207.out 0
                                have hfz105_1 := blk_frozen BK207.out 1
                                go_wp2_with (first | ((with_reducible refine gate_callee (f := 40) rfl ?_); refine goesL_ (some 90) rfl rfl Tryd.func40 (by kernel_rfl) rfl #[.agg #[.int .i64 t202, .slice Ao23 t217.length co23], .int .i64 1] rfl (by (try simp only [List.map_toArray, List.map_cons, List.map_nil]); first | done | rfl | (simp only [List.length_drop, List.length_take]; rfl)) ?_; (with_reducible refine (laws_heldResponse.calls kj66 t202 _ _ t217 1 t229 _ ?side1 ?side2 A96.out).mono ?_); (case side1 => repeat (first | exact (Kd.R_reads' HO_208001.out).2.2 | (with_reducible refine Kd.C_alloc ?_ _) | (with_reducible refine Kd.C_drewN ?_ _) | (with_reducible refine Kd.C_drew ?_))); (case side2 => exact (Kd.R_reads' HO_208001.out).2.1); rintro e w106 ⟨rfl, hb⟩; refine ⟨_, rfl, ?_⟩; have n0_ := Aside0.mk (Kd.R_below (by (with_reducible repeat (first | apply Kd.R_alloc | apply Kd.R_drewN | apply Kd.R_drew)); exact HO_199001.out) hb); have n1_ := Aside0.mk (Kd.R_below (by (with_reducible repeat (first | apply Kd.R_alloc | apply Kd.R_drewN | apply Kd.R_drew)); exact HO_208001.out) hb); have n2_ := Aside0.mk (Kd.R_below (by (with_reducible repeat (first | apply Kd.R_alloc | apply Kd.R_drewN | apply Kd.R_drew)); exact HO_228001.out) hb); have n3_ := Aside0.mk (blk_below (g := gb198) (o := .cells #[.int .i64 t193, .slice Ao16 t194.length co16] 57 (0, 0)) (by (with_reducible repeat (first | refine blk_drewN ?_ _ | refine blk_drew ?_ | refine blk_alloc ?_ _)); exact BK198.out) hb); have n4_ := Aside0.mk (blk_below (g := gb207) (o := .cells #[.int .i64 t202, .slice Ao23 t217.length co23] 57 (0, 0)) (by (with_reducible repeat (first | refine blk_drewN ?_ _ | refine blk_drew ?_ | refine blk_alloc ?_ _)); exact BK207.out) hb); have n5_ := Aside0.mk (blk_below (g := gb227) (o := .cells #[.int .i64 t222, .slice Ao80 t223.length co80] 57 (0, 0)) (by (with_reducible repeat (first | refine blk_drewN ?_ _ | refine blk_drew ?_ | refine blk_alloc ?_ _)); exact BK227.out) hb); have n6_ := Aside0.mk (below_step (by repeat (first | (with_reducible first | exact HB.out | apply below_alloc | apply pw_below_drewN | apply below_drew1 | refine below_set ?_ GE198.out | refine below_set ?_ GE207.out | refine below_set ?_ GE227.out) | exact HB.out)) hb); clear HO_199001; clear HO_208001; clear HO_228001; clear BK198; clear BK207; clear BK227; clear HB; have HO_199001 := n0_; have HO_208001 := n1_; have HO_228001 := n2_; have BK198 := n3_; have BK207 := n4_; have BK227 := n5_; have HB := n6_; clear n0_ n1_ n2_ n3_ n4_ n5_ n6_; (try clear hb); (try clear hb2); (try clear hk); (try clear hi)))
                                go_ret
                                exact ⟨by first | rfl | (simp [errW_none, errW_some] <;> rfl) | (simp [*, errW_none, errW_some] <;> rfl), by repeat (first | (with_reducible first | exact HB.out | apply below_alloc | apply pw_below_drewN | apply below_drew1 | refine below_set ?_ GE198.out | refine below_set ?_ GE207.out | refine below_set ?_ GE227.out) | exact HB.out)⟩
                              · rw [if_neg c102] at H
                                have c102b0 : (t229 == t216) = false := beq_eq_false_iff_ne.mpr c102
                                have c102b1 : (t229 != t216) = true := bne_iff_ne.mpr c102
                                obtain rfl := Option.some.inj H
                                have hnb107 := NB207_198.out
                                have hnc107 := NB198_207.out
                                have hnb108 := NB207_227.out
                                have hnc108 := NB227_207.out
                                have hcz109_0 : wc.cell? ⟨gb207, 0, none⟩ = some (.int .i64 t202) := (blk_cell BK207.out 0).trans rfl
                                have hcz109_1 : wc.cell? ⟨gb207, 1, none⟩ = some (.slice Ao23 t217.length co23) := (blk_cell BK207.out 1).trans rfl
                                have hfz109_0 := blk_frozen BK207.out 0
                                have hfz109_1 := blk_frozen BK207.out 1
                                go_wp2_with (first | ((with_reducible refine gate_callee (f := 40) rfl ?_); refine goesL_ (some 90) rfl rfl Tryd.func40 (by kernel_rfl) rfl #[.agg #[.int .i64 t202, .slice Ao23 t217.length co23], .int .i64 1] rfl (by (try simp only [List.map_toArray, List.map_cons, List.map_nil]); first | done | rfl | (simp only [List.length_drop, List.length_take]; rfl)) ?_; (with_reducible refine (laws_heldResponse.calls kj66 t202 _ _ t217 1 t229 _ ?side1 ?side2 A96.out).mono ?_); (case side1 => repeat (first | exact (Kd.R_reads' HO_208001.out).2.2 | (with_reducible refine Kd.C_alloc ?_ _) | (with_reducible refine Kd.C_drewN ?_ _) | (with_reducible refine Kd.C_drew ?_))); (case side2 => exact (Kd.R_reads' HO_208001.out).2.1); rintro e w110 ⟨rfl, hb⟩; refine ⟨_, rfl, ?_⟩; have n0_ := Aside0.mk (Kd.R_below (by (with_reducible repeat (first | apply Kd.R_alloc | apply Kd.R_drewN | apply Kd.R_drew)); exact HO_199001.out) hb); have n1_ := Aside0.mk (Kd.R_below (by (with_reducible repeat (first | apply Kd.R_alloc | apply Kd.R_drewN | apply Kd.R_drew)); exact HO_208001.out) hb); have n2_ := Aside0.mk (Kd.R_below (by (with_reducible repeat (first | apply Kd.R_alloc | apply Kd.R_drewN | apply Kd.R_drew)); exact HO_228001.out) hb); have n3_ := Aside0.mk (blk_below (g := gb198) (o := .cells #[.int .i64 t193, .slice Ao16 t194.length co16] 57 (0, 0)) (by (with_reducible repeat (first | refine blk_drewN ?_ _ | refine blk_drew ?_ | refine blk_alloc ?_ _)); exact BK198.out) hb); have n4_ := Aside0.mk (blk_below (g := gb207) (o := .cells #[.int .i64 t202, .slice Ao23 t217.length co23] 57 (0, 0)) (by (with_reducible repeat (first | refine blk_drewN ?_ _ | refine blk_drew ?_ | refine blk_alloc ?_ _)); exact BK207.out) hb); have n5_ := Aside0.mk (blk_below (g := gb227) (o := .cells #[.int .i64 t222, .slice Ao80 t223.length co80] 57 (0, 0)) (by (with_reducible repeat (first | refine blk_drewN ?_ _ | refine blk_drew ?_ | refine blk_alloc ?_ _)); exact BK227.out) hb); have n6_ := Aside0.mk (below_step (by repeat (first | (with_reducible first | exact HB.out | apply below_alloc | apply pw_below_drewN | apply below_drew1 | refine below_set ?_ GE198.out | refine below_set ?_ GE207.out | refine below_set ?_ GE227.out) | exact HB.out)) hb); clear HO_199001; clear HO_208001; clear HO_228001; clear BK198; clear BK207; clear BK227; clear HB; have HO_199001 := n0_; have HO_208001 := n1_; have HO_228001 := n2_; have BK198 := n3_; have BK207 := n4_; have BK227 := n5_; have HB := n6_; clear n0_ n1_ n2_ n3_ n4_ n5_ n6_; (try clear hb); (try clear hb2); (try clear hk); (try clear hi)))
                                go_ret
                                exact ⟨by first | rfl | (simp [errW_none, errW_some] <;> rfl) | (simp [*, errW_none, errW_some] <;> rfl), by repeat (first | (with_reducible first | exact HB.out | apply below_alloc | apply pw_below_drewN | apply below_drew1 | refine below_set ?_ GE198.out | refine below_set ?_ GE207.out | refine below_set ?_ GE227.out) | exact HB.out)⟩
                    · rw [if_neg c64] at H
                      have c64b0 : (t218 == t216) = false := beq_eq_false_iff_ne.mpr c64
                      have c64b1 : (t218 != t216) = true := bne_iff_ne.mpr c64
                      obtain rfl := Option.some.inj H
                      have hnb111 := NB207_198.out
                      have hnc111 := NB198_207.out
                      have hcz112_0 : wc.cell? ⟨gb207, 0, none⟩ = some (.int .i64 t202) := (blk_cell BK207.out 0).trans rfl
                      have hcz112_1 : wc.cell? ⟨gb207, 1, none⟩ = some (.slice Ao23 t203.length co23) := (blk_cell BK207.out 1).trans rfl
                      have hfz112_0 := blk_frozen BK207.out 0
                      have hfz112_1 := blk_frozen BK207.out 1
                      go_wp2_with (first | ((with_reducible refine gate_callee (f := 37) rfl ?_); refine goesL_ (some 64) rfl rfl Tryd.func37 (by kernel_rfl) rfl #[.agg #[.int .i64 t202, .slice Ao23 t203.length co23], .int .i64 1] rfl (by (try simp only [List.map_toArray, List.map_cons, List.map_nil]); first | done | rfl | (simp only [List.length_drop, List.length_take]; rfl)) ?_; (with_reducible refine (laws_markResponse.calls kj38 t202 (fun k_ => some k_ = (.slice Ao23 t203.length co23 : Value).ownBlock) (.slice Ao23 t203.length co23) t203 1 t216 t217 w _ ?side1 ?side2 A56.out).mono ?_); (case side1 => repeat (first | (with_reducible first | exact HB.out | apply below_alloc | apply pw_below_drewN | apply below_drew1 | refine below_set ?_ GE198.out | refine below_set ?_ GE207.out) | exact HB.out)); (case side2 => exact Kd.R_tight rfl HO_208001.out); rintro e w113 ⟨rfl, hy0, hb, hkp⟩; refine ⟨_, rfl, ?_⟩; have n0_ := Aside0.mk (Kd.R_mono (ok' := fun k_ => some k_ ≠ (.slice Ao23 t203.length co23 : Value).ownBlock) (Kd.R_keptB (HO_199001.out) hkp (fun k_ hk_ hs_ => (hk_) hs_)) (fun k_ hk_ => hk_.1)); have n1_ := Aside0.mk (Kd.R_reok rfl hy0 (fun k_ e_ => HO_208001.out.1 k_ e_)); have n2_ := Aside0.mk (blk_kept (by (with_reducible repeat (first | refine blk_drewN ?_ _ | refine blk_drew ?_ | refine blk_alloc ?_ _)); exact BK198.out) hkp (fun hs_ => (fun e_ => (Kd.R_ne HO_208001.out BK198.out (by decide)) e_) hs_)); have n3_ := Aside0.mk (blk_kept (by (with_reducible repeat (first | refine blk_drewN ?_ _ | refine blk_drew ?_ | refine blk_alloc ?_ _)); exact BK207.out) hkp (fun hs_ => (fun e_ => (Kd.R_ne HO_208001.out BK207.out (by decide)) e_) hs_)); have n4_ := Aside0.mk (hb); clear HO_199001; clear HO_208001; clear BK198; clear BK207; clear HB; have HO_199001 := n0_; have HO_208001 := n1_; have BK198 := n2_; have BK207 := n3_; have HB := n4_; clear n0_ n1_ n2_ n3_ n4_; (try clear hb); (try clear hkp); (try clear hy0); have hcz114_0 : w113.cell? ⟨gb207, 0, none⟩ = some (.int .i64 t202) := (blk_cell BK207.out 0).trans rfl; have hcz114_1 : w113.cell? ⟨gb207, 1, none⟩ = some (.slice Ao23 t203.length co23) := (blk_cell BK207.out 1).trans rfl; have hfz114_0 := blk_frozen BK207.out 0; have hfz114_1 := blk_frozen BK207.out 1) | ((with_reducible refine gate_callee (f := 40) rfl ?_); refine goesL_ (some 67) rfl rfl Tryd.func40 (by kernel_rfl) rfl #[.agg #[.int .i64 t202, .slice Ao23 t217.length co23], .int .i64 1] rfl (by (try simp only [List.map_toArray, List.map_cons, List.map_nil]); first | done | (rw [show t217.length = t203.length from (Kd.R_reads' HO_208001.out).1.symm] <;> rfl) | rfl | (simp only [List.length_drop, List.length_take]; rfl)) ?_; (with_reducible refine (laws_heldResponse.calls kj38 t202 _ _ t217 1 t218 _ ?side1 ?side2 A57.out).mono ?_); (case side1 => repeat (first | exact (Kd.R_reads' HO_208001.out).2.2 | (with_reducible refine Kd.C_alloc ?_ _) | (with_reducible refine Kd.C_drewN ?_ _) | (with_reducible refine Kd.C_drew ?_))); (case side2 => rw [show t217.length = t203.length from (Kd.R_reads' HO_208001.out).1.symm]; exact (Kd.R_reads' HO_208001.out).2.1); rintro e w115 ⟨rfl, hb⟩; refine ⟨_, rfl, ?_⟩; have n0_ := Aside0.mk (Kd.R_below (by (with_reducible repeat (first | apply Kd.R_alloc | apply Kd.R_drewN | apply Kd.R_drew)); exact HO_199001.out) hb); have n1_ := Aside0.mk (Kd.R_below (by (with_reducible repeat (first | apply Kd.R_alloc | apply Kd.R_drewN | apply Kd.R_drew)); exact HO_208001.out) hb); have n2_ := Aside0.mk (blk_below (g := gb198) (o := .cells #[.int .i64 t193, .slice Ao16 t194.length co16] 57 (0, 0)) (by (with_reducible repeat (first | refine blk_drewN ?_ _ | refine blk_drew ?_ | refine blk_alloc ?_ _)); exact BK198.out) hb); have n3_ := Aside0.mk (blk_below (g := gb207) (o := .cells #[.int .i64 t202, .slice Ao23 t203.length co23] 57 (0, 0)) (by (with_reducible repeat (first | refine blk_drewN ?_ _ | refine blk_drew ?_ | refine blk_alloc ?_ _)); exact BK207.out) hb); have n4_ := Aside0.mk (below_step (by repeat (first | (with_reducible first | exact HB.out | apply below_alloc | apply pw_below_drewN | apply below_drew1 | refine below_set ?_ GE198.out | refine below_set ?_ GE207.out) | exact HB.out)) hb); clear HO_199001; clear HO_208001; clear BK198; clear BK207; clear HB; have HO_199001 := n0_; have HO_208001 := n1_; have BK198 := n2_; have BK207 := n3_; have HB := n4_; clear n0_ n1_ n2_ n3_ n4_; (try clear hb); (try clear hb2); (try clear hk); (try clear hi)))
                      go_ret
                      exact ⟨by first | rfl | (simp [errW_none, errW_some] <;> rfl) | (simp [*, errW_none, errW_some] <;> rfl), by repeat (first | (with_reducible first | exact HB.out | apply below_alloc | apply pw_below_drewN | apply below_drew1 | refine below_set ?_ GE198.out | refine below_set ?_ GE207.out) | exact HB.out)⟩
          · replace c37 := Bool.eq_false_iff.mpr c37
            subst c37
            have H1 : (some false) = some r := by rw [if_neg (show ¬ (false = true) by decide)] at H; exact H
            clear H
            have H := H1
            clear H1
            obtain rfl := Option.some.inj H
            go_wp2_with (first | ((with_reducible refine gate_callee (f := 18) rfl ?_); refine goesL_ (some 43) rfl rfl Tryd.func18 (by kernel_rfl) rfl #[.slice A0 l0.length c0] rfl (by (try simp only [List.map_toArray, List.map_cons, List.map_nil]); first | done | rfl | (simp only [List.length_drop, List.length_take]; rfl)) ?_; (with_reducible refine (laws_toFieldS.calls kj8 _ _ l0 t209 _ ?side1 ?side2 A35.out).mono ?_); (case side1 => repeat (first | exact (Kd.C_below HR0.out HB.out) | (with_reducible refine Kd.C_alloc ?_ _) | (with_reducible refine Kd.C_drewN ?_ _) | (with_reducible refine Kd.C_drew ?_))); (case side2 => exact HC0.out); rintro e w116 ⟨v210, rfl, ho0, hb⟩; refine ⟨_, rfl, ?_⟩; have n0_ := Aside0.mk (Kd.R_elder' (by (with_reducible repeat (first | apply Kd.R_alloc | apply Kd.R_drewN | apply Kd.R_drew)); exact HO_6.out) (Kd.R_base ho0) hb); have n1_ := Aside0.mk (Kd.R_elder' (by (with_reducible repeat (first | apply Kd.R_alloc | apply Kd.R_drewN | apply Kd.R_drew)); exact HO_199001.out) (Kd.R_base ho0) hb); have n2_ := Aside0.mk (Kd.R_elder' (by (with_reducible repeat (first | apply Kd.R_alloc | apply Kd.R_drewN | apply Kd.R_drew)); exact HO_208001.out) (Kd.R_base ho0) hb); have n3_ := Aside0.mk (Kd.R_lower (Kd.R_new' (Kd.R_new' (Kd.R_new' ho0 (Kd.R_lt (by (with_reducible repeat (first | apply Kd.R_alloc | apply Kd.R_drewN | apply Kd.R_drew)); exact HO_6.out))) (Kd.R_lt (by (with_reducible repeat (first | apply Kd.R_alloc | apply Kd.R_drewN | apply Kd.R_drew)); exact HO_199001.out))) (Kd.R_lt (by (with_reducible repeat (first | apply Kd.R_alloc | apply Kd.R_drewN | apply Kd.R_drew)); exact HO_208001.out))) (below_size (by repeat (first | (with_reducible first | exact HB.out | apply below_alloc | apply pw_below_drewN | apply below_drew1 | refine below_set ?_ GE198.out | refine below_set ?_ GE207.out) | exact HB.out)))); have n4_ := Aside0.mk (blk_below (g := gb198) (o := .cells #[.int .i64 t193, .slice Ao16 t194.length co16] 57 (0, 0)) (by (with_reducible repeat (first | refine blk_drewN ?_ _ | refine blk_drew ?_ | refine blk_alloc ?_ _)); exact BK198.out) hb); have n5_ := Aside0.mk (blk_below (g := gb207) (o := .cells #[.int .i64 t202, .slice Ao23 t203.length co23] 57 (0, 0)) (by (with_reducible repeat (first | refine blk_drewN ?_ _ | refine blk_drew ?_ | refine blk_alloc ?_ _)); exact BK207.out) hb); have n6_ := Aside0.mk (below_step (by repeat (first | (with_reducible first | exact HB.out | apply below_alloc | apply pw_below_drewN | apply below_drew1 | refine below_set ?_ GE198.out | refine below_set ?_ GE207.out) | exact HB.out)) hb); clear HO_6; clear HO_199001; clear HO_208001; clear BK198; clear BK207; clear HB; have HO_6 := n0_; have HO_199001 := n1_; have HO_208001 := n2_; have HO211 := n3_; have BK198 := n4_; have BK207 := n5_; have HB := n6_; clear n0_ n1_ n2_ n3_ n4_ n5_ n6_; (try clear hb); (try clear hb2); (try clear hk); (try clear hi); (try clear ho0); obtain ⟨Ao117, co117, eo117⟩ := Kd.R_slice HO211.out; subst eo117) | ((with_reducible refine gate_callee (f := 20) rfl ?_); refine goesL_ (some 44) rfl rfl Tryd.func20 (by kernel_rfl) rfl #[.slice Ao18 t199.length co18, .slice Ao117 t209.length co117] rfl (by (try simp only [List.map_toArray, List.map_cons, List.map_nil]); first | done | rfl | (simp only [List.length_drop, List.length_take]; rfl)) ?_; (with_reducible refine (laws_eqFieldS.calls kj8 _ _ t199 _ _ t209 false _ ?side1 ?side2 ?side3 ?side4 A36.out).mono ?_); (case side1 => repeat (first | exact (Kd.R_reads' HO_6.out).2.2 | (with_reducible refine Kd.C_alloc ?_ _) | (with_reducible refine Kd.C_drewN ?_ _) | (with_reducible refine Kd.C_drew ?_))); (case side2 => exact (Kd.R_reads' HO_6.out).2.1); (case side3 => repeat (first | exact (Kd.R_reads' HO211.out).2.2 | (with_reducible refine Kd.C_alloc ?_ _) | (with_reducible refine Kd.C_drewN ?_ _) | (with_reducible refine Kd.C_drew ?_))); (case side4 => exact (Kd.R_reads' HO211.out).2.1); rintro e w118 ⟨rfl, hb⟩; refine ⟨_, rfl, ?_⟩; have n0_ := Aside0.mk (Kd.R_below (by (with_reducible repeat (first | apply Kd.R_alloc | apply Kd.R_drewN | apply Kd.R_drew)); exact HO_6.out) hb); have n1_ := Aside0.mk (Kd.R_below (by (with_reducible repeat (first | apply Kd.R_alloc | apply Kd.R_drewN | apply Kd.R_drew)); exact HO_199001.out) hb); have n2_ := Aside0.mk (Kd.R_below (by (with_reducible repeat (first | apply Kd.R_alloc | apply Kd.R_drewN | apply Kd.R_drew)); exact HO_208001.out) hb); have n3_ := Aside0.mk (Kd.R_below (by (with_reducible repeat (first | apply Kd.R_alloc | apply Kd.R_drewN | apply Kd.R_drew)); exact HO211.out) hb); have n4_ := Aside0.mk (blk_below (g := gb198) (o := .cells #[.int .i64 t193, .slice Ao16 t194.length co16] 57 (0, 0)) (by (with_reducible repeat (first | refine blk_drewN ?_ _ | refine blk_drew ?_ | refine blk_alloc ?_ _)); exact BK198.out) hb); have n5_ := Aside0.mk (blk_below (g := gb207) (o := .cells #[.int .i64 t202, .slice Ao23 t203.length co23] 57 (0, 0)) (by (with_reducible repeat (first | refine blk_drewN ?_ _ | refine blk_drew ?_ | refine blk_alloc ?_ _)); exact BK207.out) hb); have n6_ := Aside0.mk (below_step (by repeat (first | (with_reducible first | exact HB.out | apply below_alloc | apply pw_below_drewN | apply below_drew1 | refine below_set ?_ GE198.out | refine below_set ?_ GE207.out) | exact HB.out)) hb); clear HO_6; clear HO_199001; clear HO_208001; clear HO211; clear BK198; clear BK207; clear HB; have HO_6 := n0_; have HO_199001 := n1_; have HO_208001 := n2_; have HO211 := n3_; have BK198 := n4_; have BK207 := n5_; have HB := n6_; clear n0_ n1_ n2_ n3_ n4_ n5_ n6_; (try clear hb); (try clear hb2); (try clear hk); (try clear hi)))
            go_ret
            exact ⟨by first | rfl | (simp [errW_none, errW_some] <;> rfl) | (simp [*, errW_none, errW_some] <;> rfl), by repeat (first | (with_reducible first | exact HB.out | apply below_alloc | apply pw_below_drewN | apply below_drew1 | refine below_set ?_ GE198.out | refine below_set ?_ GE207.out) | exact HB.out)⟩

end Go.Proofs.YtkcimmlaoipdkaaDoor.PFnExactResponseOf
