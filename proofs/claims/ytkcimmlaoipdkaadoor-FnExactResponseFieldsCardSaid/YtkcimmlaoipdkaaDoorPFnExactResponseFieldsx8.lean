-- Written by a program of this repo (xprint.py) out of the translation; Lean checks it.
import Derived.Test.YtkcimmlaoipdkaaDoorPFnExactResponseFieldsx0
import Derived.Test.YtkcimmlaoipdkaaDoorPFnExactResponseFieldsx1
import Derived.Test.YtkcimmlaoipdkaaDoorPFnExactResponseFieldsx2
import Derived.Test.YtkcimmlaoipdkaaDoorPFnExactResponseFieldsx5
import Derived.Test.YtkcimmlaoipdkaaDoorPFnExactResponseFieldsx7
namespace Go.Proofs.YtkcimmlaoipdkaaDoor.PFnExactResponseFields
open Go.RowKit Go.Proofs.YtkcimmlaoipdkaaDoorW.PrintWords Go.Proofs.YtkcimmlaoipdkaaDoorW.PrintLast Go.Proofs.YtkcimmlaoipdkaaDoorW.PrintMore
attribute [local go_sem] max2_int min2_int max_two min_two max_three min_three max_four min_four   -- for this text's walks alone
set_option linter.unusedVariables false
set_option linter.unusedSimpArgs false

/-! ### laws_FnExactResponseFields: function 9 -/
mutual
def laws_FnExactResponseFields.j0 : Nat → List (S78) → Int → List (S78) → Int → Bool → Int → List (S77) → Int → List (S78) → Option (Bool)
  | 0, _, _, _, _, _, _, _, _, _ => none
  | k + 1, x4, x5, x7, x8, x40, x199000, x199001, x213000, x213001 => if x40 = true then (some false) else ((laws_toResponse.f k x199000 x199001).bind fun bt218 => ((laws_eqResponse.f k x213000 x213001 bt218.1 bt218.2).bind fun t222 => (if t222 = true then ((laws_markResponse.f k x213000 x213001 1).bind fun bt223 => (if bt223.1 < 0 then (laws_FnExactResponseFields.j1 k x4 x5 x7 true x199000 x199001) else ((laws_eqFieldS.f k x7 x4).bind fun t225 => (if t225 = true then (laws_FnExactResponseFields.j1 k x4 x5 x7 (x8 != x5) x199000 x199001) else (laws_FnExactResponseFields.j1 k x4 x5 x7 true x199000 x199001))))) else (some false))))
def laws_FnExactResponseFields.j1 : Nat → List (S78) → Int → List (S78) → Bool → Int → List (S77) → Option (Bool)
  | 0, _, _, _, _, _, _ => none
  | k + 1, x4, x5, x7, x61, x199000, x199001 => if x61 = true then (some false) else ((laws_markFieldS.f k x7 1).bind fun bt226 => ((laws_heldFieldS.f k bt226.2 1).bind fun t228 => (if t228 < 0 then (some false) else (if t228 = bt226.1 then ((laws_toResponse.f k x199000 x199001).bind fun bt229 => ((impl_ResponseFields.f k bt229.1 bt229.2).bind fun bt233 => ((laws_eqFieldS.f k bt233.1 x4).bind fun t237 => (if t237 = true then (laws_FnExactResponseFields.j2 k bt226.2 bt226.1 (bt233.2 != x5)) else (laws_FnExactResponseFields.j2 k bt226.2 bt226.1 true))))) else (some false)))))
def laws_FnExactResponseFields.j2 : Nat → List (S78) → Int → Bool → Option (Bool)
  | 0, _, _, _ => none
  | k + 1, x7, x10, x87 => if x87 = true then (some false) else ((laws_heldFieldS.f k x7 1).bind fun t238 => (if t238 < 0 then (some false) else (if t238 = x10 then (some true) else (some false))))
end
def laws_FnExactResponseFields.f (k : Nat) (a0_0 : Int) (l0_1 : List (S77)) : Option (Bool) := (laws_szResponse.f k a0_0 l0_1 1048576).bind fun t199 => (if t199 < 0 then (some true) else ((laws_toResponse.f k a0_0 l0_1).bind fun bt200 => ((spec_ResponseFields.f k bt200.1 bt200.2).bind fun bt204 => ((laws_toResponse.f k a0_0 l0_1).bind fun bt208 => ((impl_ResponseFields.f k bt208.1 bt208.2).bind fun bt213 => ((laws_eqFieldS.f k bt213.1 bt204.1).bind fun t217 => (if t217 = true then (laws_FnExactResponseFields.j0 k bt204.1 bt204.2 bt213.1 bt213.2 (bt213.2 != bt204.2) a0_0 l0_1 bt208.1 bt208.2) else (laws_FnExactResponseFields.j0 k bt204.1 bt204.2 bt213.1 bt213.2 true a0_0 l0_1 bt208.1 bt208.2))))))))
theorem laws_FnExactResponseFields.mono_l : ∀ k, (∀ y0 y1 y2 y3 y4 y5 y6 y7 y8, LeO (laws_FnExactResponseFields.j0 k y0 y1 y2 y3 y4 y5 y6 y7 y8) (laws_FnExactResponseFields.j0 (k + 1) y0 y1 y2 y3 y4 y5 y6 y7 y8)) ∧ (∀ y0 y1 y2 y3 y4 y5, LeO (laws_FnExactResponseFields.j1 k y0 y1 y2 y3 y4 y5) (laws_FnExactResponseFields.j1 (k + 1) y0 y1 y2 y3 y4 y5)) ∧ (∀ y0 y1 y2, LeO (laws_FnExactResponseFields.j2 k y0 y1 y2) (laws_FnExactResponseFields.j2 (k + 1) y0 y1 y2))
  | 0 => ⟨fun _ _ _ _ _ _ _ _ _ r h => by simp [laws_FnExactResponseFields.j0] at h, fun _ _ _ _ _ _ r h => by simp [laws_FnExactResponseFields.j1] at h, fun _ _ _ r h => by simp [laws_FnExactResponseFields.j2] at h⟩
  | k + 1 => by
    obtain ⟨ih0, ih1, ih2⟩ := laws_FnExactResponseFields.mono_l k
    refine ⟨?_, ?_, ?_⟩
    · intro y0 y1 y2 y3 y4 y5 y6 y7 y8
      unfold laws_FnExactResponseFields.j0
      repeat' first
      | (with_reducible exact ih0 _ _ _ _ _ _ _ _ _)
      | (with_reducible exact ih1 _ _ _ _ _ _)
      | (with_reducible exact ih2 _ _ _)
      | (with_reducible exact impl_ResponseFields.mono _ _ _)
      | (with_reducible exact laws_eqFieldS.mono _ _ _)
      | (with_reducible exact laws_eqResponse.mono _ _ _ _ _)
      | (with_reducible exact laws_heldFieldS.mono _ _ _)
      | (with_reducible exact laws_markFieldS.mono _ _ _)
      | (with_reducible exact laws_markResponse.mono _ _ _ _)
      | (with_reducible exact laws_szResponse.mono _ _ _ _)
      | (with_reducible exact laws_toResponse.mono _ _ _)
      | (with_reducible exact spec_ResponseFields.mono _ _ _)
      | (with_reducible exact LeO.refl _)
      | (with_reducible exact LeO.none _)
      | (with_reducible refine LeO.ite ?_ ?_)
      | (with_reducible refine LeO.bind ?_ (fun _ => ?_))
      | exact ih0 _ _ _ _ _ _ _ _ _
      | exact ih1 _ _ _ _ _ _
      | exact ih2 _ _ _
      | exact impl_ResponseFields.mono _ _ _
      | exact laws_eqFieldS.mono _ _ _
      | exact laws_eqResponse.mono _ _ _ _ _
      | exact laws_heldFieldS.mono _ _ _
      | exact laws_markFieldS.mono _ _ _
      | exact laws_markResponse.mono _ _ _ _
      | exact laws_szResponse.mono _ _ _ _
      | exact laws_toResponse.mono _ _ _
      | exact spec_ResponseFields.mono _ _ _
      | exact LeO.none _
      | refine LeO.ite ?_ ?_
      | refine LeO.bind ?_ (fun _ => ?_)
    · intro y0 y1 y2 y3 y4 y5
      unfold laws_FnExactResponseFields.j1
      repeat' first
      | (with_reducible exact ih0 _ _ _ _ _ _ _ _ _)
      | (with_reducible exact ih1 _ _ _ _ _ _)
      | (with_reducible exact ih2 _ _ _)
      | (with_reducible exact impl_ResponseFields.mono _ _ _)
      | (with_reducible exact laws_eqFieldS.mono _ _ _)
      | (with_reducible exact laws_eqResponse.mono _ _ _ _ _)
      | (with_reducible exact laws_heldFieldS.mono _ _ _)
      | (with_reducible exact laws_markFieldS.mono _ _ _)
      | (with_reducible exact laws_markResponse.mono _ _ _ _)
      | (with_reducible exact laws_szResponse.mono _ _ _ _)
      | (with_reducible exact laws_toResponse.mono _ _ _)
      | (with_reducible exact spec_ResponseFields.mono _ _ _)
      | (with_reducible exact LeO.refl _)
      | (with_reducible exact LeO.none _)
      | (with_reducible refine LeO.ite ?_ ?_)
      | (with_reducible refine LeO.bind ?_ (fun _ => ?_))
      | exact ih0 _ _ _ _ _ _ _ _ _
      | exact ih1 _ _ _ _ _ _
      | exact ih2 _ _ _
      | exact impl_ResponseFields.mono _ _ _
      | exact laws_eqFieldS.mono _ _ _
      | exact laws_eqResponse.mono _ _ _ _ _
      | exact laws_heldFieldS.mono _ _ _
      | exact laws_markFieldS.mono _ _ _
      | exact laws_markResponse.mono _ _ _ _
      | exact laws_szResponse.mono _ _ _ _
      | exact laws_toResponse.mono _ _ _
      | exact spec_ResponseFields.mono _ _ _
      | exact LeO.none _
      | refine LeO.ite ?_ ?_
      | refine LeO.bind ?_ (fun _ => ?_)
    · intro y0 y1 y2
      unfold laws_FnExactResponseFields.j2
      repeat' first
      | (with_reducible exact ih0 _ _ _ _ _ _ _ _ _)
      | (with_reducible exact ih1 _ _ _ _ _ _)
      | (with_reducible exact ih2 _ _ _)
      | (with_reducible exact impl_ResponseFields.mono _ _ _)
      | (with_reducible exact laws_eqFieldS.mono _ _ _)
      | (with_reducible exact laws_eqResponse.mono _ _ _ _ _)
      | (with_reducible exact laws_heldFieldS.mono _ _ _)
      | (with_reducible exact laws_markFieldS.mono _ _ _)
      | (with_reducible exact laws_markResponse.mono _ _ _ _)
      | (with_reducible exact laws_szResponse.mono _ _ _ _)
      | (with_reducible exact laws_toResponse.mono _ _ _)
      | (with_reducible exact spec_ResponseFields.mono _ _ _)
      | (with_reducible exact LeO.refl _)
      | (with_reducible exact LeO.none _)
      | (with_reducible refine LeO.ite ?_ ?_)
      | (with_reducible refine LeO.bind ?_ (fun _ => ?_))
      | exact ih0 _ _ _ _ _ _ _ _ _
      | exact ih1 _ _ _ _ _ _
      | exact ih2 _ _ _
      | exact impl_ResponseFields.mono _ _ _
      | exact laws_eqFieldS.mono _ _ _
      | exact laws_eqResponse.mono _ _ _ _ _
      | exact laws_heldFieldS.mono _ _ _
      | exact laws_markFieldS.mono _ _ _
      | exact laws_markResponse.mono _ _ _ _
      | exact laws_szResponse.mono _ _ _ _
      | exact laws_toResponse.mono _ _ _
      | exact spec_ResponseFields.mono _ _ _
      | exact LeO.none _
      | refine LeO.ite ?_ ?_
      | refine LeO.bind ?_ (fun _ => ?_)
theorem laws_FnExactResponseFields.mono : ∀ a0 a1 k, LeO (laws_FnExactResponseFields.f k a0 a1) (laws_FnExactResponseFields.f (k + 1) a0 a1) := by
  intro a0 a1 k
  obtain ⟨ih0, ih1, ih2⟩ := laws_FnExactResponseFields.mono_l k
  unfold laws_FnExactResponseFields.f
  repeat' first
      | (with_reducible exact ih0 _ _ _ _ _ _ _ _ _)
      | (with_reducible exact ih1 _ _ _ _ _ _)
      | (with_reducible exact ih2 _ _ _)
      | (with_reducible exact impl_ResponseFields.mono _ _ _)
      | (with_reducible exact laws_eqFieldS.mono _ _ _)
      | (with_reducible exact laws_eqResponse.mono _ _ _ _ _)
      | (with_reducible exact laws_heldFieldS.mono _ _ _)
      | (with_reducible exact laws_markFieldS.mono _ _ _)
      | (with_reducible exact laws_markResponse.mono _ _ _ _)
      | (with_reducible exact laws_szResponse.mono _ _ _ _)
      | (with_reducible exact laws_toResponse.mono _ _ _)
      | (with_reducible exact spec_ResponseFields.mono _ _ _)
      | (with_reducible exact LeO.refl _)
      | (with_reducible exact LeO.none _)
      | (with_reducible refine LeO.ite ?_ ?_)
      | (with_reducible refine LeO.bind ?_ (fun _ => ?_))
      | exact ih0 _ _ _ _ _ _ _ _ _
      | exact ih1 _ _ _ _ _ _
      | exact ih2 _ _ _
      | exact impl_ResponseFields.mono _ _ _
      | exact laws_eqFieldS.mono _ _ _
      | exact laws_eqResponse.mono _ _ _ _ _
      | exact laws_heldFieldS.mono _ _ _
      | exact laws_markFieldS.mono _ _ _
      | exact laws_markResponse.mono _ _ _ _
      | exact laws_szResponse.mono _ _ _ _
      | exact laws_toResponse.mono _ _ _
      | exact spec_ResponseFields.mono _ _ _
      | exact LeO.none _
      | refine LeO.ite ?_ ?_
      | refine LeO.bind ?_ (fun _ => ?_)
set_option maxHeartbeats 8000000 in
set_option maxRecDepth 100000 in
theorem laws_FnExactResponseFields.calls (k : Nat) (a0_0 : Int) (A0_1 : Option Addr) (c0_1 : Nat) (l0_1 : List (S77)) (r : Bool) (w : World) (hr0_1 : Kd.C k77 w A0_1 l0_1.length l0_1) (hc0_1 : l0_1.length ≤ c0_1) (h : laws_FnExactResponseFields.f k a0_0 l0_1 = some r) (hT : TabW w) :
    Calls Tryd.prog 9 #[.agg #[.int .i64 a0_0, .slice A0_1 l0_1.length c0_1]] w fun e w' => e = .returned (.bool r) ∧ Below w.heap.size w w' := by
  have hu53 := Tryd.underlying53
  have hu57 := Tryd.underlying57
  have HR0_1 := Aside0.mk hr0_1
  have HC0_1 := Aside0.mk hc0_1
  clear hr0_1 hc0_1
  have HT0 := Aside0.mk hT
  clear hT
  have HB := Aside0.mk (Below.refl w.heap.size w)
  have H : ((laws_szResponse.f k a0_0 l0_1 1048576).bind fun t199 => (if t199 < 0 then (some true) else ((laws_toResponse.f k a0_0 l0_1).bind fun bt200 => ((spec_ResponseFields.f k bt200.1 bt200.2).bind fun bt204 => ((laws_toResponse.f k a0_0 l0_1).bind fun bt208 => ((impl_ResponseFields.f k bt208.1 bt208.2).bind fun bt213 => ((laws_eqFieldS.f k bt213.1 bt204.1).bind fun t217 => (if t217 = true then (laws_FnExactResponseFields.j0 k bt204.1 bt204.2 bt213.1 bt213.2 (bt213.2 != bt204.2) a0_0 l0_1 bt208.1 bt208.2) else (laws_FnExactResponseFields.j0 k bt204.1 bt204.2 bt213.1 bt213.2 true a0_0 l0_1 bt208.1 bt208.2))))))))) = some r := h
  clear h
  replace H := Option.bind_eq_some_iff.mp H
  obtain ⟨t199, A20, H⟩ := H
  replace H : (if t199 < 0 then (some true) else ((laws_toResponse.f k a0_0 l0_1).bind fun bt200 => ((spec_ResponseFields.f k bt200.1 bt200.2).bind fun bt204 => ((laws_toResponse.f k a0_0 l0_1).bind fun bt208 => ((impl_ResponseFields.f k bt208.1 bt208.2).bind fun bt213 => ((laws_eqFieldS.f k bt213.1 bt204.1).bind fun t217 => (if t217 = true then (laws_FnExactResponseFields.j0 k bt204.1 bt204.2 bt213.1 bt213.2 (bt213.2 != bt204.2) a0_0 l0_1 bt208.1 bt208.2) else (laws_FnExactResponseFields.j0 k bt204.1 bt204.2 bt213.1 bt213.2 true a0_0 l0_1 bt208.1 bt208.2)))))))) = some r := H
  have A2 := Aside0.mk A20
  clear A20
  by_cases c3 : t199 < 0
  · rw [if_pos c3] at H
    have c3b0 : decide (t199 < 0) = true := decide_eq_true c3
    clear c3
    obtain rfl := Option.some.inj H
    go_enter Tryd.func9, Tryd.ntmps9
    go_wp2_with (first | ((with_reducible refine gate_dst (N := 1) rfl ?_); refine box_event ?hg (N := 1) ?hd (cs := #[.int .i64 a0_0, .slice A0_1 l0_1.length c0_1]) (t := 53) ?hr ?_; (case hd => rfl); (case hg => rfl); (case hr => first | (go_simp; done) | (go_simp; rfl)); intro gb198 hg w4 hbox hb; have n0_ := Aside0.mk (below_step (by repeat (first | (with_reducible first | exact HB.out | apply below_alloc | apply pw_below_drewN | apply below_drew1) | exact HB.out)) hb); have n1_ := Aside0.mk (hbox); have n2_ := Aside0.mk ((by rw [hg]; exact (below_size (by repeat (first | (with_reducible first | exact HB.out | apply below_alloc | apply pw_below_drewN | apply below_drew1) | exact HB.out))) : w.heap.size ≤ gb198)); have n3_ := Aside0.mk ((by rw [hg]; exact (below_size (by repeat (first | (with_reducible first | exact HB.out | apply below_alloc | apply pw_below_drewN | apply below_drew1) | exact HB.out))) : w.heap.size ≤ gb198)); clear HB; have HB := n0_; have BK198 := n1_; have GW198 := n2_; have GE198 := n3_; clear n0_ n1_ n2_ n3_; clear hb hbox hg; have hcz5_0 : w4.cell? ⟨gb198, 0, none⟩ = some (.int .i64 a0_0) := (blk_cell BK198.out 0).trans rfl; have hcz5_1 : w4.cell? ⟨gb198, 1, none⟩ = some (.slice A0_1 l0_1.length c0_1) := (blk_cell BK198.out 1).trans rfl; have hfz5_0 := blk_frozen BK198.out 0; have hfz5_1 := blk_frozen BK198.out 1) | ((with_reducible refine gate_callee (f := 32) rfl ?_); refine goesL_ (some 16) rfl rfl Tryd.func32 (by kernel_rfl) rfl #[.agg #[.int .i64 a0_0, .slice A0_1 l0_1.length c0_1], .int .i64 1048576] rfl (by (try simp only [List.map_toArray, List.map_cons, List.map_nil]); first | done | rfl | (simp only [List.length_drop, List.length_take]; rfl)) ?_; (with_reducible refine (laws_szResponse.calls k a0_0 _ _ l0_1 1048576 t199 _ ?side1 ?side2 A2.out).mono ?_); (case side1 => repeat (first | exact (Kd.C_below HR0_1.out HB.out) | (with_reducible refine Kd.C_alloc ?_ _) | (with_reducible refine Kd.C_drewN ?_ _) | (with_reducible refine Kd.C_drew ?_))); (case side2 => exact HC0_1.out); rintro e w6 ⟨rfl, hb⟩; refine ⟨_, rfl, ?_⟩; have n0_ := Aside0.mk (blk_below (g := gb198) (o := .cells #[.int .i64 a0_0, .slice A0_1 l0_1.length c0_1] 53 (0, 0)) (by (with_reducible repeat (first | refine blk_drewN ?_ _ | refine blk_drew ?_ | refine blk_alloc ?_ _)); exact BK198.out) hb); have n1_ := Aside0.mk (below_step (by repeat (first | (with_reducible first | exact HB.out | apply below_alloc | apply pw_below_drewN | apply below_drew1 | refine below_set ?_ GE198.out) | exact HB.out)) hb); clear BK198; clear HB; have BK198 := n0_; have HB := n1_; clear n0_ n1_; (try clear hb); (try clear hb2); (try clear hk); (try clear hi)))
    go_ret
    exact ⟨by first | rfl | (simp [errW_none, errW_some] <;> rfl) | (simp [*, errW_none, errW_some] <;> rfl), by repeat (first | (with_reducible first | exact HB.out | apply below_alloc | apply pw_below_drewN | apply below_drew1 | refine below_set ?_ GE198.out) | exact HB.out)⟩
  · rw [if_neg c3] at H
    have c3b0 : decide (t199 < 0) = false := decide_eq_false c3
    clear c3
    replace H := Option.bind_eq_some_iff.mp H
    obtain ⟨⟨t200, t201⟩, A70, H⟩ := H
    replace H : ((spec_ResponseFields.f k t200 t201).bind fun bt204 => ((laws_toResponse.f k a0_0 l0_1).bind fun bt208 => ((impl_ResponseFields.f k bt208.1 bt208.2).bind fun bt213 => ((laws_eqFieldS.f k bt213.1 bt204.1).bind fun t217 => (if t217 = true then (laws_FnExactResponseFields.j0 k bt204.1 bt204.2 bt213.1 bt213.2 (bt213.2 != bt204.2) a0_0 l0_1 bt208.1 bt208.2) else (laws_FnExactResponseFields.j0 k bt204.1 bt204.2 bt213.1 bt213.2 true a0_0 l0_1 bt208.1 bt208.2)))))) = some r := H
    have A7 := Aside0.mk A70
    clear A70
    replace H := Option.bind_eq_some_iff.mp H
    obtain ⟨⟨t204, t207⟩, A80, H⟩ := H
    replace H : ((laws_toResponse.f k a0_0 l0_1).bind fun bt208 => ((impl_ResponseFields.f k bt208.1 bt208.2).bind fun bt213 => ((laws_eqFieldS.f k bt213.1 t204).bind fun t217 => (if t217 = true then (laws_FnExactResponseFields.j0 k t204 t207 bt213.1 bt213.2 (bt213.2 != t207) a0_0 l0_1 bt208.1 bt208.2) else (laws_FnExactResponseFields.j0 k t204 t207 bt213.1 bt213.2 true a0_0 l0_1 bt208.1 bt208.2))))) = some r := H
    have A8 := Aside0.mk A80
    clear A80
    replace H := Option.bind_eq_some_iff.mp H
    obtain ⟨⟨t208, t209⟩, A90, H⟩ := H
    replace H : ((impl_ResponseFields.f k t208 t209).bind fun bt213 => ((laws_eqFieldS.f k bt213.1 t204).bind fun t217 => (if t217 = true then (laws_FnExactResponseFields.j0 k t204 t207 bt213.1 bt213.2 (bt213.2 != t207) a0_0 l0_1 t208 t209) else (laws_FnExactResponseFields.j0 k t204 t207 bt213.1 bt213.2 true a0_0 l0_1 t208 t209)))) = some r := H
    have A9 := Aside0.mk A90
    clear A90
    replace H := Option.bind_eq_some_iff.mp H
    obtain ⟨⟨t213, t216⟩, A100, H⟩ := H
    replace H : ((laws_eqFieldS.f k t213 t204).bind fun t217 => (if t217 = true then (laws_FnExactResponseFields.j0 k t204 t207 t213 t216 (t216 != t207) a0_0 l0_1 t208 t209) else (laws_FnExactResponseFields.j0 k t204 t207 t213 t216 true a0_0 l0_1 t208 t209))) = some r := H
    have A10 := Aside0.mk A100
    clear A100
    have HC11 := Aside0.mk H
    clear H
    go_enter Tryd.func9, Tryd.ntmps9
    go_upto_region 8 with (first | ((with_reducible refine gate_dst (N := 1) rfl ?_); refine box_event ?hg (N := 1) ?hd (cs := #[.int .i64 a0_0, .slice A0_1 l0_1.length c0_1]) (t := 53) ?hr ?_; (case hd => rfl); (case hg => rfl); (case hr => first | (go_simp; done) | (go_simp; rfl)); intro gb198 hg w12 hbox hb; have n0_ := Aside0.mk (below_step (by repeat (first | (with_reducible first | exact HB.out | apply below_alloc | apply pw_below_drewN | apply below_drew1) | exact HB.out)) hb); have n1_ := Aside0.mk (hbox); have n2_ := Aside0.mk ((by rw [hg]; exact (below_size (by repeat (first | (with_reducible first | exact HB.out | apply below_alloc | apply pw_below_drewN | apply below_drew1) | exact HB.out))) : w.heap.size ≤ gb198)); have n3_ := Aside0.mk ((by rw [hg]; exact (below_size (by repeat (first | (with_reducible first | exact HB.out | apply below_alloc | apply pw_below_drewN | apply below_drew1) | exact HB.out))) : w.heap.size ≤ gb198)); clear HB; have HB := n0_; have BK198 := n1_; have GW198 := n2_; have GE198 := n3_; clear n0_ n1_ n2_ n3_; clear hb hbox hg; have hcz13_0 : w12.cell? ⟨gb198, 0, none⟩ = some (.int .i64 a0_0) := (blk_cell BK198.out 0).trans rfl; have hcz13_1 : w12.cell? ⟨gb198, 1, none⟩ = some (.slice A0_1 l0_1.length c0_1) := (blk_cell BK198.out 1).trans rfl; have hfz13_0 := blk_frozen BK198.out 0; have hfz13_1 := blk_frozen BK198.out 1) | ((with_reducible refine gate_callee (f := 32) rfl ?_); refine goesL_ (some 16) rfl rfl Tryd.func32 (by kernel_rfl) rfl #[.agg #[.int .i64 a0_0, .slice A0_1 l0_1.length c0_1], .int .i64 1048576] rfl (by (try simp only [List.map_toArray, List.map_cons, List.map_nil]); first | done | rfl | (simp only [List.length_drop, List.length_take]; rfl)) ?_; (with_reducible refine (laws_szResponse.calls k a0_0 _ _ l0_1 1048576 t199 _ ?side1 ?side2 A2.out).mono ?_); (case side1 => repeat (first | exact (Kd.C_below HR0_1.out HB.out) | (with_reducible refine Kd.C_alloc ?_ _) | (with_reducible refine Kd.C_drewN ?_ _) | (with_reducible refine Kd.C_drew ?_))); (case side2 => exact HC0_1.out); rintro e w14 ⟨rfl, hb⟩; refine ⟨_, rfl, ?_⟩; have n0_ := Aside0.mk (blk_below (g := gb198) (o := .cells #[.int .i64 a0_0, .slice A0_1 l0_1.length c0_1] 53 (0, 0)) (by (with_reducible repeat (first | refine blk_drewN ?_ _ | refine blk_drew ?_ | refine blk_alloc ?_ _)); exact BK198.out) hb); have n1_ := Aside0.mk (below_step (by repeat (first | (with_reducible first | exact HB.out | apply below_alloc | apply pw_below_drewN | apply below_drew1 | refine below_set ?_ GE198.out) | exact HB.out)) hb); clear BK198; clear HB; have BK198 := n0_; have HB := n1_; clear n0_ n1_; (try clear hb); (try clear hb2); (try clear hk); (try clear hi); have hcz15_0 : w14.cell? ⟨gb198, 0, none⟩ = some (.int .i64 a0_0) := (blk_cell BK198.out 0).trans rfl; have hcz15_1 : w14.cell? ⟨gb198, 1, none⟩ = some (.slice A0_1 l0_1.length c0_1) := (blk_cell BK198.out 1).trans rfl; have hfz15_0 := blk_frozen BK198.out 0; have hfz15_1 := blk_frozen BK198.out 1) | ((with_reducible refine gate_callee (f := 34) rfl ?_); refine goesL_ (some 21) rfl rfl Tryd.func34 (by kernel_rfl) rfl #[.agg #[.int .i64 a0_0, .slice A0_1 l0_1.length c0_1]] rfl (by (try simp only [List.map_toArray, List.map_cons, List.map_nil]); first | done | rfl | (simp only [List.length_drop, List.length_take]; rfl)) ?_; (with_reducible refine (laws_toResponse.calls k a0_0 _ _ l0_1 t200 t201 _ ?side1 ?side2 A7.out).mono ?_); (case side1 => repeat (first | exact (Kd.C_below HR0_1.out HB.out) | (with_reducible refine Kd.C_alloc ?_ _) | (with_reducible refine Kd.C_drewN ?_ _) | (with_reducible refine Kd.C_drew ?_))); (case side2 => exact HC0_1.out); rintro e w16 ⟨v202, rfl, ho0, hb⟩; refine ⟨_, rfl, ?_⟩; have n0_ := Aside0.mk (Kd.R_lower ho0 (below_size (by repeat (first | (with_reducible first | exact HB.out | apply below_alloc | apply pw_below_drewN | apply below_drew1 | refine below_set ?_ GE198.out) | exact HB.out)))); have n1_ := Aside0.mk (blk_below (g := gb198) (o := .cells #[.int .i64 a0_0, .slice A0_1 l0_1.length c0_1] 53 (0, 0)) (by (with_reducible repeat (first | refine blk_drewN ?_ _ | refine blk_drew ?_ | refine blk_alloc ?_ _)); exact BK198.out) hb); have n2_ := Aside0.mk (below_step (by repeat (first | (with_reducible first | exact HB.out | apply below_alloc | apply pw_below_drewN | apply below_drew1 | refine below_set ?_ GE198.out) | exact HB.out)) hb); clear BK198; clear HB; have HO203 := n0_; have BK198 := n1_; have HB := n2_; clear n0_ n1_ n2_; (try clear hb); (try clear hb2); (try clear hk); (try clear hi); (try clear ho0); obtain ⟨Ao17, co17, eo17⟩ := Kd.R_slice HO203.out; subst eo17) | ((with_reducible refine gate_callee (f := 33) rfl ?_); refine goesL_ (some 22) rfl rfl Tryd.func33 (by kernel_rfl) rfl #[.agg #[.int .i64 t200, .slice Ao17 t201.length co17]] rfl (by (try simp only [List.map_toArray, List.map_cons, List.map_nil]); first | done | rfl | (simp only [List.length_drop, List.length_take]; rfl)) ?_; (with_reducible refine (spec_ResponseFields.calls k t200 _ _ t201 t204 t207 _ ?side1 ?side2 A8.out).mono ?_); (case side1 => repeat (first | exact (Kd.R_reads' HO203.out).2.2 | (with_reducible refine Kd.C_alloc ?_ _) | (with_reducible refine Kd.C_drewN ?_ _) | (with_reducible refine Kd.C_drew ?_))); (case side2 => exact (Kd.R_reads' HO203.out).2.1); rintro e w18 ⟨v205, rfl, ho0, hb⟩; refine ⟨_, rfl, ?_⟩; have n0_ := Aside0.mk (Kd.R_elder' (by (with_reducible repeat (first | apply Kd.R_alloc | apply Kd.R_drewN | apply Kd.R_drew)); exact HO203.out) (Kd.R_base ho0) hb); have n1_ := Aside0.mk (Kd.R_lower (Kd.R_new' ho0 (Kd.R_lt (by (with_reducible repeat (first | apply Kd.R_alloc | apply Kd.R_drewN | apply Kd.R_drew)); exact HO203.out))) (below_size (by repeat (first | (with_reducible first | exact HB.out | apply below_alloc | apply pw_below_drewN | apply below_drew1 | refine below_set ?_ GE198.out) | exact HB.out)))); have n2_ := Aside0.mk (blk_below (g := gb198) (o := .cells #[.int .i64 a0_0, .slice A0_1 l0_1.length c0_1] 53 (0, 0)) (by (with_reducible repeat (first | refine blk_drewN ?_ _ | refine blk_drew ?_ | refine blk_alloc ?_ _)); exact BK198.out) hb); have n3_ := Aside0.mk (below_step (by repeat (first | (with_reducible first | exact HB.out | apply below_alloc | apply pw_below_drewN | apply below_drew1 | refine below_set ?_ GE198.out) | exact HB.out)) hb); clear HO203; clear BK198; clear HB; have HO203 := n0_; have HO206 := n1_; have BK198 := n2_; have HB := n3_; clear n0_ n1_ n2_ n3_; (try clear hb); (try clear hb2); (try clear hk); (try clear hi); (try clear ho0); have hcz19_0 : w18.cell? ⟨gb198, 0, none⟩ = some (.int .i64 a0_0) := (blk_cell BK198.out 0).trans rfl; have hcz19_1 : w18.cell? ⟨gb198, 1, none⟩ = some (.slice A0_1 l0_1.length c0_1) := (blk_cell BK198.out 1).trans rfl; have hfz19_0 := blk_frozen BK198.out 0; have hfz19_1 := blk_frozen BK198.out 1) | ((with_reducible refine gate_callee (f := 34) rfl ?_); refine goesL_ (some 26) rfl rfl Tryd.func34 (by kernel_rfl) rfl #[.agg #[.int .i64 a0_0, .slice A0_1 l0_1.length c0_1]] rfl (by (try simp only [List.map_toArray, List.map_cons, List.map_nil]); first | done | rfl | (simp only [List.length_drop, List.length_take]; rfl)) ?_; (with_reducible refine (laws_toResponse.calls k a0_0 _ _ l0_1 t208 t209 _ ?side1 ?side2 A9.out).mono ?_); (case side1 => repeat (first | exact (Kd.C_below HR0_1.out HB.out) | (with_reducible refine Kd.C_alloc ?_ _) | (with_reducible refine Kd.C_drewN ?_ _) | (with_reducible refine Kd.C_drew ?_))); (case side2 => exact HC0_1.out); rintro e w20 ⟨v210, rfl, ho0, hb⟩; refine ⟨_, rfl, ?_⟩; have n0_ := Aside0.mk (Kd.R_elder' (by (with_reducible repeat (first | apply Kd.R_alloc | apply Kd.R_drewN | apply Kd.R_drew)); exact HO203.out) (Kd.R_base ho0) hb); have n1_ := Aside0.mk (Kd.R_elder' (by (with_reducible repeat (first | apply Kd.R_alloc | apply Kd.R_drewN | apply Kd.R_drew)); exact HO206.out) (Kd.R_base ho0) hb); have n2_ := Aside0.mk (Kd.R_lower (Kd.R_new' (Kd.R_new' ho0 (Kd.R_lt (by (with_reducible repeat (first | apply Kd.R_alloc | apply Kd.R_drewN | apply Kd.R_drew)); exact HO203.out))) (Kd.R_lt (by (with_reducible repeat (first | apply Kd.R_alloc | apply Kd.R_drewN | apply Kd.R_drew)); exact HO206.out))) (below_size (by repeat (first | (with_reducible first | exact HB.out | apply below_alloc | apply pw_below_drewN | apply below_drew1 | refine below_set ?_ GE198.out) | exact HB.out)))); have n3_ := Aside0.mk (blk_below (g := gb198) (o := .cells #[.int .i64 a0_0, .slice A0_1 l0_1.length c0_1] 53 (0, 0)) (by (with_reducible repeat (first | refine blk_drewN ?_ _ | refine blk_drew ?_ | refine blk_alloc ?_ _)); exact BK198.out) hb); have n4_ := Aside0.mk (below_step (by repeat (first | (with_reducible first | exact HB.out | apply below_alloc | apply pw_below_drewN | apply below_drew1 | refine below_set ?_ GE198.out) | exact HB.out)) hb); clear HO203; clear HO206; clear BK198; clear HB; have HO203 := n0_; have HO206 := n1_; have HO211 := n2_; have BK198 := n3_; have HB := n4_; clear n0_ n1_ n2_ n3_ n4_; (try clear hb); (try clear hb2); (try clear hk); (try clear hi); (try clear ho0)) | ((with_reducible refine gate_dst (N := 6) rfl ?_); refine box_event ?hg (N := 6) ?hd (cs := #[.int .i64 0, .slice none 0 0]) (t := 57) ?hr ?_; (case hd => rfl); (case hg => rfl); (case hr => first | (go_simp; done) | (go_simp; rfl)); intro gb212 hg w21 hbox hb; have n0_ := Aside0.mk (Kd.R_below (by (with_reducible repeat (first | apply Kd.R_alloc | apply Kd.R_drewN | apply Kd.R_drew)); exact HO203.out) hb); have n1_ := Aside0.mk (Kd.R_below (by (with_reducible repeat (first | apply Kd.R_alloc | apply Kd.R_drewN | apply Kd.R_drew)); exact HO206.out) hb); have n2_ := Aside0.mk (Kd.R_below (by (with_reducible repeat (first | apply Kd.R_alloc | apply Kd.R_drewN | apply Kd.R_drew)); exact HO211.out) hb); have n3_ := Aside0.mk (blk_below (g := gb198) (o := .cells #[.int .i64 a0_0, .slice A0_1 l0_1.length c0_1] 53 (0, 0)) (by (with_reducible repeat (first | refine blk_drewN ?_ _ | refine blk_drew ?_ | refine blk_alloc ?_ _)); exact BK198.out) hb); have n4_ := Aside0.mk (below_step (by repeat (first | (with_reducible first | exact HB.out | apply below_alloc | apply pw_below_drewN | apply below_drew1 | refine below_set ?_ GE198.out) | exact HB.out)) hb); have n5_ := Aside0.mk (hbox); have n6_ := Aside0.mk ((by rw [hg]; exact (below_size (by repeat (first | (with_reducible first | exact HB.out | apply below_alloc | apply pw_below_drewN | apply below_drew1 | refine below_set ?_ GE198.out) | exact HB.out))) : w.heap.size ≤ gb212)); have n7_ := Aside0.mk ((by rw [hg]; exact (below_size (by repeat (first | (with_reducible first | exact HB.out | apply below_alloc | apply pw_below_drewN | apply below_drew1 | refine below_set ?_ GE198.out) | exact HB.out))) : w.heap.size ≤ gb212)); have n8_ := Aside0.mk ((by rw [hg]; exact Nat.ne_of_lt (blk_lt (g := gb198) (o := .cells #[.int .i64 a0_0, .slice A0_1 l0_1.length c0_1] 53 (0, 0)) (by (with_reducible repeat (first | refine blk_drewN ?_ _ | refine blk_drew ?_ | refine blk_alloc ?_ _)); exact BK198.out)) : gb198 ≠ gb212)); have n9_ := Aside0.mk ((by rw [hg]; exact Nat.ne_of_gt (blk_lt (g := gb198) (o := .cells #[.int .i64 a0_0, .slice A0_1 l0_1.length c0_1] 53 (0, 0)) (by (with_reducible repeat (first | refine blk_drewN ?_ _ | refine blk_drew ?_ | refine blk_alloc ?_ _)); exact BK198.out)) : gb212 ≠ gb198)); clear HO203; clear HO206; clear HO211; clear BK198; clear HB; have HO203 := n0_; have HO206 := n1_; have HO211 := n2_; have BK198 := n3_; have HB := n4_; have BK212 := n5_; have GW212 := n6_; have GE212 := n7_; have NB198_212 := n8_; have NB212_198 := n9_; clear n0_ n1_ n2_ n3_ n4_ n5_ n6_ n7_ n8_ n9_; clear hb hbox hg; have hnb22 := NB212_198.out; have hnc22 := NB198_212.out; have hcz23_0 : w21.cell? ⟨gb212, 0, none⟩ = some (.int .i64 0) := (blk_cell BK212.out 0).trans rfl; have hcz23_1 : w21.cell? ⟨gb212, 1, none⟩ = some (.slice none 0 0) := (blk_cell BK212.out 1).trans rfl; have hfz23_0 := blk_frozen BK212.out 0; have hfz23_1 := blk_frozen BK212.out 1; obtain ⟨Ao24, co24, eo24⟩ := Kd.R_slice HO211.out; subst eo24) | ((with_reducible refine gate_callee (f := 35) rfl ?_); refine goesL_ (some 29) rfl rfl Tryd.func35 (by kernel_rfl) rfl #[.agg #[.int .i64 t208, .slice Ao24 t209.length co24]] rfl (by (try simp only [List.map_toArray, List.map_cons, List.map_nil]); first | done | rfl | (simp only [List.length_drop, List.length_take]; rfl)) ?_; (with_reducible refine (impl_ResponseFields.calls k t208 _ _ t209 t213 t216 _ ?side1 ?side2 A10.out ?sidet).mono ?_); (case sidet => exact TabW.below HT0.out (by repeat (first | (with_reducible first | exact HB.out | apply below_alloc | apply pw_below_drewN | apply below_drew1 | refine below_set ?_ GE198.out | refine below_set ?_ GE212.out) | exact HB.out))); (case side1 => refine (Kd.R_reads' (e := 78) (base := w.heap.size) (ok := fun k_ => ((True ∧ some k_ ≠ (.slice Ao17 t201.length co17 : Value).ownBlock) ∧ some k_ ≠ (v205 : Value).ownBlock)) (n := t209.length) (c := co24) ?_).2.2; exact (by (with_reducible repeat (first | apply Kd.R_alloc | apply Kd.R_drewN | apply Kd.R_drew)); exact (Kd.R_mono (Kd.R_far (p := ⟨gb212, 1, none⟩) (Kd.R_far (p := ⟨gb212, 0, none⟩) (Kd.R_types HO211.out BK212.out (by decide)) (fun _ hk => hk.2) (.int .i64 t208)) (fun _ hk => hk.2) (.slice Ao24 t209.length co24)) (fun _ h_ => h_.1)))); (case side2 => exact (Kd.R_reads' HO211.out).2.1); rintro e w25 ⟨v214, rfl, ho0, hb⟩; refine ⟨_, rfl, ?_⟩; have n0_ := Aside0.mk (Kd.R_elder' (by (with_reducible repeat (first | apply Kd.R_alloc | apply Kd.R_drewN | apply Kd.R_drew)); exact (Kd.R_mono (Kd.R_far (p := ⟨gb212, 1, none⟩) (Kd.R_far (p := ⟨gb212, 0, none⟩) (Kd.R_types HO203.out BK212.out (by decide)) (fun _ hk => hk.2) (.int .i64 t208)) (fun _ hk => hk.2) (.slice Ao24 t209.length co24)) (fun _ h_ => h_.1))) (Kd.R_base ho0) hb); have n1_ := Aside0.mk (Kd.R_elder' (by (with_reducible repeat (first | apply Kd.R_alloc | apply Kd.R_drewN | apply Kd.R_drew)); exact (Kd.R_mono (Kd.R_far (p := ⟨gb212, 1, none⟩) (Kd.R_far (p := ⟨gb212, 0, none⟩) (Kd.R_types HO206.out BK212.out (by decide)) (fun _ hk => hk.2) (.int .i64 t208)) (fun _ hk => hk.2) (.slice Ao24 t209.length co24)) (fun _ h_ => h_.1))) (Kd.R_base ho0) hb); have n2_ := Aside0.mk (Kd.R_elder' (by (with_reducible repeat (first | apply Kd.R_alloc | apply Kd.R_drewN | apply Kd.R_drew)); exact (Kd.R_mono (Kd.R_far (p := ⟨gb212, 1, none⟩) (Kd.R_far (p := ⟨gb212, 0, none⟩) (Kd.R_types HO211.out BK212.out (by decide)) (fun _ hk => hk.2) (.int .i64 t208)) (fun _ hk => hk.2) (.slice Ao24 t209.length co24)) (fun _ h_ => h_.1))) (Kd.R_base ho0) hb); have n3_ := Aside0.mk (Kd.R_lower (Kd.R_new' (Kd.R_new' (Kd.R_new' ho0 (Kd.R_lt (by (with_reducible repeat (first | apply Kd.R_alloc | apply Kd.R_drewN | apply Kd.R_drew)); exact (Kd.R_mono (Kd.R_far (p := ⟨gb212, 1, none⟩) (Kd.R_far (p := ⟨gb212, 0, none⟩) (Kd.R_types HO203.out BK212.out (by decide)) (fun _ hk => hk.2) (.int .i64 t208)) (fun _ hk => hk.2) (.slice Ao24 t209.length co24)) (fun _ h_ => h_.1))))) (Kd.R_lt (by (with_reducible repeat (first | apply Kd.R_alloc | apply Kd.R_drewN | apply Kd.R_drew)); exact (Kd.R_mono (Kd.R_far (p := ⟨gb212, 1, none⟩) (Kd.R_far (p := ⟨gb212, 0, none⟩) (Kd.R_types HO206.out BK212.out (by decide)) (fun _ hk => hk.2) (.int .i64 t208)) (fun _ hk => hk.2) (.slice Ao24 t209.length co24)) (fun _ h_ => h_.1))))) (Kd.R_lt (by (with_reducible repeat (first | apply Kd.R_alloc | apply Kd.R_drewN | apply Kd.R_drew)); exact (Kd.R_mono (Kd.R_far (p := ⟨gb212, 1, none⟩) (Kd.R_far (p := ⟨gb212, 0, none⟩) (Kd.R_types HO211.out BK212.out (by decide)) (fun _ hk => hk.2) (.int .i64 t208)) (fun _ hk => hk.2) (.slice Ao24 t209.length co24)) (fun _ h_ => h_.1))))) (below_size (by repeat (first | (with_reducible first | exact HB.out | apply below_alloc | apply pw_below_drewN | apply below_drew1 | refine below_set ?_ GE198.out | refine below_set ?_ GE212.out) | exact HB.out)))); have n4_ := Aside0.mk (blk_below (g := gb198) (o := .cells #[.int .i64 a0_0, .slice A0_1 l0_1.length c0_1] 53 (0, 0)) (by (with_reducible repeat (first | refine blk_drewN ?_ _ | refine blk_drew ?_ | refine blk_alloc ?_ _)); refine blk_far ?_ NB198_212.out _; (with_reducible repeat (first | refine blk_drewN ?_ _ | refine blk_drew ?_ | refine blk_alloc ?_ _)); refine blk_far ?_ NB198_212.out _; (with_reducible repeat (first | refine blk_drewN ?_ _ | refine blk_drew ?_ | refine blk_alloc ?_ _)); exact BK198.out) hb); have n5_ := Aside0.mk (blk_below (g := gb212) (o := .cells #[.int .i64 t208, .slice Ao24 t209.length co24] 57 (0, 0)) (by (with_reducible repeat (first | refine blk_drewN ?_ _ | refine blk_drew ?_ | refine blk_alloc ?_ _)); refine blk_put (cs := #[.int .i64 t208, .slice none 0 0]) ?_ 1 _ rfl; (with_reducible repeat (first | refine blk_drewN ?_ _ | refine blk_drew ?_ | refine blk_alloc ?_ _)); refine blk_put (cs := #[.int .i64 0, .slice none 0 0]) ?_ 0 _ rfl; (with_reducible repeat (first | refine blk_drewN ?_ _ | refine blk_drew ?_ | refine blk_alloc ?_ _)); exact BK212.out) hb); have n6_ := Aside0.mk (below_step (by repeat (first | (with_reducible first | exact HB.out | apply below_alloc | apply pw_below_drewN | apply below_drew1 | refine below_set ?_ GE198.out | refine below_set ?_ GE212.out) | exact HB.out)) hb); clear HO203; clear HO206; clear HO211; clear BK198; clear BK212; clear HB; have HO203 := n0_; have HO206 := n1_; have HO211 := n2_; have HO215 := n3_; have BK198 := n4_; have BK212 := n5_; have HB := n6_; clear n0_ n1_ n2_ n3_ n4_ n5_ n6_; (try clear hb); (try clear hb2); (try clear hk); (try clear hi); (try clear ho0)))
    (try simp only [Act.put, List.setIfInBounds_toArray, List.set_cons_zero, List.set_cons_succ])
    go_cut [40] (fun v40 wc => ∃ (kq : Nat) (x40_10 : Bool), v40 = .bool x40_10 ∧ Aside0 (laws_FnExactResponseFields.j0 kq t204 t207 t213 t216 x40_10 a0_0 l0_1 t208 t209 = some r) ∧ Aside0 (kq ≤ k) ∧ Aside0 (Kd.R k78 78 wc w.heap.size (fun k_ => some k_ ≠ (v214 : Value).ownBlock ∧ some k_ ≠ ((.slice Ao24 t209.length co24) : Value).ownBlock) v205 t204) ∧ Aside0 (Kd.R k78 78 wc w.heap.size (fun k_ => some k_ ≠ (v205 : Value).ownBlock ∧ some k_ ≠ ((.slice Ao24 t209.length co24) : Value).ownBlock) v214 t213) ∧ Aside0 (Kd.R k78 78 wc w.heap.size (fun k_ => some k_ ≠ (v205 : Value).ownBlock ∧ some k_ ≠ (v214 : Value).ownBlock) (.slice Ao24 t209.length co24) t209) ∧ Aside0 (wc.heap[gb198]? = some (.cells #[.int .i64 a0_0, (.slice A0_1 l0_1.length c0_1)] 53 (0, 0))) ∧ Aside0 (wc.heap[gb212]? = some (.cells #[.int .i64 t208, (.slice Ao24 t209.length co24)] 57 (0, 0))) ∧ Aside0 (Below w.heap.size w wc))
    case first =>
      have H := HC11.out
      clear HC11
      replace H := Option.bind_eq_some_iff.mp H
      obtain ⟨t217, A260, H⟩ := H
      replace H : (if t217 = true then (laws_FnExactResponseFields.j0 k t204 t207 t213 t216 (t216 != t207) a0_0 l0_1 t208 t209) else (laws_FnExactResponseFields.j0 k t204 t207 t213 t216 true a0_0 l0_1 t208 t209)) = some r := H
      have A26 := Aside0.mk A260
      clear A260
      by_cases c27 : t217 = true
      · subst c27
        have H1 : (laws_FnExactResponseFields.j0 k t204 t207 t213 t216 (t216 != t207) a0_0 l0_1 t208 t209) = some r := by rw [if_pos rfl] at H; exact H
        clear H
        have H := H1
        clear H1
        have H' := Aside0.mk H
        clear H
        obtain ⟨Ao28, co28, eo28⟩ := Kd.R_slice HO215.out
        subst eo28
        obtain ⟨Ao29, co29, eo29⟩ := Kd.R_slice HO206.out
        subst eo29
        go_wp2_with (first | ((with_reducible refine gate_callee (f := 20) rfl ?_); refine goesL_ (some 34) rfl rfl Tryd.func20 (by kernel_rfl) rfl #[.slice Ao28 t213.length co28, .slice Ao29 t204.length co29] rfl (by (try simp only [List.map_toArray, List.map_cons, List.map_nil]); first | done | rfl | (simp only [List.length_drop, List.length_take]; rfl)) ?_; (with_reducible refine (laws_eqFieldS.calls k _ _ t213 _ _ t204 true _ ?side1 ?side2 ?side3 ?side4 A26.out).mono ?_); (case side1 => repeat (first | exact (Kd.R_reads' HO215.out).2.2 | (with_reducible refine Kd.C_alloc ?_ _) | (with_reducible refine Kd.C_drewN ?_ _) | (with_reducible refine Kd.C_drew ?_))); (case side2 => exact (Kd.R_reads' HO215.out).2.1); (case side3 => repeat (first | exact (Kd.R_reads' HO206.out).2.2 | (with_reducible refine Kd.C_alloc ?_ _) | (with_reducible refine Kd.C_drewN ?_ _) | (with_reducible refine Kd.C_drew ?_))); (case side4 => exact (Kd.R_reads' HO206.out).2.1); rintro e w30 ⟨rfl, hb⟩; refine ⟨_, rfl, ?_⟩; have n0_ := Aside0.mk (Kd.R_below (by (with_reducible repeat (first | apply Kd.R_alloc | apply Kd.R_drewN | apply Kd.R_drew)); exact HO203.out) hb); have n1_ := Aside0.mk (Kd.R_below (by (with_reducible repeat (first | apply Kd.R_alloc | apply Kd.R_drewN | apply Kd.R_drew)); exact HO206.out) hb); have n2_ := Aside0.mk (Kd.R_below (by (with_reducible repeat (first | apply Kd.R_alloc | apply Kd.R_drewN | apply Kd.R_drew)); exact HO211.out) hb); have n3_ := Aside0.mk (Kd.R_below (by (with_reducible repeat (first | apply Kd.R_alloc | apply Kd.R_drewN | apply Kd.R_drew)); exact HO215.out) hb); have n4_ := Aside0.mk (blk_below (g := gb198) (o := .cells #[.int .i64 a0_0, .slice A0_1 l0_1.length c0_1] 53 (0, 0)) (by (with_reducible repeat (first | refine blk_drewN ?_ _ | refine blk_drew ?_ | refine blk_alloc ?_ _)); exact BK198.out) hb); have n5_ := Aside0.mk (blk_below (g := gb212) (o := .cells #[.int .i64 t208, .slice Ao24 t209.length co24] 57 (0, 0)) (by (with_reducible repeat (first | refine blk_drewN ?_ _ | refine blk_drew ?_ | refine blk_alloc ?_ _)); exact BK212.out) hb); have n6_ := Aside0.mk (below_step (by repeat (first | (with_reducible first | exact HB.out | apply below_alloc | apply pw_below_drewN | apply below_drew1 | refine below_set ?_ GE198.out | refine below_set ?_ GE212.out) | exact HB.out)) hb); clear HO203; clear HO206; clear HO211; clear HO215; clear BK198; clear BK212; clear HB; have HO203 := n0_; have HO206 := n1_; have HO211 := n2_; have HO215 := n3_; have BK198 := n4_; have BK212 := n5_; have HB := n6_; clear n0_ n1_ n2_ n3_ n4_ n5_ n6_; (try clear hb); (try clear hb2); (try clear hk); (try clear hi)))
        go_meet
        case rel => exact ⟨_, ((t216 != t207)), (by first | rfl | (simp; done) | (simp [*]; done)), H', ⟨by first | omega | exact Nat.le_refl _⟩, ⟨by (with_reducible repeat (first | apply Kd.R_alloc | apply Kd.R_drewN | apply Kd.R_drew)); exact Kd.R_mono HO206.out (fun _ hk => ⟨hk.2, hk.1.2⟩)⟩, ⟨by (with_reducible repeat (first | apply Kd.R_alloc | apply Kd.R_drewN | apply Kd.R_drew)); exact Kd.R_mono HO215.out (fun _ hk => ⟨hk.1.2, hk.2⟩)⟩, ⟨by (with_reducible repeat (first | apply Kd.R_alloc | apply Kd.R_drewN | apply Kd.R_drew)); exact Kd.R_mono HO211.out (fun _ hk => ⟨hk.1.2, hk.2⟩)⟩, ⟨by (with_reducible repeat (first | refine blk_drewN ?_ _ | refine blk_drew ?_ | refine blk_alloc ?_ _)); exact BK198.out⟩, ⟨by (with_reducible repeat (first | refine blk_drewN ?_ _ | refine blk_drew ?_ | refine blk_alloc ?_ _)); exact BK212.out⟩, ⟨by repeat (first | (with_reducible first | exact HB.out | apply below_alloc | apply pw_below_drewN | apply below_drew1 | refine below_set ?_ GE198.out | refine below_set ?_ GE212.out) | exact HB.out)⟩⟩
      · replace c27 := Bool.eq_false_iff.mpr c27
        subst c27
        have H1 : (laws_FnExactResponseFields.j0 k t204 t207 t213 t216 true a0_0 l0_1 t208 t209) = some r := by rw [if_neg (show ¬ (false = true) by decide)] at H; exact H
        clear H
        have H := H1
        clear H1
        have H' := Aside0.mk H
        clear H
        obtain ⟨Ao31, co31, eo31⟩ := Kd.R_slice HO215.out
        subst eo31
        obtain ⟨Ao32, co32, eo32⟩ := Kd.R_slice HO206.out
        subst eo32
        go_wp2_with (first | ((with_reducible refine gate_callee (f := 20) rfl ?_); refine goesL_ (some 34) rfl rfl Tryd.func20 (by kernel_rfl) rfl #[.slice Ao31 t213.length co31, .slice Ao32 t204.length co32] rfl (by (try simp only [List.map_toArray, List.map_cons, List.map_nil]); first | done | rfl | (simp only [List.length_drop, List.length_take]; rfl)) ?_; (with_reducible refine (laws_eqFieldS.calls k _ _ t213 _ _ t204 false _ ?side1 ?side2 ?side3 ?side4 A26.out).mono ?_); (case side1 => repeat (first | exact (Kd.R_reads' HO215.out).2.2 | (with_reducible refine Kd.C_alloc ?_ _) | (with_reducible refine Kd.C_drewN ?_ _) | (with_reducible refine Kd.C_drew ?_))); (case side2 => exact (Kd.R_reads' HO215.out).2.1); (case side3 => repeat (first | exact (Kd.R_reads' HO206.out).2.2 | (with_reducible refine Kd.C_alloc ?_ _) | (with_reducible refine Kd.C_drewN ?_ _) | (with_reducible refine Kd.C_drew ?_))); (case side4 => exact (Kd.R_reads' HO206.out).2.1); rintro e w33 ⟨rfl, hb⟩; refine ⟨_, rfl, ?_⟩; have n0_ := Aside0.mk (Kd.R_below (by (with_reducible repeat (first | apply Kd.R_alloc | apply Kd.R_drewN | apply Kd.R_drew)); exact HO203.out) hb); have n1_ := Aside0.mk (Kd.R_below (by (with_reducible repeat (first | apply Kd.R_alloc | apply Kd.R_drewN | apply Kd.R_drew)); exact HO206.out) hb); have n2_ := Aside0.mk (Kd.R_below (by (with_reducible repeat (first | apply Kd.R_alloc | apply Kd.R_drewN | apply Kd.R_drew)); exact HO211.out) hb); have n3_ := Aside0.mk (Kd.R_below (by (with_reducible repeat (first | apply Kd.R_alloc | apply Kd.R_drewN | apply Kd.R_drew)); exact HO215.out) hb); have n4_ := Aside0.mk (blk_below (g := gb198) (o := .cells #[.int .i64 a0_0, .slice A0_1 l0_1.length c0_1] 53 (0, 0)) (by (with_reducible repeat (first | refine blk_drewN ?_ _ | refine blk_drew ?_ | refine blk_alloc ?_ _)); exact BK198.out) hb); have n5_ := Aside0.mk (blk_below (g := gb212) (o := .cells #[.int .i64 t208, .slice Ao24 t209.length co24] 57 (0, 0)) (by (with_reducible repeat (first | refine blk_drewN ?_ _ | refine blk_drew ?_ | refine blk_alloc ?_ _)); exact BK212.out) hb); have n6_ := Aside0.mk (below_step (by repeat (first | (with_reducible first | exact HB.out | apply below_alloc | apply pw_below_drewN | apply below_drew1 | refine below_set ?_ GE198.out | refine below_set ?_ GE212.out) | exact HB.out)) hb); clear HO203; clear HO206; clear HO211; clear HO215; clear BK198; clear BK212; clear HB; have HO203 := n0_; have HO206 := n1_; have HO211 := n2_; have HO215 := n3_; have BK198 := n4_; have BK212 := n5_; have HB := n6_; clear n0_ n1_ n2_ n3_ n4_ n5_ n6_; (try clear hb); (try clear hb2); (try clear hk); (try clear hi)))
        go_meet
        case rel => exact ⟨_, (true), (by first | rfl | (simp; done) | (simp [*]; done)), H', ⟨by first | omega | exact Nat.le_refl _⟩, ⟨by (with_reducible repeat (first | apply Kd.R_alloc | apply Kd.R_drewN | apply Kd.R_drew)); exact Kd.R_mono HO206.out (fun _ hk => ⟨hk.2, hk.1.2⟩)⟩, ⟨by (with_reducible repeat (first | apply Kd.R_alloc | apply Kd.R_drewN | apply Kd.R_drew)); exact Kd.R_mono HO215.out (fun _ hk => ⟨hk.1.2, hk.2⟩)⟩, ⟨by (with_reducible repeat (first | apply Kd.R_alloc | apply Kd.R_drewN | apply Kd.R_drew)); exact Kd.R_mono HO211.out (fun _ hk => ⟨hk.1.2, hk.2⟩)⟩, ⟨by (with_reducible repeat (first | refine blk_drewN ?_ _ | refine blk_drew ?_ | refine blk_alloc ?_ _)); exact BK198.out⟩, ⟨by (with_reducible repeat (first | refine blk_drewN ?_ _ | refine blk_drew ?_ | refine blk_alloc ?_ _)); exact BK212.out⟩, ⟨by repeat (first | (with_reducible first | exact HB.out | apply below_alloc | apply pw_below_drewN | apply below_drew1 | refine below_set ?_ GE198.out | refine below_set ?_ GE212.out) | exact HB.out)⟩⟩
    case rest =>
      clear HC11
      try clear c2
      try clear p2
      try clear c3
      try clear c3b0
      try clear c9
      try clear c20
      try clear c22
      try clear c27
      try clear c32
      try clear c33
      try clear hcz13_0
      try clear hcz13_1
      try clear hcz15_0
      try clear hcz15_1
      try clear hcz19_0
      try clear hcz19_1
      try clear hcz23_0
      try clear hcz23_1
      try clear hcz5_0
      try clear hcz5_1
      try clear hfz13_0
      try clear hfz13_1
      try clear hfz15_0
      try clear hfz15_1
      try clear hfz19_0
      try clear hfz19_1
      try clear hfz23_0
      try clear hfz23_1
      try clear hfz5_0
      try clear hfz5_1
      obtain ⟨kq, x40_10, rfl, HA, HJ10, HO_4, HO_7, HO_213001, BK198, BK212, HB⟩ := hcut
      cases kq with
      | zero => exact absurd HA.out (by simp [laws_FnExactResponseFields.j0])
      | succ kj10 =>
        have H := HA.out
        clear HA
        simp only [laws_FnExactResponseFields.j0] at H
        by_cases c34 : x40_10 = true
        · subst c34
          have H1 : (some false) = some r := by rw [if_pos rfl] at H; exact H
          clear H
          have H := H1
          clear H1
          obtain rfl := Option.some.inj H
          go_wp2
          go_ret
          exact ⟨by first | rfl | (simp [errW_none, errW_some] <;> rfl) | (simp [*, errW_none, errW_some] <;> rfl), by repeat (first | (with_reducible first | exact HB.out | apply below_alloc | apply pw_below_drewN | apply below_drew1 | refine below_set ?_ GE198.out | refine below_set ?_ GE212.out) | exact HB.out)⟩
        · replace c34 := Bool.eq_false_iff.mpr c34
          subst c34
          have H1 : ((laws_toResponse.f kj10 a0_0 l0_1).bind fun bt218 => ((laws_eqResponse.f kj10 t208 t209 bt218.1 bt218.2).bind fun t222 => (if t222 = true then ((laws_markResponse.f kj10 t208 t209 1).bind fun bt223 => (if bt223.1 < 0 then (laws_FnExactResponseFields.j1 kj10 t204 t207 t213 true a0_0 l0_1) else ((laws_eqFieldS.f kj10 t213 t204).bind fun t225 => (if t225 = true then (laws_FnExactResponseFields.j1 kj10 t204 t207 t213 (t216 != t207) a0_0 l0_1) else (laws_FnExactResponseFields.j1 kj10 t204 t207 t213 true a0_0 l0_1))))) else (some false)))) = some r := by rw [if_neg (show ¬ (false = true) by decide)] at H; exact H
          clear H
          have H := H1
          clear H1
          replace H := Option.bind_eq_some_iff.mp H
          obtain ⟨⟨t218, t219⟩, A350, H⟩ := H
          replace H : ((laws_eqResponse.f kj10 t208 t209 t218 t219).bind fun t222 => (if t222 = true then ((laws_markResponse.f kj10 t208 t209 1).bind fun bt223 => (if bt223.1 < 0 then (laws_FnExactResponseFields.j1 kj10 t204 t207 t213 true a0_0 l0_1) else ((laws_eqFieldS.f kj10 t213 t204).bind fun t225 => (if t225 = true then (laws_FnExactResponseFields.j1 kj10 t204 t207 t213 (t216 != t207) a0_0 l0_1) else (laws_FnExactResponseFields.j1 kj10 t204 t207 t213 true a0_0 l0_1))))) else (some false))) = some r := H
          have A35 := Aside0.mk A350
          clear A350
          replace H := Option.bind_eq_some_iff.mp H
          obtain ⟨t222, A360, H⟩ := H
          replace H : (if t222 = true then ((laws_markResponse.f kj10 t208 t209 1).bind fun bt223 => (if bt223.1 < 0 then (laws_FnExactResponseFields.j1 kj10 t204 t207 t213 true a0_0 l0_1) else ((laws_eqFieldS.f kj10 t213 t204).bind fun t225 => (if t225 = true then (laws_FnExactResponseFields.j1 kj10 t204 t207 t213 (t216 != t207) a0_0 l0_1) else (laws_FnExactResponseFields.j1 kj10 t204 t207 t213 true a0_0 l0_1))))) else (some false)) = some r := H
          have A36 := Aside0.mk A360
          clear A360
          by_cases c37 : t222 = true
          · subst c37
            have H1 : ((laws_markResponse.f kj10 t208 t209 1).bind fun bt223 => (if bt223.1 < 0 then (laws_FnExactResponseFields.j1 kj10 t204 t207 t213 true a0_0 l0_1) else ((laws_eqFieldS.f kj10 t213 t204).bind fun t225 => (if t225 = true then (laws_FnExactResponseFields.j1 kj10 t204 t207 t213 (t216 != t207) a0_0 l0_1) else (laws_FnExactResponseFields.j1 kj10 t204 t207 t213 true a0_0 l0_1))))) = some r := by rw [if_pos rfl] at H; exact H
            clear H
            have H := H1
            clear H1
            replace H := Option.bind_eq_some_iff.mp H
            obtain ⟨⟨t223, t224⟩, A380, H⟩ := H
            replace H : (if t223 < 0 then (laws_FnExactResponseFields.j1 kj10 t204 t207 t213 true a0_0 l0_1) else ((laws_eqFieldS.f kj10 t213 t204).bind fun t225 => (if t225 = true then (laws_FnExactResponseFields.j1 kj10 t204 t207 t213 (t216 != t207) a0_0 l0_1) else (laws_FnExactResponseFields.j1 kj10 t204 t207 t213 true a0_0 l0_1)))) = some r := H
            have A38 := Aside0.mk A380
            clear A380
            have HC39 := Aside0.mk H
            clear H
            try go_wp2
            have n0_ := Aside0.mk (Kd.R_drew HO_4.out)
            have n1_ := Aside0.mk (Kd.R_drew HO_7.out)
            have n2_ := Aside0.mk (Kd.R_drew HO_213001.out)
            have n3_ := Aside0.mk (blk_drew BK198.out)
            have n4_ := Aside0.mk (blk_drew BK212.out)
            have n5_ := Aside0.mk (below_drew1 HB.out)
            clear HO_4
            clear HO_7
            clear HO_213001
            clear BK198
            clear BK212
            clear HB
            have HO_4 := n0_
            have HO_7 := n1_
            have HO_213001 := n2_
            have BK198 := n3_
            have BK212 := n4_
            have HB := n5_
            clear n0_ n1_ n2_ n3_ n4_ n5_
            refine start_ (n := 5) (S := fun w' => w'.cell? ⟨gb212, 0, none⟩ = some (.int .i64 t208) ∧ w'.cell? ⟨gb212, 1, none⟩ = some (.slice Ao24 t209.length co24) ∧ w'.cell? ⟨gb198, 0, none⟩ = some (.int .i64 a0_0) ∧ w'.cell? ⟨gb198, 1, none⟩ = some (.slice A0_1 l0_1.length c0_1)) (ds := []) #[false, false, false, false, false] (by kernel_rfl) rfl rfl ⟨(blk_cell BK212.out 0).trans rfl, (blk_cell BK212.out 1).trans rfl, (blk_cell BK198.out 0).trans rfl, (blk_cell BK198.out 1).trans rfl⟩ (fun hHeld => ?_)
            generalize wc.drew = w40 at HO_4 HO_7 HO_213001 BK198 BK212 HB hHeld ⊢
            refine take_ (i := 0) (N := some 41) (v := ?_) (a' := ?_) #[true, false, false, false, false] rfl rfl (by kernel_rfl) (fun _ _ _ h => h) (Or.inl ⟨by rfl, ?_⟩) hHeld ?_ ?_
            rotate_left
            · rintro w' ⟨s0, s1, s2, s3⟩
              go_simp
              with_reducible rfl
            rotate_left
            · simp only [Act.put, List.setIfInBounds_toArray, List.set_cons_zero, List.set_cons_succ, i64_w, i32_w]
              rfl
            refine take_ (i := 1) (N := some 42) (v := ?_) (a' := ?_) #[true, true, false, false, false] rfl rfl (by kernel_rfl) (fun _ _ _ h => h) (Or.inl ⟨by rfl, ?_⟩) hHeld ?_ ?_
            rotate_left
            · rintro w' ⟨s0, s1, s2, s3⟩
              go_simp
              with_reducible rfl
            rotate_left
            · simp only [Act.put, List.setIfInBounds_toArray, List.set_cons_zero, List.set_cons_succ, i64_w, i32_w]
              rfl
            refine one_ (i := 2) (N := some 43) #[true, true, true, false, false] rfl rfl (by kernel_rfl) (by decide) (fun K hK => ?_)
            refine goes_ Tryd.func34 (by kernel_rfl) rfl #[.agg #[.int .i64 a0_0, .slice A0_1 l0_1.length c0_1]] (by rfl) rfl rfl (by (try simp only [List.map_toArray, List.map_cons, List.map_nil]); first | done | rfl | (simp only [List.length_drop, List.length_take]; rfl)) ?_
            with_reducible refine (laws_toResponse.calls kj10 a0_0 _ _ l0_1 t218 t219 _ ?side1 ?side2 A35.out).mono ?_
            (case side1 => repeat (first | exact (Kd.C_below HR0_1.out HB.out) | (with_reducible refine Kd.C_alloc ?_ _) | (with_reducible refine Kd.C_drewN ?_ _) | (with_reducible refine Kd.C_drew ?_)))
            (case side2 => exact HC0_1.out)
            rintro e w41 ⟨v220, rfl, ho0, hb⟩
            refine ⟨_, rfl, ?_⟩
            have n0_ := Aside0.mk (Kd.R_elder' (by (with_reducible repeat (first | apply Kd.R_alloc | apply Kd.R_drewN | apply Kd.R_drew)); exact HO_4.out) (Kd.R_base ho0) hb)
            have n1_ := Aside0.mk (Kd.R_elder' (by (with_reducible repeat (first | apply Kd.R_alloc | apply Kd.R_drewN | apply Kd.R_drew)); exact HO_7.out) (Kd.R_base ho0) hb)
            have n2_ := Aside0.mk (Kd.R_elder' (by (with_reducible repeat (first | apply Kd.R_alloc | apply Kd.R_drewN | apply Kd.R_drew)); exact HO_213001.out) (Kd.R_base ho0) hb)
            have n3_ := Aside0.mk (Kd.R_lower (Kd.R_new' (Kd.R_new' (Kd.R_new' ho0 (Kd.R_lt (by (with_reducible repeat (first | apply Kd.R_alloc | apply Kd.R_drewN | apply Kd.R_drew)); exact HO_4.out))) (Kd.R_lt (by (with_reducible repeat (first | apply Kd.R_alloc | apply Kd.R_drewN | apply Kd.R_drew)); exact HO_7.out))) (Kd.R_lt (by (with_reducible repeat (first | apply Kd.R_alloc | apply Kd.R_drewN | apply Kd.R_drew)); exact HO_213001.out))) (below_size (by repeat (first | (with_reducible first | exact HB.out | apply below_alloc | apply pw_below_drewN | apply below_drew1 | refine below_set ?_ GE198.out | refine below_set ?_ GE212.out) | exact HB.out))))
            have n4_ := Aside0.mk (blk_below (g := gb198) (o := .cells #[.int .i64 a0_0, .slice A0_1 l0_1.length c0_1] 53 (0, 0)) (by (with_reducible repeat (first | refine blk_drewN ?_ _ | refine blk_drew ?_ | refine blk_alloc ?_ _)); exact BK198.out) hb)
            have n5_ := Aside0.mk (blk_below (g := gb212) (o := .cells #[.int .i64 t208, .slice Ao24 t209.length co24] 57 (0, 0)) (by (with_reducible repeat (first | refine blk_drewN ?_ _ | refine blk_drew ?_ | refine blk_alloc ?_ _)); exact BK212.out) hb)
            have n6_ := Aside0.mk (below_step (by repeat (first | (with_reducible first | exact HB.out | apply below_alloc | apply pw_below_drewN | apply below_drew1 | refine below_set ?_ GE198.out | refine below_set ?_ GE212.out) | exact HB.out)) hb)
            clear HO_4
            clear HO_7
            clear HO_213001
            clear BK198
            clear BK212
            clear HB
            have HO_4 := n0_
            have HO_7 := n1_
            have HO_213001 := n2_
            have HO221 := n3_
            have BK198 := n4_
            have BK212 := n5_
            have HB := n6_
            clear n0_ n1_ n2_ n3_ n4_ n5_ n6_
            (try clear hb)
            (try clear hb2)
            (try clear hk)
            (try clear hi)
            (try clear ho0)
            obtain ⟨Ao42, co42, eo42⟩ := Kd.R_slice HO221.out
            (first | subst eo42 | (injection eo42 with f1_ f2_ f3_; have f4_ := f1_.symm; have f5_ := f3_.symm; clear f1_ f2_ f3_; subst f4_; subst f5_))
            refine hK.out _ _ ⟨(blk_cell BK212.out 0).trans rfl, (blk_cell BK212.out 1).trans rfl, (blk_cell BK198.out 0).trans rfl, (blk_cell BK198.out 1).trans rfl⟩ (fun hHeld => ?_)
            clear hK K
            refine norm_ (a' := ?_) ?_ ?_
            rotate_left
            · show Act.put _ (some 43) _ = _
              simp only [Act.put, List.setIfInBounds_toArray, List.set_cons_zero, List.set_cons_succ, i64_w, i32_w]
              rfl
            refine one_ (i := 3) (N := some 44) #[true, true, true, true, false] rfl rfl (by kernel_rfl) (by decide) (fun K hK => ?_)
            refine goes_ Tryd.func36 (by kernel_rfl) rfl #[.agg #[.int .i64 t208, .slice Ao24 t209.length co24], .agg #[.int .i64 t218, .slice Ao42 t219.length co42]] (by rfl) rfl rfl (by (try simp only [List.map_toArray, List.map_cons, List.map_nil]); first | done | rfl | (simp only [List.length_drop, List.length_take]; rfl)) ?_
            with_reducible refine (laws_eqResponse.calls kj10 t208 _ _ t209 t218 _ _ t219 true _ ?side1 ?side2 ?side3 ?side4 A36.out).mono ?_
            (case side1 => repeat (first | exact (Kd.R_reads' HO_213001.out).2.2 | (with_reducible refine Kd.C_alloc ?_ _) | (with_reducible refine Kd.C_drewN ?_ _) | (with_reducible refine Kd.C_drew ?_)))
            (case side2 => exact (Kd.R_reads' HO_213001.out).2.1)
            (case side3 => repeat (first | exact (Kd.R_reads' HO221.out).2.2 | (with_reducible refine Kd.C_alloc ?_ _) | (with_reducible refine Kd.C_drewN ?_ _) | (with_reducible refine Kd.C_drew ?_)))
            (case side4 => exact (Kd.R_reads' HO221.out).2.1)
            rintro e w43 ⟨rfl, hb⟩
            refine ⟨_, rfl, ?_⟩
            have n0_ := Aside0.mk (Kd.R_below (by (with_reducible repeat (first | apply Kd.R_alloc | apply Kd.R_drewN | apply Kd.R_drew)); exact HO_4.out) hb)
            have n1_ := Aside0.mk (Kd.R_below (by (with_reducible repeat (first | apply Kd.R_alloc | apply Kd.R_drewN | apply Kd.R_drew)); exact HO_7.out) hb)
            have n2_ := Aside0.mk (Kd.R_below (by (with_reducible repeat (first | apply Kd.R_alloc | apply Kd.R_drewN | apply Kd.R_drew)); exact HO_213001.out) hb)
            have n3_ := Aside0.mk (Kd.R_below (by (with_reducible repeat (first | apply Kd.R_alloc | apply Kd.R_drewN | apply Kd.R_drew)); exact HO221.out) hb)
            have n4_ := Aside0.mk (blk_below (g := gb198) (o := .cells #[.int .i64 a0_0, .slice A0_1 l0_1.length c0_1] 53 (0, 0)) (by (with_reducible repeat (first | refine blk_drewN ?_ _ | refine blk_drew ?_ | refine blk_alloc ?_ _)); exact BK198.out) hb)
            have n5_ := Aside0.mk (blk_below (g := gb212) (o := .cells #[.int .i64 t208, .slice Ao24 t209.length co24] 57 (0, 0)) (by (with_reducible repeat (first | refine blk_drewN ?_ _ | refine blk_drew ?_ | refine blk_alloc ?_ _)); exact BK212.out) hb)
            have n6_ := Aside0.mk (below_step (by repeat (first | (with_reducible first | exact HB.out | apply below_alloc | apply pw_below_drewN | apply below_drew1 | refine below_set ?_ GE198.out | refine below_set ?_ GE212.out) | exact HB.out)) hb)
            clear HO_4
            clear HO_7
            clear HO_213001
            clear HO221
            clear BK198
            clear BK212
            clear HB
            have HO_4 := n0_
            have HO_7 := n1_
            have HO_213001 := n2_
            have HO221 := n3_
            have BK198 := n4_
            have BK212 := n5_
            have HB := n6_
            clear n0_ n1_ n2_ n3_ n4_ n5_ n6_
            (try clear hb)
            (try clear hb2)
            (try clear hk)
            (try clear hi)
            refine hK.out _ _ ⟨(blk_cell BK212.out 0).trans rfl, (blk_cell BK212.out 1).trans rfl, (blk_cell BK198.out 0).trans rfl, (blk_cell BK198.out 1).trans rfl⟩ (fun hHeld => ?_)
            clear hK K
            refine norm_ (a' := ?_) ?_ ?_
            rotate_left
            · show Act.put _ (some 44) _ = _
              simp only [Act.put, List.setIfInBounds_toArray, List.set_cons_zero, List.set_cons_succ, i64_w, i32_w]
              rfl
            refine pure_ (i := 4) (N := some 45) (v := ?_) (a' := ?_) #[true, true, true, true, true] rfl rfl (by kernel_rfl) (fun _ _ _ h => h) (Or.inl ⟨by rfl, ?_⟩) ?_ ?_
            rotate_left
            · intro w'
              go_simp
              with_reducible rfl
            rotate_left
            · simp only [Act.put, List.setIfInBounds_toArray, List.set_cons_zero, List.set_cons_succ, i64_w, i32_w]
              rfl
            refine done_ (by kernel_rfl) ?_
            have hnb44 := NB212_198.out
            have hnc44 := NB198_212.out
            have hcz45_0 : w43.cell? ⟨gb212, 0, none⟩ = some (.int .i64 t208) := (blk_cell BK212.out 0).trans rfl
            have hcz45_1 : w43.cell? ⟨gb212, 1, none⟩ = some (.slice Ao24 t209.length co24) := (blk_cell BK212.out 1).trans rfl
            have hfz45_0 := blk_frozen BK212.out 0
            have hfz45_1 := blk_frozen BK212.out 1
            go_upto_region 14 with (first | ((with_reducible refine gate_callee (f := 37) rfl ?_); refine goesL_ (some 48) rfl rfl Tryd.func37 (by kernel_rfl) rfl #[.agg #[.int .i64 t208, .slice Ao24 t209.length co24], .int .i64 1] rfl (by (try simp only [List.map_toArray, List.map_cons, List.map_nil]); first | done | rfl | (simp only [List.length_drop, List.length_take]; rfl)) ?_; (with_reducible refine (laws_markResponse.calls kj10 t208 (fun k_ => some k_ = (.slice Ao24 t209.length co24 : Value).ownBlock) (.slice Ao24 t209.length co24) t209 1 t223 t224 w _ ?side1 ?side2 A38.out).mono ?_); (case side1 => repeat (first | (with_reducible first | exact HB.out | apply below_alloc | apply pw_below_drewN | apply below_drew1 | refine below_set ?_ GE198.out | refine below_set ?_ GE212.out) | exact HB.out)); (case side2 => exact Kd.R_tight rfl HO_213001.out); rintro e w46 ⟨rfl, hy0, hb, hkp⟩; refine ⟨_, rfl, ?_⟩; have n0_ := Aside0.mk (Kd.R_mono (ok' := fun k_ => some k_ ≠ (v214 : Value).ownBlock ∧ some k_ ≠ (.slice Ao24 t209.length co24 : Value).ownBlock ∧ some k_ ≠ (.slice Ao42 t219.length co42 : Value).ownBlock) (Kd.R_keptB (HO_4.out) hkp (fun k_ hk_ hs_ => (hk_.1.2) hs_)) (fun k_ hk_ => ⟨hk_.1.1.1, hk_.1.1.2, hk_.1.2⟩)); have n1_ := Aside0.mk (Kd.R_mono (ok' := fun k_ => some k_ ≠ (v205 : Value).ownBlock ∧ some k_ ≠ (.slice Ao24 t209.length co24 : Value).ownBlock ∧ some k_ ≠ (.slice Ao42 t219.length co42 : Value).ownBlock) (Kd.R_keptB (HO_7.out) hkp (fun k_ hk_ hs_ => (hk_.1.2) hs_)) (fun k_ hk_ => ⟨hk_.1.1.1, hk_.1.1.2, hk_.1.2⟩)); have n2_ := Aside0.mk (Kd.R_reok rfl hy0 (fun k_ e_ => HO_213001.out.1 k_ e_)); have n3_ := Aside0.mk (blk_kept (by (with_reducible repeat (first | refine blk_drewN ?_ _ | refine blk_drew ?_ | refine blk_alloc ?_ _)); exact BK198.out) hkp (fun hs_ => (fun e_ => (Kd.R_ne HO_213001.out BK198.out (by decide)) e_) hs_)); have n4_ := Aside0.mk (blk_kept (by (with_reducible repeat (first | refine blk_drewN ?_ _ | refine blk_drew ?_ | refine blk_alloc ?_ _)); exact BK212.out) hkp (fun hs_ => (fun e_ => (Kd.R_ne HO_213001.out BK212.out (by decide)) e_) hs_)); have n5_ := Aside0.mk (Kd.R_mono (ok' := fun k_ => some k_ ≠ (v205 : Value).ownBlock ∧ some k_ ≠ (v214 : Value).ownBlock ∧ some k_ ≠ (.slice Ao24 t209.length co24 : Value).ownBlock) (Kd.R_keptB (HO221.out) hkp (fun k_ hk_ hs_ => (hk_.2) hs_)) (fun k_ hk_ => ⟨hk_.1.1.1.2, hk_.1.1.2, hk_.1.2⟩)); have n6_ := Aside0.mk (hb); clear HO_4; clear HO_7; clear HO_213001; clear BK198; clear BK212; clear HO221; clear HB; have HO_4 := n0_; have HO_7 := n1_; have HO_213001 := n2_; have BK198 := n3_; have BK212 := n4_; have HO221 := n5_; have HB := n6_; clear n0_ n1_ n2_ n3_ n4_ n5_ n6_; (try clear hb); (try clear hkp); (try clear hy0)))
            (try simp only [Act.put, List.setIfInBounds_toArray, List.set_cons_zero, List.set_cons_succ])
            go_cut [61] (fun v61 wc => ∃ (kq : Nat) (x61_38 : Bool), v61 = .bool x61_38 ∧ Aside0 (laws_FnExactResponseFields.j1 kq t204 t207 t213 x61_38 a0_0 l0_1 = some r) ∧ Aside0 (kq ≤ kj10) ∧ Aside0 (Kd.R k78 78 wc w.heap.size (fun k_ => some k_ ≠ (v214 : Value).ownBlock ∧ some k_ ≠ ((.slice Ao24 t209.length co24) : Value).ownBlock) v205 t204) ∧ Aside0 (Kd.R k78 78 wc w.heap.size (fun k_ => some k_ ≠ (v205 : Value).ownBlock ∧ some k_ ≠ ((.slice Ao24 t209.length co24) : Value).ownBlock) v214 t213) ∧ Aside0 (Kd.R k78 78 wc w.heap.size (fun k_ => some k_ ≠ (v205 : Value).ownBlock ∧ some k_ ≠ (v214 : Value).ownBlock) (.slice Ao24 t209.length co24) t224) ∧ Aside0 (wc.heap[gb198]? = some (.cells #[.int .i64 a0_0, (.slice A0_1 l0_1.length c0_1)] 53 (0, 0))) ∧ Aside0 (wc.heap[gb212]? = some (.cells #[.int .i64 t208, (.slice Ao24 t209.length co24)] 57 (0, 0))) ∧ Aside0 (Below w.heap.size w wc))
            case first =>
              have H := HC39.out
              clear HC39
              by_cases c47 : t223 < 0
              · rw [if_pos c47] at H
                have c47b0 : decide (t223 < 0) = true := decide_eq_true c47
                clear c47
                (first | rw [c47b0] | (simp only [i64_w, i32_w]; rw [c47b0]) | skip)
                have H' := Aside0.mk H
                clear H
                go_wp2
                go_meet
                case rel => exact ⟨_, (true), (by first | rfl | (simp; done) | (simp [*]; done)), H', ⟨by have := HJ10.out; first | omega | exact Nat.le_refl _⟩, ⟨by (with_reducible repeat (first | apply Kd.R_alloc | apply Kd.R_drewN | apply Kd.R_drew)); exact Kd.R_mono HO_4.out (fun _ hk => ⟨hk.1, hk.2.1⟩)⟩, ⟨by (with_reducible repeat (first | apply Kd.R_alloc | apply Kd.R_drewN | apply Kd.R_drew)); exact Kd.R_mono HO_7.out (fun _ hk => ⟨hk.1, hk.2.1⟩)⟩, ⟨by (with_reducible repeat (first | apply Kd.R_alloc | apply Kd.R_drewN | apply Kd.R_drew)); exact Kd.R_mono HO_213001.out (fun _ hk => ⟨hk.1.1, hk.1.2⟩)⟩, ⟨by (with_reducible repeat (first | refine blk_drewN ?_ _ | refine blk_drew ?_ | refine blk_alloc ?_ _)); exact BK198.out⟩, ⟨by (with_reducible repeat (first | refine blk_drewN ?_ _ | refine blk_drew ?_ | refine blk_alloc ?_ _)); exact BK212.out⟩, ⟨by repeat (first | (with_reducible first | exact HB.out | apply below_alloc | apply pw_below_drewN | apply below_drew1 | refine below_set ?_ GE198.out | refine below_set ?_ GE212.out) | exact HB.out)⟩⟩
              · rw [if_neg c47] at H
                have c47b0 : decide (t223 < 0) = false := decide_eq_false c47
                clear c47
                (first | rw [c47b0] | (simp only [i64_w, i32_w]; rw [c47b0]) | skip)
                replace H := Option.bind_eq_some_iff.mp H
                obtain ⟨t225, A480, H⟩ := H
                replace H : (if t225 = true then (laws_FnExactResponseFields.j1 kj10 t204 t207 t213 (t216 != t207) a0_0 l0_1) else (laws_FnExactResponseFields.j1 kj10 t204 t207 t213 true a0_0 l0_1)) = some r := H
                have A48 := Aside0.mk A480
                clear A480
                by_cases c49 : t225 = true
                · subst c49
                  have H1 : (laws_FnExactResponseFields.j1 kj10 t204 t207 t213 (t216 != t207) a0_0 l0_1) = some r := by rw [if_pos rfl] at H; exact H
                  clear H
                  have H := H1
                  clear H1
                  have H' := Aside0.mk H
                  clear H
                  obtain ⟨Ao50, co50, eo50⟩ := Kd.R_slice HO_7.out
                  subst eo50
                  obtain ⟨Ao51, co51, eo51⟩ := Kd.R_slice HO_4.out
                  subst eo51
                  go_wp2_with (first | (go_at_call 20; (with_reducible refine (laws_eqFieldS.calls kj10 _ _ t213 _ _ t204 true _ ?side1 ?side2 ?side3 ?side4 A48.out).mono ?_); (case side1 => repeat (first | exact (Kd.R_reads' HO_7.out).2.2 | (with_reducible refine Kd.C_alloc ?_ _) | (with_reducible refine Kd.C_drewN ?_ _) | (with_reducible refine Kd.C_drew ?_))); (case side2 => exact (Kd.R_reads' HO_7.out).2.1); (case side3 => repeat (first | exact (Kd.R_reads' HO_4.out).2.2 | (with_reducible refine Kd.C_alloc ?_ _) | (with_reducible refine Kd.C_drewN ?_ _) | (with_reducible refine Kd.C_drew ?_))); (case side4 => exact (Kd.R_reads' HO_4.out).2.1); rintro e w52 ⟨rfl, hb⟩; have n0_ := Aside0.mk (Kd.R_below (by (with_reducible repeat (first | apply Kd.R_alloc | apply Kd.R_drewN | apply Kd.R_drew)); exact HO_4.out) hb); have n1_ := Aside0.mk (Kd.R_below (by (with_reducible repeat (first | apply Kd.R_alloc | apply Kd.R_drewN | apply Kd.R_drew)); exact HO_7.out) hb); have n2_ := Aside0.mk (Kd.R_below (by (with_reducible repeat (first | apply Kd.R_alloc | apply Kd.R_drewN | apply Kd.R_drew)); exact HO_213001.out) hb); have n3_ := Aside0.mk (Kd.R_below (by (with_reducible repeat (first | apply Kd.R_alloc | apply Kd.R_drewN | apply Kd.R_drew)); exact HO221.out) hb); have n4_ := Aside0.mk (blk_below (g := gb198) (o := .cells #[.int .i64 a0_0, .slice A0_1 l0_1.length c0_1] 53 (0, 0)) (by (with_reducible repeat (first | refine blk_drewN ?_ _ | refine blk_drew ?_ | refine blk_alloc ?_ _)); exact BK198.out) hb); have n5_ := Aside0.mk (blk_below (g := gb212) (o := .cells #[.int .i64 t208, .slice Ao24 t209.length co24] 57 (0, 0)) (by (with_reducible repeat (first | refine blk_drewN ?_ _ | refine blk_drew ?_ | refine blk_alloc ?_ _)); exact BK212.out) hb); have n6_ := Aside0.mk (below_step (by repeat (first | (with_reducible first | exact HB.out | apply below_alloc | apply pw_below_drewN | apply below_drew1 | refine below_set ?_ GE198.out | refine below_set ?_ GE212.out) | exact HB.out)) hb); clear HO_4; clear HO_7; clear HO_213001; clear HO221; clear BK198; clear BK212; clear HB; have HO_4 := n0_; have HO_7 := n1_; have HO_213001 := n2_; have HO221 := n3_; have BK198 := n4_; have BK212 := n5_; have HB := n6_; clear n0_ n1_ n2_ n3_ n4_ n5_ n6_; (try clear hb); (try clear hb2); (try clear hk); (try clear hi)))
                  go_meet
                  case rel => exact ⟨_, ((t216 != t207)), (by first | rfl | (simp; done) | (simp [*]; done)), H', ⟨by have := HJ10.out; first | omega | exact Nat.le_refl _⟩, ⟨by (with_reducible repeat (first | apply Kd.R_alloc | apply Kd.R_drewN | apply Kd.R_drew)); exact Kd.R_mono HO_4.out (fun _ hk => ⟨hk.1, hk.2.1⟩)⟩, ⟨by (with_reducible repeat (first | apply Kd.R_alloc | apply Kd.R_drewN | apply Kd.R_drew)); exact Kd.R_mono HO_7.out (fun _ hk => ⟨hk.1, hk.2.1⟩)⟩, ⟨by (with_reducible repeat (first | apply Kd.R_alloc | apply Kd.R_drewN | apply Kd.R_drew)); exact Kd.R_mono HO_213001.out (fun _ hk => ⟨hk.1.1, hk.1.2⟩)⟩, ⟨by (with_reducible repeat (first | refine blk_drewN ?_ _ | refine blk_drew ?_ | refine blk_alloc ?_ _)); exact BK198.out⟩, ⟨by (with_reducible repeat (first | refine blk_drewN ?_ _ | refine blk_drew ?_ | refine blk_alloc ?_ _)); exact BK212.out⟩, ⟨by repeat (first | (with_reducible first | exact HB.out | apply below_alloc | apply pw_below_drewN | apply below_drew1 | refine below_set ?_ GE198.out | refine below_set ?_ GE212.out) | exact HB.out)⟩⟩
                · replace c49 := Bool.eq_false_iff.mpr c49
                  subst c49
                  have H1 : (laws_FnExactResponseFields.j1 kj10 t204 t207 t213 true a0_0 l0_1) = some r := by rw [if_neg (show ¬ (false = true) by decide)] at H; exact H
                  clear H
                  have H := H1
                  clear H1
                  have H' := Aside0.mk H
                  clear H
                  obtain ⟨Ao53, co53, eo53⟩ := Kd.R_slice HO_7.out
                  subst eo53
                  obtain ⟨Ao54, co54, eo54⟩ := Kd.R_slice HO_4.out
                  subst eo54
                  go_wp2_with (first | (go_at_call 20; (with_reducible refine (laws_eqFieldS.calls kj10 _ _ t213 _ _ t204 false _ ?side1 ?side2 ?side3 ?side4 A48.out).mono ?_); (case side1 => repeat (first | exact (Kd.R_reads' HO_7.out).2.2 | (with_reducible refine Kd.C_alloc ?_ _) | (with_reducible refine Kd.C_drewN ?_ _) | (with_reducible refine Kd.C_drew ?_))); (case side2 => exact (Kd.R_reads' HO_7.out).2.1); (case side3 => repeat (first | exact (Kd.R_reads' HO_4.out).2.2 | (with_reducible refine Kd.C_alloc ?_ _) | (with_reducible refine Kd.C_drewN ?_ _) | (with_reducible refine Kd.C_drew ?_))); (case side4 => exact (Kd.R_reads' HO_4.out).2.1); rintro e w55 ⟨rfl, hb⟩; have n0_ := Aside0.mk (Kd.R_below (by (with_reducible repeat (first | apply Kd.R_alloc | apply Kd.R_drewN | apply Kd.R_drew)); exact HO_4.out) hb); have n1_ := Aside0.mk (Kd.R_below (by (with_reducible repeat (first | apply Kd.R_alloc | apply Kd.R_drewN | apply Kd.R_drew)); exact HO_7.out) hb); have n2_ := Aside0.mk (Kd.R_below (by (with_reducible repeat (first | apply Kd.R_alloc | apply Kd.R_drewN | apply Kd.R_drew)); exact HO_213001.out) hb); have n3_ := Aside0.mk (Kd.R_below (by (with_reducible repeat (first | apply Kd.R_alloc | apply Kd.R_drewN | apply Kd.R_drew)); exact HO221.out) hb); have n4_ := Aside0.mk (blk_below (g := gb198) (o := .cells #[.int .i64 a0_0, .slice A0_1 l0_1.length c0_1] 53 (0, 0)) (by (with_reducible repeat (first | refine blk_drewN ?_ _ | refine blk_drew ?_ | refine blk_alloc ?_ _)); exact BK198.out) hb); have n5_ := Aside0.mk (blk_below (g := gb212) (o := .cells #[.int .i64 t208, .slice Ao24 t209.length co24] 57 (0, 0)) (by (with_reducible repeat (first | refine blk_drewN ?_ _ | refine blk_drew ?_ | refine blk_alloc ?_ _)); exact BK212.out) hb); have n6_ := Aside0.mk (below_step (by repeat (first | (with_reducible first | exact HB.out | apply below_alloc | apply pw_below_drewN | apply below_drew1 | refine below_set ?_ GE198.out | refine below_set ?_ GE212.out) | exact HB.out)) hb); clear HO_4; clear HO_7; clear HO_213001; clear HO221; clear BK198; clear BK212; clear HB; have HO_4 := n0_; have HO_7 := n1_; have HO_213001 := n2_; have HO221 := n3_; have BK198 := n4_; have BK212 := n5_; have HB := n6_; clear n0_ n1_ n2_ n3_ n4_ n5_ n6_; (try clear hb); (try clear hb2); (try clear hk); (try clear hi)))
                  go_meet
                  case rel => exact ⟨_, (true), (by first | rfl | (simp; done) | (simp [*]; done)), H', ⟨by have := HJ10.out; first | omega | exact Nat.le_refl _⟩, ⟨by (with_reducible repeat (first | apply Kd.R_alloc | apply Kd.R_drewN | apply Kd.R_drew)); exact Kd.R_mono HO_4.out (fun _ hk => ⟨hk.1, hk.2.1⟩)⟩, ⟨by (with_reducible repeat (first | apply Kd.R_alloc | apply Kd.R_drewN | apply Kd.R_drew)); exact Kd.R_mono HO_7.out (fun _ hk => ⟨hk.1, hk.2.1⟩)⟩, ⟨by (with_reducible repeat (first | apply Kd.R_alloc | apply Kd.R_drewN | apply Kd.R_drew)); exact Kd.R_mono HO_213001.out (fun _ hk => ⟨hk.1.1, hk.1.2⟩)⟩, ⟨by (with_reducible repeat (first | refine blk_drewN ?_ _ | refine blk_drew ?_ | refine blk_alloc ?_ _)); exact BK198.out⟩, ⟨by (with_reducible repeat (first | refine blk_drewN ?_ _ | refine blk_drew ?_ | refine blk_alloc ?_ _)); exact BK212.out⟩, ⟨by repeat (first | (with_reducible first | exact HB.out | apply below_alloc | apply pw_below_drewN | apply below_drew1 | refine below_set ?_ GE198.out | refine below_set ?_ GE212.out) | exact HB.out)⟩⟩
            case rest =>
              clear HC39
              try clear c2
              try clear p2
              try clear c3
              try clear c3b0
              try clear c4
              try clear c9
              try clear c20
              try clear c22
              try clear c27
              try clear c32
              try clear c33
              try clear c34
              try clear c35
              try clear c36
              try clear c37
              try clear c44
              try clear c47
              try clear c47b0
              try clear c49
              try clear hcz13_0
              try clear hcz13_1
              try clear hcz15_0
              try clear hcz15_1
              try clear hcz19_0
              try clear hcz19_1
              try clear hcz23_0
              try clear hcz23_1
              try clear hcz45_0
              try clear hcz45_1
              try clear hcz5_0
              try clear hcz5_1
              try clear hfz13_0
              try clear hfz13_1
              try clear hfz15_0
              try clear hfz15_1
              try clear hfz19_0
              try clear hfz19_1
              try clear hfz23_0
              try clear hfz23_1
              try clear hfz45_0
              try clear hfz45_1
              try clear hfz5_0
              try clear hfz5_1
              try clear p2
              obtain ⟨kq, x61_38, rfl, HA, HJ38, HO_4, HO_7, HO_213001, BK198, BK212, HB⟩ := hcut
              have hl213001_38 := (Kd.R_reads' HO_213001.out).1
              rw [hl213001_38] at HO_213001
              (try simp only [hl213001_38])
              (try simp only [hl213001_38] at BK198)
              (try simp only [hl213001_38] at BK212)
              (try simp only [hl213001_38] at HO_4)
              (try simp only [hl213001_38] at HO_7)
              cases kq with
              | zero => exact absurd HA.out (by simp [laws_FnExactResponseFields.j1])
              | succ kj38 =>
                have H := HA.out
                clear HA
                simp only [laws_FnExactResponseFields.j1] at H
                by_cases c56 : x61_38 = true
                · subst c56
                  have H1 : (some false) = some r := by rw [if_pos rfl] at H; exact H
                  clear H
                  have H := H1
                  clear H1
                  obtain rfl := Option.some.inj H
                  go_wp2
                  go_ret
                  exact ⟨by first | rfl | (simp [errW_none, errW_some] <;> rfl) | (simp [*, errW_none, errW_some] <;> rfl), by repeat (first | (with_reducible first | exact HB.out | apply below_alloc | apply pw_below_drewN | apply below_drew1 | refine below_set ?_ GE198.out | refine below_set ?_ GE212.out) | exact HB.out)⟩
                · replace c56 := Bool.eq_false_iff.mpr c56
                  subst c56
                  have H1 : ((laws_markFieldS.f kj38 t213 1).bind fun bt226 => ((laws_heldFieldS.f kj38 bt226.2 1).bind fun t228 => (if t228 < 0 then (some false) else (if t228 = bt226.1 then ((laws_toResponse.f kj38 a0_0 l0_1).bind fun bt229 => ((impl_ResponseFields.f kj38 bt229.1 bt229.2).bind fun bt233 => ((laws_eqFieldS.f kj38 bt233.1 t204).bind fun t237 => (if t237 = true then (laws_FnExactResponseFields.j2 kj38 bt226.2 bt226.1 (bt233.2 != t207)) else (laws_FnExactResponseFields.j2 kj38 bt226.2 bt226.1 true))))) else (some false))))) = some r := by rw [if_neg (show ¬ (false = true) by decide)] at H; exact H
                  clear H
                  have H := H1
                  clear H1
                  replace H := Option.bind_eq_some_iff.mp H
                  obtain ⟨⟨t226, t227⟩, A570, H⟩ := H
                  replace H : ((laws_heldFieldS.f kj38 t227 1).bind fun t228 => (if t228 < 0 then (some false) else (if t228 = t226 then ((laws_toResponse.f kj38 a0_0 l0_1).bind fun bt229 => ((impl_ResponseFields.f kj38 bt229.1 bt229.2).bind fun bt233 => ((laws_eqFieldS.f kj38 bt233.1 t204).bind fun t237 => (if t237 = true then (laws_FnExactResponseFields.j2 kj38 t227 t226 (bt233.2 != t207)) else (laws_FnExactResponseFields.j2 kj38 t227 t226 true))))) else (some false)))) = some r := H
                  have A57 := Aside0.mk A570
                  clear A570
                  replace H := Option.bind_eq_some_iff.mp H
                  obtain ⟨t228, A580, H⟩ := H
                  replace H : (if t228 < 0 then (some false) else (if t228 = t226 then ((laws_toResponse.f kj38 a0_0 l0_1).bind fun bt229 => ((impl_ResponseFields.f kj38 bt229.1 bt229.2).bind fun bt233 => ((laws_eqFieldS.f kj38 bt233.1 t204).bind fun t237 => (if t237 = true then (laws_FnExactResponseFields.j2 kj38 t227 t226 (bt233.2 != t207)) else (laws_FnExactResponseFields.j2 kj38 t227 t226 true))))) else (some false))) = some r := H
                  have A58 := Aside0.mk A580
                  clear A580
                  by_cases c59 : t228 < 0
                  · rw [if_pos c59] at H
                    have c59b0 : decide (t228 < 0) = true := decide_eq_true c59
                    clear c59
                    obtain rfl := Option.some.inj H
                    obtain ⟨Ao60, co60, eo60⟩ := Kd.R_slice HO_7.out
                    subst eo60
                    go_wp2_with (first | ((with_reducible refine gate_callee (f := 27) rfl ?_); refine goesL_ (some 64) rfl rfl Tryd.func27 (by kernel_rfl) rfl #[.slice Ao60 t213.length co60, .int .i64 1] rfl (by (try simp only [List.map_toArray, List.map_cons, List.map_nil]); first | done | rfl | (simp only [List.length_drop, List.length_take]; rfl)) ?_; (with_reducible refine (laws_markFieldS.calls kj38 (fun k_ => some k_ = (.slice Ao60 t213.length co60 : Value).ownBlock) (.slice Ao60 t213.length co60) t213 1 t226 t227 w _ ?side1 ?side2 A57.out).mono ?_); (case side1 => repeat (first | (with_reducible first | exact HB.out | apply below_alloc | apply pw_below_drewN | apply below_drew1 | refine below_set ?_ GE198.out | refine below_set ?_ GE212.out) | exact HB.out)); (case side2 => exact Kd.R_tight rfl HO_7.out); rintro e w61 ⟨rfl, hy0, hb, hkp⟩; refine ⟨_, rfl, ?_⟩; have n0_ := Aside0.mk (Kd.R_mono (ok' := fun k_ => some k_ ≠ (.slice Ao60 t213.length co60 : Value).ownBlock ∧ some k_ ≠ (.slice Ao24 t224.length co24 : Value).ownBlock) (Kd.R_keptB (HO_4.out) hkp (fun k_ hk_ hs_ => (hk_.1) hs_)) (fun k_ hk_ => ⟨hk_.1.1, hk_.1.2⟩)); have n1_ := Aside0.mk (Kd.R_reok rfl hy0 (fun k_ e_ => HO_7.out.1 k_ e_)); have n2_ := Aside0.mk (Kd.R_mono (ok' := fun k_ => some k_ ≠ (v205 : Value).ownBlock ∧ some k_ ≠ (.slice Ao60 t213.length co60 : Value).ownBlock) (Kd.R_keptB (HO_213001.out) hkp (fun k_ hk_ hs_ => (hk_.2) hs_)) (fun k_ hk_ => ⟨hk_.1.1, hk_.1.2⟩)); have n3_ := Aside0.mk (blk_kept (by (with_reducible repeat (first | refine blk_drewN ?_ _ | refine blk_drew ?_ | refine blk_alloc ?_ _)); exact BK198.out) hkp (fun hs_ => (fun e_ => (Kd.R_ne HO_7.out BK198.out (by decide)) e_) hs_)); have n4_ := Aside0.mk (blk_kept (by (with_reducible repeat (first | refine blk_drewN ?_ _ | refine blk_drew ?_ | refine blk_alloc ?_ _)); exact BK212.out) hkp (fun hs_ => (fun e_ => (Kd.R_ne HO_7.out BK212.out (by decide)) e_) hs_)); have n5_ := Aside0.mk (hb); clear HO_4; clear HO_7; clear HO_213001; clear BK198; clear BK212; clear HB; have HO_4 := n0_; have HO_7 := n1_; have HO_213001 := n2_; have BK198 := n3_; have BK212 := n4_; have HB := n5_; clear n0_ n1_ n2_ n3_ n4_ n5_; (try clear hb); (try clear hkp); (try clear hy0)) | ((with_reducible refine gate_callee (f := 28) rfl ?_); refine goesL_ (some 67) rfl rfl Tryd.func28 (by kernel_rfl) rfl #[.slice Ao60 t227.length co60, .int .i64 1] rfl (by (try simp only [List.map_toArray, List.map_cons, List.map_nil]); first | done | (rw [show t227.length = t213.length from (Kd.R_reads' HO_7.out).1.symm] <;> rfl) | rfl | (simp only [List.length_drop, List.length_take]; rfl)) ?_; (with_reducible refine (laws_heldFieldS.calls kj38 _ _ t227 1 t228 _ ?side1 ?side2 A58.out).mono ?_); (case side1 => repeat (first | exact (Kd.R_reads' HO_7.out).2.2 | (with_reducible refine Kd.C_alloc ?_ _) | (with_reducible refine Kd.C_drewN ?_ _) | (with_reducible refine Kd.C_drew ?_))); (case side2 => rw [show t227.length = t213.length from (Kd.R_reads' HO_7.out).1.symm]; exact (Kd.R_reads' HO_7.out).2.1); rintro e w62 ⟨rfl, hb⟩; refine ⟨_, rfl, ?_⟩; have n0_ := Aside0.mk (Kd.R_below (by (with_reducible repeat (first | apply Kd.R_alloc | apply Kd.R_drewN | apply Kd.R_drew)); exact HO_4.out) hb); have n1_ := Aside0.mk (Kd.R_below (by (with_reducible repeat (first | apply Kd.R_alloc | apply Kd.R_drewN | apply Kd.R_drew)); exact HO_7.out) hb); have n2_ := Aside0.mk (Kd.R_below (by (with_reducible repeat (first | apply Kd.R_alloc | apply Kd.R_drewN | apply Kd.R_drew)); exact HO_213001.out) hb); have n3_ := Aside0.mk (blk_below (g := gb198) (o := .cells #[.int .i64 a0_0, .slice A0_1 l0_1.length c0_1] 53 (0, 0)) (by (with_reducible repeat (first | refine blk_drewN ?_ _ | refine blk_drew ?_ | refine blk_alloc ?_ _)); exact BK198.out) hb); have n4_ := Aside0.mk (blk_below (g := gb212) (o := .cells #[.int .i64 t208, .slice Ao24 t224.length co24] 57 (0, 0)) (by (with_reducible repeat (first | refine blk_drewN ?_ _ | refine blk_drew ?_ | refine blk_alloc ?_ _)); exact BK212.out) hb); have n5_ := Aside0.mk (below_step (by repeat (first | (with_reducible first | exact HB.out | apply below_alloc | apply pw_below_drewN | apply below_drew1 | refine below_set ?_ GE198.out | refine below_set ?_ GE212.out) | exact HB.out)) hb); clear HO_4; clear HO_7; clear HO_213001; clear BK198; clear BK212; clear HB; have HO_4 := n0_; have HO_7 := n1_; have HO_213001 := n2_; have BK198 := n3_; have BK212 := n4_; have HB := n5_; clear n0_ n1_ n2_ n3_ n4_ n5_; (try clear hb); (try clear hb2); (try clear hk); (try clear hi)))
                    go_ret
                    exact ⟨by first | rfl | (simp [errW_none, errW_some] <;> rfl) | (simp [*, errW_none, errW_some] <;> rfl), by repeat (first | (with_reducible first | exact HB.out | apply below_alloc | apply pw_below_drewN | apply below_drew1 | refine below_set ?_ GE198.out | refine below_set ?_ GE212.out) | exact HB.out)⟩
                  · rw [if_neg c59] at H
                    have c59b0 : decide (t228 < 0) = false := decide_eq_false c59
                    clear c59
                    by_cases c63 : t228 = t226
                    · rw [if_pos c63] at H
                      have c63b0 : (t228 == t226) = true := beq_iff_eq.mpr c63
                      have c63b1 : (t228 != t226) = false := bne_eq_false_iff_eq.mpr c63
                      clear c63
                      replace H := Option.bind_eq_some_iff.mp H
                      obtain ⟨⟨t229, t230⟩, A640, H⟩ := H
                      replace H : ((impl_ResponseFields.f kj38 t229 t230).bind fun bt233 => ((laws_eqFieldS.f kj38 bt233.1 t204).bind fun t237 => (if t237 = true then (laws_FnExactResponseFields.j2 kj38 t227 t226 (bt233.2 != t207)) else (laws_FnExactResponseFields.j2 kj38 t227 t226 true)))) = some r := H
                      have A64 := Aside0.mk A640
                      clear A640
                      replace H := Option.bind_eq_some_iff.mp H
                      obtain ⟨⟨t233, t236⟩, A650, H⟩ := H
                      replace H : ((laws_eqFieldS.f kj38 t233 t204).bind fun t237 => (if t237 = true then (laws_FnExactResponseFields.j2 kj38 t227 t226 (t236 != t207)) else (laws_FnExactResponseFields.j2 kj38 t227 t226 true))) = some r := H
                      have A65 := Aside0.mk A650
                      clear A650
                      have HC66 := Aside0.mk H
                      clear H
                      obtain ⟨Ao67, co67, eo67⟩ := Kd.R_slice HO_7.out
                      subst eo67
                      go_upto_region 25 with (first | ((with_reducible refine gate_callee (f := 27) rfl ?_); refine goesL_ (some 64) rfl rfl Tryd.func27 (by kernel_rfl) rfl #[.slice Ao67 t213.length co67, .int .i64 1] rfl (by (try simp only [List.map_toArray, List.map_cons, List.map_nil]); first | done | rfl | (simp only [List.length_drop, List.length_take]; rfl)) ?_; (with_reducible refine (laws_markFieldS.calls kj38 (fun k_ => some k_ = (.slice Ao67 t213.length co67 : Value).ownBlock) (.slice Ao67 t213.length co67) t213 1 t226 t227 w _ ?side1 ?side2 A57.out).mono ?_); (case side1 => repeat (first | (with_reducible first | exact HB.out | apply below_alloc | apply pw_below_drewN | apply below_drew1 | refine below_set ?_ GE198.out | refine below_set ?_ GE212.out) | exact HB.out)); (case side2 => exact Kd.R_tight rfl HO_7.out); rintro e w68 ⟨rfl, hy0, hb, hkp⟩; refine ⟨_, rfl, ?_⟩; have n0_ := Aside0.mk (Kd.R_mono (ok' := fun k_ => some k_ ≠ (.slice Ao67 t213.length co67 : Value).ownBlock ∧ some k_ ≠ (.slice Ao24 t224.length co24 : Value).ownBlock) (Kd.R_keptB (HO_4.out) hkp (fun k_ hk_ hs_ => (hk_.1) hs_)) (fun k_ hk_ => ⟨hk_.1.1, hk_.1.2⟩)); have n1_ := Aside0.mk (Kd.R_reok rfl hy0 (fun k_ e_ => HO_7.out.1 k_ e_)); have n2_ := Aside0.mk (Kd.R_mono (ok' := fun k_ => some k_ ≠ (v205 : Value).ownBlock ∧ some k_ ≠ (.slice Ao67 t213.length co67 : Value).ownBlock) (Kd.R_keptB (HO_213001.out) hkp (fun k_ hk_ hs_ => (hk_.2) hs_)) (fun k_ hk_ => ⟨hk_.1.1, hk_.1.2⟩)); have n3_ := Aside0.mk (blk_kept (by (with_reducible repeat (first | refine blk_drewN ?_ _ | refine blk_drew ?_ | refine blk_alloc ?_ _)); exact BK198.out) hkp (fun hs_ => (fun e_ => (Kd.R_ne HO_7.out BK198.out (by decide)) e_) hs_)); have n4_ := Aside0.mk (blk_kept (by (with_reducible repeat (first | refine blk_drewN ?_ _ | refine blk_drew ?_ | refine blk_alloc ?_ _)); exact BK212.out) hkp (fun hs_ => (fun e_ => (Kd.R_ne HO_7.out BK212.out (by decide)) e_) hs_)); have n5_ := Aside0.mk (hb); clear HO_4; clear HO_7; clear HO_213001; clear BK198; clear BK212; clear HB; have HO_4 := n0_; have HO_7 := n1_; have HO_213001 := n2_; have BK198 := n3_; have BK212 := n4_; have HB := n5_; clear n0_ n1_ n2_ n3_ n4_ n5_; (try clear hb); (try clear hkp); (try clear hy0)) | ((with_reducible refine gate_callee (f := 28) rfl ?_); refine goesL_ (some 67) rfl rfl Tryd.func28 (by kernel_rfl) rfl #[.slice Ao67 t227.length co67, .int .i64 1] rfl (by (try simp only [List.map_toArray, List.map_cons, List.map_nil]); first | done | (rw [show t227.length = t213.length from (Kd.R_reads' HO_7.out).1.symm] <;> rfl) | rfl | (simp only [List.length_drop, List.length_take]; rfl)) ?_; (with_reducible refine (laws_heldFieldS.calls kj38 _ _ t227 1 t228 _ ?side1 ?side2 A58.out).mono ?_); (case side1 => repeat (first | exact (Kd.R_reads' HO_7.out).2.2 | (with_reducible refine Kd.C_alloc ?_ _) | (with_reducible refine Kd.C_drewN ?_ _) | (with_reducible refine Kd.C_drew ?_))); (case side2 => rw [show t227.length = t213.length from (Kd.R_reads' HO_7.out).1.symm]; exact (Kd.R_reads' HO_7.out).2.1); rintro e w69 ⟨rfl, hb⟩; refine ⟨_, rfl, ?_⟩; have n0_ := Aside0.mk (Kd.R_below (by (with_reducible repeat (first | apply Kd.R_alloc | apply Kd.R_drewN | apply Kd.R_drew)); exact HO_4.out) hb); have n1_ := Aside0.mk (Kd.R_below (by (with_reducible repeat (first | apply Kd.R_alloc | apply Kd.R_drewN | apply Kd.R_drew)); exact HO_7.out) hb); have n2_ := Aside0.mk (Kd.R_below (by (with_reducible repeat (first | apply Kd.R_alloc | apply Kd.R_drewN | apply Kd.R_drew)); exact HO_213001.out) hb); have n3_ := Aside0.mk (blk_below (g := gb198) (o := .cells #[.int .i64 a0_0, .slice A0_1 l0_1.length c0_1] 53 (0, 0)) (by (with_reducible repeat (first | refine blk_drewN ?_ _ | refine blk_drew ?_ | refine blk_alloc ?_ _)); exact BK198.out) hb); have n4_ := Aside0.mk (blk_below (g := gb212) (o := .cells #[.int .i64 t208, .slice Ao24 t224.length co24] 57 (0, 0)) (by (with_reducible repeat (first | refine blk_drewN ?_ _ | refine blk_drew ?_ | refine blk_alloc ?_ _)); exact BK212.out) hb); have n5_ := Aside0.mk (below_step (by repeat (first | (with_reducible first | exact HB.out | apply below_alloc | apply pw_below_drewN | apply below_drew1 | refine below_set ?_ GE198.out | refine below_set ?_ GE212.out) | exact HB.out)) hb); clear HO_4; clear HO_7; clear HO_213001; clear BK198; clear BK212; clear HB; have HO_4 := n0_; have HO_7 := n1_; have HO_213001 := n2_; have BK198 := n3_; have BK212 := n4_; have HB := n5_; clear n0_ n1_ n2_ n3_ n4_ n5_; (try clear hb); (try clear hb2); (try clear hk); (try clear hi); have hnb70 := NB198_212.out; have hnc70 := NB212_198.out; have hcz71_0 : w69.cell? ⟨gb198, 0, none⟩ = some (.int .i64 a0_0) := (blk_cell BK198.out 0).trans rfl; have hcz71_1 : w69.cell? ⟨gb198, 1, none⟩ = some (.slice A0_1 l0_1.length c0_1) := (blk_cell BK198.out 1).trans rfl; have hfz71_0 := blk_frozen BK198.out 0; have hfz71_1 := blk_frozen BK198.out 1) | ((with_reducible refine gate_callee (f := 34) rfl ?_); refine goesL_ (some 75) rfl rfl Tryd.func34 (by kernel_rfl) rfl #[.agg #[.int .i64 a0_0, .slice A0_1 l0_1.length c0_1]] rfl (by (try simp only [List.map_toArray, List.map_cons, List.map_nil]); first | done | rfl | (simp only [List.length_drop, List.length_take]; rfl)) ?_; (with_reducible refine (laws_toResponse.calls kj38 a0_0 _ _ l0_1 t229 t230 _ ?side1 ?side2 A64.out).mono ?_); (case side1 => repeat (first | exact (Kd.C_below HR0_1.out HB.out) | (with_reducible refine Kd.C_alloc ?_ _) | (with_reducible refine Kd.C_drewN ?_ _) | (with_reducible refine Kd.C_drew ?_))); (case side2 => exact HC0_1.out); rintro e w72 ⟨v231, rfl, ho0, hb⟩; refine ⟨_, rfl, ?_⟩; have n0_ := Aside0.mk (Kd.R_elder' (by (with_reducible repeat (first | apply Kd.R_alloc | apply Kd.R_drewN | apply Kd.R_drew)); exact HO_4.out) (Kd.R_base ho0) hb); have n1_ := Aside0.mk (Kd.R_elder' (by (with_reducible repeat (first | apply Kd.R_alloc | apply Kd.R_drewN | apply Kd.R_drew)); exact HO_7.out) (Kd.R_base ho0) hb); have n2_ := Aside0.mk (Kd.R_elder' (by (with_reducible repeat (first | apply Kd.R_alloc | apply Kd.R_drewN | apply Kd.R_drew)); exact HO_213001.out) (Kd.R_base ho0) hb); have n3_ := Aside0.mk (Kd.R_lower (Kd.R_new' (Kd.R_new' (Kd.R_new' ho0 (Kd.R_lt (by (with_reducible repeat (first | apply Kd.R_alloc | apply Kd.R_drewN | apply Kd.R_drew)); exact HO_4.out))) (Kd.R_lt (by (with_reducible repeat (first | apply Kd.R_alloc | apply Kd.R_drewN | apply Kd.R_drew)); exact HO_7.out))) (Kd.R_lt (by (with_reducible repeat (first | apply Kd.R_alloc | apply Kd.R_drewN | apply Kd.R_drew)); exact HO_213001.out))) (below_size (by repeat (first | (with_reducible first | exact HB.out | apply below_alloc | apply pw_below_drewN | apply below_drew1 | refine below_set ?_ GE198.out | refine below_set ?_ GE212.out) | exact HB.out)))); have n4_ := Aside0.mk (blk_below (g := gb198) (o := .cells #[.int .i64 a0_0, .slice A0_1 l0_1.length c0_1] 53 (0, 0)) (by (with_reducible repeat (first | refine blk_drewN ?_ _ | refine blk_drew ?_ | refine blk_alloc ?_ _)); exact BK198.out) hb); have n5_ := Aside0.mk (blk_below (g := gb212) (o := .cells #[.int .i64 t208, .slice Ao24 t224.length co24] 57 (0, 0)) (by (with_reducible repeat (first | refine blk_drewN ?_ _ | refine blk_drew ?_ | refine blk_alloc ?_ _)); exact BK212.out) hb); have n6_ := Aside0.mk (below_step (by repeat (first | (with_reducible first | exact HB.out | apply below_alloc | apply pw_below_drewN | apply below_drew1 | refine below_set ?_ GE198.out | refine below_set ?_ GE212.out) | exact HB.out)) hb); clear HO_4; clear HO_7; clear HO_213001; clear BK198; clear BK212; clear HB; have HO_4 := n0_; have HO_7 := n1_; have HO_213001 := n2_; have HO232 := n3_; have BK198 := n4_; have BK212 := n5_; have HB := n6_; clear n0_ n1_ n2_ n3_ n4_ n5_ n6_; (try clear hb); (try clear hb2); (try clear hk); (try clear hi); (try clear ho0); obtain ⟨Ao73, co73, eo73⟩ := Kd.R_slice HO232.out; subst eo73) | ((with_reducible refine gate_callee (f := 35) rfl ?_); refine goesL_ (some 76) rfl rfl Tryd.func35 (by kernel_rfl) rfl #[.agg #[.int .i64 t229, .slice Ao73 t230.length co73]] rfl (by (try simp only [List.map_toArray, List.map_cons, List.map_nil]); first | done | rfl | (simp only [List.length_drop, List.length_take]; rfl)) ?_; (with_reducible refine (impl_ResponseFields.calls kj38 t229 _ _ t230 t233 t236 _ ?side1 ?side2 A65.out ?sidet).mono ?_); (case sidet => exact TabW.below HT0.out (by repeat (first | (with_reducible first | exact HB.out | apply below_alloc | apply pw_below_drewN | apply below_drew1 | refine below_set ?_ GE198.out | refine below_set ?_ GE212.out) | exact HB.out))); (case side1 => repeat (first | exact (Kd.R_reads' HO232.out).2.2 | (with_reducible refine Kd.C_alloc ?_ _) | (with_reducible refine Kd.C_drewN ?_ _) | (with_reducible refine Kd.C_drew ?_))); (case side2 => exact (Kd.R_reads' HO232.out).2.1); rintro e w74 ⟨v234, rfl, ho0, hb⟩; refine ⟨_, rfl, ?_⟩; have n0_ := Aside0.mk (Kd.R_elder' (by (with_reducible repeat (first | apply Kd.R_alloc | apply Kd.R_drewN | apply Kd.R_drew)); exact HO_4.out) (Kd.R_base ho0) hb); have n1_ := Aside0.mk (Kd.R_elder' (by (with_reducible repeat (first | apply Kd.R_alloc | apply Kd.R_drewN | apply Kd.R_drew)); exact HO_7.out) (Kd.R_base ho0) hb); have n2_ := Aside0.mk (Kd.R_elder' (by (with_reducible repeat (first | apply Kd.R_alloc | apply Kd.R_drewN | apply Kd.R_drew)); exact HO_213001.out) (Kd.R_base ho0) hb); have n3_ := Aside0.mk (Kd.R_elder' (by (with_reducible repeat (first | apply Kd.R_alloc | apply Kd.R_drewN | apply Kd.R_drew)); exact HO232.out) (Kd.R_base ho0) hb); have n4_ := Aside0.mk (Kd.R_lower (Kd.R_new' (Kd.R_new' (Kd.R_new' (Kd.R_new' ho0 (Kd.R_lt (by (with_reducible repeat (first | apply Kd.R_alloc | apply Kd.R_drewN | apply Kd.R_drew)); exact HO_4.out))) (Kd.R_lt (by (with_reducible repeat (first | apply Kd.R_alloc | apply Kd.R_drewN | apply Kd.R_drew)); exact HO_7.out))) (Kd.R_lt (by (with_reducible repeat (first | apply Kd.R_alloc | apply Kd.R_drewN | apply Kd.R_drew)); exact HO_213001.out))) (Kd.R_lt (by (with_reducible repeat (first | apply Kd.R_alloc | apply Kd.R_drewN | apply Kd.R_drew)); exact HO232.out))) (below_size (by repeat (first | (with_reducible first | exact HB.out | apply below_alloc | apply pw_below_drewN | apply below_drew1 | refine below_set ?_ GE198.out | refine below_set ?_ GE212.out) | exact HB.out)))); have n5_ := Aside0.mk (blk_below (g := gb198) (o := .cells #[.int .i64 a0_0, .slice A0_1 l0_1.length c0_1] 53 (0, 0)) (by (with_reducible repeat (first | refine blk_drewN ?_ _ | refine blk_drew ?_ | refine blk_alloc ?_ _)); exact BK198.out) hb); have n6_ := Aside0.mk (blk_below (g := gb212) (o := .cells #[.int .i64 t208, .slice Ao24 t224.length co24] 57 (0, 0)) (by (with_reducible repeat (first | refine blk_drewN ?_ _ | refine blk_drew ?_ | refine blk_alloc ?_ _)); exact BK212.out) hb); have n7_ := Aside0.mk (below_step (by repeat (first | (with_reducible first | exact HB.out | apply below_alloc | apply pw_below_drewN | apply below_drew1 | refine below_set ?_ GE198.out | refine below_set ?_ GE212.out) | exact HB.out)) hb); clear HO_4; clear HO_7; clear HO_213001; clear HO232; clear BK198; clear BK212; clear HB; have HO_4 := n0_; have HO_7 := n1_; have HO_213001 := n2_; have HO232 := n3_; have HO235 := n4_; have BK198 := n5_; have BK212 := n6_; have HB := n7_; clear n0_ n1_ n2_ n3_ n4_ n5_ n6_ n7_; (try clear hb); (try clear hb2); (try clear hk); (try clear hi); (try clear ho0)))
                      (try simp only [Act.put, List.setIfInBounds_toArray, List.set_cons_zero, List.set_cons_succ])
                      go_cut [87] (fun v87 wc => ∃ (kq : Nat) (x87_65 : Bool), v87 = .bool x87_65 ∧ Aside0 (laws_FnExactResponseFields.j2 kq t227 t226 x87_65 = some r) ∧ Aside0 (kq ≤ kj38) ∧ Aside0 (Kd.R k78 78 wc w.heap.size (fun k_ => some k_ ≠ ((.slice Ao24 t224.length co24) : Value).ownBlock) (.slice Ao67 t213.length co67) t227) ∧ Aside0 (Kd.R k78 78 wc w.heap.size (fun k_ => some k_ ≠ ((.slice Ao67 t213.length co67) : Value).ownBlock) (.slice Ao24 t224.length co24) t224) ∧ Aside0 (wc.heap[gb198]? = some (.cells #[.int .i64 a0_0, (.slice A0_1 l0_1.length c0_1)] 53 (0, 0))) ∧ Aside0 (wc.heap[gb212]? = some (.cells #[.int .i64 t208, (.slice Ao24 t224.length co24)] 57 (0, 0))) ∧ Aside0 (Below w.heap.size w wc))
                      case first =>
                        have H := HC66.out
                        clear HC66
                        replace H := Option.bind_eq_some_iff.mp H
                        obtain ⟨t237, A750, H⟩ := H
                        replace H : (if t237 = true then (laws_FnExactResponseFields.j2 kj38 t227 t226 (t236 != t207)) else (laws_FnExactResponseFields.j2 kj38 t227 t226 true)) = some r := H
                        have A75 := Aside0.mk A750
                        clear A750
                        by_cases c76 : t237 = true
                        · subst c76
                          have H1 : (laws_FnExactResponseFields.j2 kj38 t227 t226 (t236 != t207)) = some r := by rw [if_pos rfl] at H; exact H
                          clear H
                          have H := H1
                          clear H1
                          have H' := Aside0.mk H
                          clear H
                          obtain ⟨Ao77, co77, eo77⟩ := Kd.R_slice HO235.out
                          subst eo77
                          obtain ⟨Ao78, co78, eo78⟩ := Kd.R_slice HO_4.out
                          subst eo78
                          go_wp2_with (first | ((with_reducible refine gate_callee (f := 20) rfl ?_); refine goesL_ (some 81) rfl rfl Tryd.func20 (by kernel_rfl) rfl #[.slice Ao77 t233.length co77, .slice Ao78 t204.length co78] rfl (by (try simp only [List.map_toArray, List.map_cons, List.map_nil]); first | done | rfl | (simp only [List.length_drop, List.length_take]; rfl)) ?_; (with_reducible refine (laws_eqFieldS.calls kj38 _ _ t233 _ _ t204 true _ ?side1 ?side2 ?side3 ?side4 A75.out).mono ?_); (case side1 => repeat (first | exact (Kd.R_reads' HO235.out).2.2 | (with_reducible refine Kd.C_alloc ?_ _) | (with_reducible refine Kd.C_drewN ?_ _) | (with_reducible refine Kd.C_drew ?_))); (case side2 => exact (Kd.R_reads' HO235.out).2.1); (case side3 => repeat (first | exact (Kd.R_reads' HO_4.out).2.2 | (with_reducible refine Kd.C_alloc ?_ _) | (with_reducible refine Kd.C_drewN ?_ _) | (with_reducible refine Kd.C_drew ?_))); (case side4 => exact (Kd.R_reads' HO_4.out).2.1); rintro e w79 ⟨rfl, hb⟩; refine ⟨_, rfl, ?_⟩; have n0_ := Aside0.mk (Kd.R_below (by (with_reducible repeat (first | apply Kd.R_alloc | apply Kd.R_drewN | apply Kd.R_drew)); exact HO_4.out) hb); have n1_ := Aside0.mk (Kd.R_below (by (with_reducible repeat (first | apply Kd.R_alloc | apply Kd.R_drewN | apply Kd.R_drew)); exact HO_7.out) hb); have n2_ := Aside0.mk (Kd.R_below (by (with_reducible repeat (first | apply Kd.R_alloc | apply Kd.R_drewN | apply Kd.R_drew)); exact HO_213001.out) hb); have n3_ := Aside0.mk (Kd.R_below (by (with_reducible repeat (first | apply Kd.R_alloc | apply Kd.R_drewN | apply Kd.R_drew)); exact HO232.out) hb); have n4_ := Aside0.mk (Kd.R_below (by (with_reducible repeat (first | apply Kd.R_alloc | apply Kd.R_drewN | apply Kd.R_drew)); exact HO235.out) hb); have n5_ := Aside0.mk (blk_below (g := gb198) (o := .cells #[.int .i64 a0_0, .slice A0_1 l0_1.length c0_1] 53 (0, 0)) (by (with_reducible repeat (first | refine blk_drewN ?_ _ | refine blk_drew ?_ | refine blk_alloc ?_ _)); exact BK198.out) hb); have n6_ := Aside0.mk (blk_below (g := gb212) (o := .cells #[.int .i64 t208, .slice Ao24 t224.length co24] 57 (0, 0)) (by (with_reducible repeat (first | refine blk_drewN ?_ _ | refine blk_drew ?_ | refine blk_alloc ?_ _)); exact BK212.out) hb); have n7_ := Aside0.mk (below_step (by repeat (first | (with_reducible first | exact HB.out | apply below_alloc | apply pw_below_drewN | apply below_drew1 | refine below_set ?_ GE198.out | refine below_set ?_ GE212.out) | exact HB.out)) hb); clear HO_4; clear HO_7; clear HO_213001; clear HO232; clear HO235; clear BK198; clear BK212; clear HB; have HO_4 := n0_; have HO_7 := n1_; have HO_213001 := n2_; have HO232 := n3_; have HO235 := n4_; have BK198 := n5_; have BK212 := n6_; have HB := n7_; clear n0_ n1_ n2_ n3_ n4_ n5_ n6_ n7_; (try clear hb); (try clear hb2); (try clear hk); (try clear hi)))
                          go_meet
                          case rel => exact ⟨_, ((t236 != t207)), (by first | rfl | (simp; done) | (simp [*]; done)), H', ⟨by have := HJ10.out; have := HJ38.out; first | omega | exact Nat.le_refl _⟩, ⟨by (try simp only [hl213001_38]); (with_reducible repeat (first | apply Kd.R_alloc | apply Kd.R_drewN | apply Kd.R_drew)); exact Kd.R_mono HO_7.out (fun _ hk => hk.1.1.2)⟩, ⟨by (try simp only [hl213001_38]); (with_reducible repeat (first | apply Kd.R_alloc | apply Kd.R_drewN | apply Kd.R_drew)); exact Kd.R_mono HO_213001.out (fun _ hk => hk.1.1.2)⟩, ⟨by (try simp only [hl213001_38]); (with_reducible repeat (first | refine blk_drewN ?_ _ | refine blk_drew ?_ | refine blk_alloc ?_ _)); exact BK198.out⟩, ⟨by (try simp only [hl213001_38]); (with_reducible repeat (first | refine blk_drewN ?_ _ | refine blk_drew ?_ | refine blk_alloc ?_ _)); exact BK212.out⟩, ⟨by repeat (first | (with_reducible first | exact HB.out | apply below_alloc | apply pw_below_drewN | apply below_drew1 | refine below_set ?_ GE198.out | refine below_set ?_ GE212.out) | exact HB.out)⟩⟩
                        · replace c76 := Bool.eq_false_iff.mpr c76
                          subst c76
                          have H1 : (laws_FnExactResponseFields.j2 kj38 t227 t226 true) = some r := by rw [if_neg (show ¬ (false = true) by decide)] at H; exact H
                          clear H
                          have H := H1
                          clear H1
                          have H' := Aside0.mk H
                          clear H
                          obtain ⟨Ao80, co80, eo80⟩ := Kd.R_slice HO235.out
                          subst eo80
                          obtain ⟨Ao81, co81, eo81⟩ := Kd.R_slice HO_4.out
                          subst eo81
                          go_wp2_with (first | ((with_reducible refine gate_callee (f := 20) rfl ?_); refine goesL_ (some 81) rfl rfl Tryd.func20 (by kernel_rfl) rfl #[.slice Ao80 t233.length co80, .slice Ao81 t204.length co81] rfl (by (try simp only [List.map_toArray, List.map_cons, List.map_nil]); first | done | rfl | (simp only [List.length_drop, List.length_take]; rfl)) ?_; (with_reducible refine (laws_eqFieldS.calls kj38 _ _ t233 _ _ t204 false _ ?side1 ?side2 ?side3 ?side4 A75.out).mono ?_); (case side1 => repeat (first | exact (Kd.R_reads' HO235.out).2.2 | (with_reducible refine Kd.C_alloc ?_ _) | (with_reducible refine Kd.C_drewN ?_ _) | (with_reducible refine Kd.C_drew ?_))); (case side2 => exact (Kd.R_reads' HO235.out).2.1); (case side3 => repeat (first | exact (Kd.R_reads' HO_4.out).2.2 | (with_reducible refine Kd.C_alloc ?_ _) | (with_reducible refine Kd.C_drewN ?_ _) | (with_reducible refine Kd.C_drew ?_))); (case side4 => exact (Kd.R_reads' HO_4.out).2.1); rintro e w82 ⟨rfl, hb⟩; refine ⟨_, rfl, ?_⟩; have n0_ := Aside0.mk (Kd.R_below (by (with_reducible repeat (first | apply Kd.R_alloc | apply Kd.R_drewN | apply Kd.R_drew)); exact HO_4.out) hb); have n1_ := Aside0.mk (Kd.R_below (by (with_reducible repeat (first | apply Kd.R_alloc | apply Kd.R_drewN | apply Kd.R_drew)); exact HO_7.out) hb); have n2_ := Aside0.mk (Kd.R_below (by (with_reducible repeat (first | apply Kd.R_alloc | apply Kd.R_drewN | apply Kd.R_drew)); exact HO_213001.out) hb); have n3_ := Aside0.mk (Kd.R_below (by (with_reducible repeat (first | apply Kd.R_alloc | apply Kd.R_drewN | apply Kd.R_drew)); exact HO232.out) hb); have n4_ := Aside0.mk (Kd.R_below (by (with_reducible repeat (first | apply Kd.R_alloc | apply Kd.R_drewN | apply Kd.R_drew)); exact HO235.out) hb); have n5_ := Aside0.mk (blk_below (g := gb198) (o := .cells #[.int .i64 a0_0, .slice A0_1 l0_1.length c0_1] 53 (0, 0)) (by (with_reducible repeat (first | refine blk_drewN ?_ _ | refine blk_drew ?_ | refine blk_alloc ?_ _)); exact BK198.out) hb); have n6_ := Aside0.mk (blk_below (g := gb212) (o := .cells #[.int .i64 t208, .slice Ao24 t224.length co24] 57 (0, 0)) (by (with_reducible repeat (first | refine blk_drewN ?_ _ | refine blk_drew ?_ | refine blk_alloc ?_ _)); exact BK212.out) hb); have n7_ := Aside0.mk (below_step (by repeat (first | (with_reducible first | exact HB.out | apply below_alloc | apply pw_below_drewN | apply below_drew1 | refine below_set ?_ GE198.out | refine below_set ?_ GE212.out) | exact HB.out)) hb); clear HO_4; clear HO_7; clear HO_213001; clear HO232; clear HO235; clear BK198; clear BK212; clear HB; have HO_4 := n0_; have HO_7 := n1_; have HO_213001 := n2_; have HO232 := n3_; have HO235 := n4_; have BK198 := n5_; have BK212 := n6_; have HB := n7_; clear n0_ n1_ n2_ n3_ n4_ n5_ n6_ n7_; (try clear hb); (try clear hb2); (try clear hk); (try clear hi)))
                          go_meet
                          case rel => exact ⟨_, (true), (by first | rfl | (simp; done) | (simp [*]; done)), H', ⟨by have := HJ10.out; have := HJ38.out; first | omega | exact Nat.le_refl _⟩, ⟨by (try simp only [hl213001_38]); (with_reducible repeat (first | apply Kd.R_alloc | apply Kd.R_drewN | apply Kd.R_drew)); exact Kd.R_mono HO_7.out (fun _ hk => hk.1.1.2)⟩, ⟨by (try simp only [hl213001_38]); (with_reducible repeat (first | apply Kd.R_alloc | apply Kd.R_drewN | apply Kd.R_drew)); exact Kd.R_mono HO_213001.out (fun _ hk => hk.1.1.2)⟩, ⟨by (try simp only [hl213001_38]); (with_reducible repeat (first | refine blk_drewN ?_ _ | refine blk_drew ?_ | refine blk_alloc ?_ _)); exact BK198.out⟩, ⟨by (try simp only [hl213001_38]); (with_reducible repeat (first | refine blk_drewN ?_ _ | refine blk_drew ?_ | refine blk_alloc ?_ _)); exact BK212.out⟩, ⟨by repeat (first | (with_reducible first | exact HB.out | apply below_alloc | apply pw_below_drewN | apply below_drew1 | refine below_set ?_ GE198.out | refine below_set ?_ GE212.out) | exact HB.out)⟩⟩
                      case rest =>
                        clear HC66
                        try clear c2
                        try clear p2
                        try clear c3
                        try clear c3b0
                        try clear c4
                        try clear c5
                        try clear c6
                        try clear c7
                        try clear c9
                        try clear c20
                        try clear c22
                        try clear c27
                        try clear c28
                        try clear c32
                        try clear c33
                        try clear c34
                        try clear c35
                        try clear c36
                        try clear c37
                        try clear c44
                        try clear c47
                        try clear c47b0
                        try clear c49
                        try clear c56
                        try clear c59
                        try clear c59b0
                        try clear c63
                        try clear c63b0
                        try clear c63b1
                        try clear c70
                        try clear c76
                        try clear hcz13_0
                        try clear hcz13_1
                        try clear hcz15_0
                        try clear hcz15_1
                        try clear hcz19_0
                        try clear hcz19_1
                        try clear hcz23_0
                        try clear hcz23_1
                        try clear hcz45_0
                        try clear hcz45_1
                        try clear hcz5_0
                        try clear hcz5_1
                        try clear hcz71_0
                        try clear hcz71_1
                        try clear hfz13_0
                        try clear hfz13_1
                        try clear hfz15_0
                        try clear hfz15_1
                        try clear hfz19_0
                        try clear hfz19_1
                        try clear hfz23_0
                        try clear hfz23_1
                        try clear hfz45_0
                        try clear hfz45_1
                        try clear hfz5_0
                        try clear hfz5_1
                        try clear hfz71_0
                        try clear hfz71_1
                        try clear p2
                        obtain ⟨kq, x87_65, rfl, HA, HJ65, HO_7, HO_213001, BK198, BK212, HB⟩ := hcut
                        have hl7_65 := (Kd.R_reads' HO_7.out).1
                        rw [hl7_65] at HO_7
                        (try simp only [hl7_65])
                        (try simp only [hl7_65] at BK198)
                        (try simp only [hl7_65] at BK212)
                        (try simp only [hl7_65] at HO_213001)
                        cases kq with
                        | zero => exact absurd HA.out (by simp [laws_FnExactResponseFields.j2])
                        | succ kj65 =>
                          have H := HA.out
                          clear HA
                          simp only [laws_FnExactResponseFields.j2] at H
                          by_cases c83 : x87_65 = true
                          · subst c83
                            have H1 : (some false) = some r := by rw [if_pos rfl] at H; exact H
                            clear H
                            have H := H1
                            clear H1
                            obtain rfl := Option.some.inj H
                            go_wp2
                            go_ret
                            exact ⟨by first | rfl | (simp [errW_none, errW_some] <;> rfl) | (simp [*, errW_none, errW_some] <;> rfl), by repeat (first | (with_reducible first | exact HB.out | apply below_alloc | apply pw_below_drewN | apply below_drew1 | refine below_set ?_ GE198.out | refine below_set ?_ GE212.out) | exact HB.out)⟩
                          · replace c83 := Bool.eq_false_iff.mpr c83
                            subst c83
                            have H1 : ((laws_heldFieldS.f kj65 t227 1).bind fun t238 => (if t238 < 0 then (some false) else (if t238 = t226 then (some true) else (some false)))) = some r := by rw [if_neg (show ¬ (false = true) by decide)] at H; exact H
                            clear H
                            have H := H1
                            clear H1
                            replace H := Option.bind_eq_some_iff.mp H
                            obtain ⟨t238, A840, H⟩ := H
                            replace H : (if t238 < 0 then (some false) else (if t238 = t226 then (some true) else (some false))) = some r := H
                            have A84 := Aside0.mk A840
                            clear A840
                            by_cases c85 : t238 < 0
                            · rw [if_pos c85] at H
                              have c85b0 : decide (t238 < 0) = true := decide_eq_true c85
                              clear c85
                              obtain rfl := Option.some.inj H
                              go_wp2_with (first | ((with_reducible refine gate_callee (f := 28) rfl ?_); refine goesL_ (some 90) rfl rfl Tryd.func28 (by kernel_rfl) rfl #[.slice Ao67 t227.length co67, .int .i64 1] rfl (by (try simp only [List.map_toArray, List.map_cons, List.map_nil]); first | done | rfl | (simp only [List.length_drop, List.length_take]; rfl)) ?_; (with_reducible refine (laws_heldFieldS.calls kj65 _ _ t227 1 t238 _ ?side1 ?side2 A84.out).mono ?_); (case side1 => repeat (first | exact (Kd.R_reads' HO_7.out).2.2 | (with_reducible refine Kd.C_alloc ?_ _) | (with_reducible refine Kd.C_drewN ?_ _) | (with_reducible refine Kd.C_drew ?_))); (case side2 => exact (Kd.R_reads' HO_7.out).2.1); rintro e w86 ⟨rfl, hb⟩; refine ⟨_, rfl, ?_⟩; have n0_ := Aside0.mk (Kd.R_below (by (with_reducible repeat (first | apply Kd.R_alloc | apply Kd.R_drewN | apply Kd.R_drew)); exact HO_7.out) hb); have n1_ := Aside0.mk (Kd.R_below (by (with_reducible repeat (first | apply Kd.R_alloc | apply Kd.R_drewN | apply Kd.R_drew)); exact HO_213001.out) hb); have n2_ := Aside0.mk (blk_below (g := gb198) (o := .cells #[.int .i64 a0_0, .slice A0_1 l0_1.length c0_1] 53 (0, 0)) (by (with_reducible repeat (first | refine blk_drewN ?_ _ | refine blk_drew ?_ | refine blk_alloc ?_ _)); exact BK198.out) hb); have n3_ := Aside0.mk (blk_below (g := gb212) (o := .cells #[.int .i64 t208, .slice Ao24 t224.length co24] 57 (0, 0)) (by (with_reducible repeat (first | refine blk_drewN ?_ _ | refine blk_drew ?_ | refine blk_alloc ?_ _)); exact BK212.out) hb); have n4_ := Aside0.mk (below_step (by repeat (first | (with_reducible first | exact HB.out | apply below_alloc | apply pw_below_drewN | apply below_drew1 | refine below_set ?_ GE198.out | refine below_set ?_ GE212.out) | exact HB.out)) hb); clear HO_7; clear HO_213001; clear BK198; clear BK212; clear HB; have HO_7 := n0_; have HO_213001 := n1_; have BK198 := n2_; have BK212 := n3_; have HB := n4_; clear n0_ n1_ n2_ n3_ n4_; (try clear hb); (try clear hb2); (try clear hk); (try clear hi)))
                              go_ret
                              exact ⟨by first | rfl | (simp [errW_none, errW_some] <;> rfl) | (simp [*, errW_none, errW_some] <;> rfl), by repeat (first | (with_reducible first | exact HB.out | apply below_alloc | apply pw_below_drewN | apply below_drew1 | refine below_set ?_ GE198.out | refine below_set ?_ GE212.out) | exact HB.out)⟩
                            · rw [if_neg c85] at H
                              have c85b0 : decide (t238 < 0) = false := decide_eq_false c85
                              clear c85
                              by_cases c87 : t238 = t226
                              · rw [if_pos c87] at H
                                have c87b0 : (t238 == t226) = true := beq_iff_eq.mpr c87
                                have c87b1 : (t238 != t226) = false := bne_eq_false_iff_eq.mpr c87
                                clear c87
                                obtain rfl := Option.some.inj H
                                go_wp2_with (first | ((with_reducible refine gate_callee (f := 28) rfl ?_); refine goesL_ (some 90) rfl rfl Tryd.func28 (by kernel_rfl) rfl #[.slice Ao67 t227.length co67, .int .i64 1] rfl (by (try simp only [List.map_toArray, List.map_cons, List.map_nil]); first | done | rfl | (simp only [List.length_drop, List.length_take]; rfl)) ?_; (with_reducible refine (laws_heldFieldS.calls kj65 _ _ t227 1 t238 _ ?side1 ?side2 A84.out).mono ?_); (case side1 => repeat (first | exact (Kd.R_reads' HO_7.out).2.2 | (with_reducible refine Kd.C_alloc ?_ _) | (with_reducible refine Kd.C_drewN ?_ _) | (with_reducible refine Kd.C_drew ?_))); (case side2 => exact (Kd.R_reads' HO_7.out).2.1); rintro e w88 ⟨rfl, hb⟩; refine ⟨_, rfl, ?_⟩; have n0_ := Aside0.mk (Kd.R_below (by (with_reducible repeat (first | apply Kd.R_alloc | apply Kd.R_drewN | apply Kd.R_drew)); exact HO_7.out) hb); have n1_ := Aside0.mk (Kd.R_below (by (with_reducible repeat (first | apply Kd.R_alloc | apply Kd.R_drewN | apply Kd.R_drew)); exact HO_213001.out) hb); have n2_ := Aside0.mk (blk_below (g := gb198) (o := .cells #[.int .i64 a0_0, .slice A0_1 l0_1.length c0_1] 53 (0, 0)) (by (with_reducible repeat (first | refine blk_drewN ?_ _ | refine blk_drew ?_ | refine blk_alloc ?_ _)); exact BK198.out) hb); have n3_ := Aside0.mk (blk_below (g := gb212) (o := .cells #[.int .i64 t208, .slice Ao24 t224.length co24] 57 (0, 0)) (by (with_reducible repeat (first | refine blk_drewN ?_ _ | refine blk_drew ?_ | refine blk_alloc ?_ _)); exact BK212.out) hb); have n4_ := Aside0.mk (below_step (by repeat (first | (with_reducible first | exact HB.out | apply below_alloc | apply pw_below_drewN | apply below_drew1 | refine below_set ?_ GE198.out | refine below_set ?_ GE212.out) | exact HB.out)) hb); clear HO_7; clear HO_213001; clear BK198; clear BK212; clear HB; have HO_7 := n0_; have HO_213001 := n1_; have BK198 := n2_; have BK212 := n3_; have HB := n4_; clear n0_ n1_ n2_ n3_ n4_; (try clear hb); (try clear hb2); (try clear hk); (try clear hi)))
                                go_ret
                                exact ⟨by first | rfl | (simp [errW_none, errW_some] <;> rfl) | (simp [*, errW_none, errW_some] <;> rfl), by repeat (first | (with_reducible first | exact HB.out | apply below_alloc | apply pw_below_drewN | apply below_drew1 | refine below_set ?_ GE198.out | refine below_set ?_ GE212.out) | exact HB.out)⟩
                              · rw [if_neg c87] at H
                                have c87b0 : (t238 == t226) = false := beq_eq_false_iff_ne.mpr c87
                                have c87b1 : (t238 != t226) = true := bne_iff_ne.mpr c87
                                obtain rfl := Option.some.inj H
                                go_wp2_with (first | ((with_reducible refine gate_callee (f := 28) rfl ?_); refine goesL_ (some 90) rfl rfl Tryd.func28 (by kernel_rfl) rfl #[.slice Ao67 t227.length co67, .int .i64 1] rfl (by (try simp only [List.map_toArray, List.map_cons, List.map_nil]); first | done | rfl | (simp only [List.length_drop, List.length_take]; rfl)) ?_; (with_reducible refine (laws_heldFieldS.calls kj65 _ _ t227 1 t238 _ ?side1 ?side2 A84.out).mono ?_); (case side1 => repeat (first | exact (Kd.R_reads' HO_7.out).2.2 | (with_reducible refine Kd.C_alloc ?_ _) | (with_reducible refine Kd.C_drewN ?_ _) | (with_reducible refine Kd.C_drew ?_))); (case side2 => exact (Kd.R_reads' HO_7.out).2.1); rintro e w89 ⟨rfl, hb⟩; refine ⟨_, rfl, ?_⟩; have n0_ := Aside0.mk (Kd.R_below (by (with_reducible repeat (first | apply Kd.R_alloc | apply Kd.R_drewN | apply Kd.R_drew)); exact HO_7.out) hb); have n1_ := Aside0.mk (Kd.R_below (by (with_reducible repeat (first | apply Kd.R_alloc | apply Kd.R_drewN | apply Kd.R_drew)); exact HO_213001.out) hb); have n2_ := Aside0.mk (blk_below (g := gb198) (o := .cells #[.int .i64 a0_0, .slice A0_1 l0_1.length c0_1] 53 (0, 0)) (by (with_reducible repeat (first | refine blk_drewN ?_ _ | refine blk_drew ?_ | refine blk_alloc ?_ _)); exact BK198.out) hb); have n3_ := Aside0.mk (blk_below (g := gb212) (o := .cells #[.int .i64 t208, .slice Ao24 t224.length co24] 57 (0, 0)) (by (with_reducible repeat (first | refine blk_drewN ?_ _ | refine blk_drew ?_ | refine blk_alloc ?_ _)); exact BK212.out) hb); have n4_ := Aside0.mk (below_step (by repeat (first | (with_reducible first | exact HB.out | apply below_alloc | apply pw_below_drewN | apply below_drew1 | refine below_set ?_ GE198.out | refine below_set ?_ GE212.out) | exact HB.out)) hb); clear HO_7; clear HO_213001; clear BK198; clear BK212; clear HB; have HO_7 := n0_; have HO_213001 := n1_; have BK198 := n2_; have BK212 := n3_; have HB := n4_; clear n0_ n1_ n2_ n3_ n4_; (try clear hb); (try clear hb2); (try clear hk); (try clear hi)))
                                go_ret
                                exact ⟨by first | rfl | (simp [errW_none, errW_some] <;> rfl) | (simp [*, errW_none, errW_some] <;> rfl), by repeat (first | (with_reducible first | exact HB.out | apply below_alloc | apply pw_below_drewN | apply below_drew1 | refine below_set ?_ GE198.out | refine below_set ?_ GE212.out) | exact HB.out)⟩
                    · rw [if_neg c63] at H
                      have c63b0 : (t228 == t226) = false := beq_eq_false_iff_ne.mpr c63
                      have c63b1 : (t228 != t226) = true := bne_iff_ne.mpr c63
                      obtain rfl := Option.some.inj H
                      obtain ⟨Ao90, co90, eo90⟩ := Kd.R_slice HO_7.out
                      subst eo90
                      go_wp2_with (first | ((with_reducible refine gate_callee (f := 27) rfl ?_); refine goesL_ (some 64) rfl rfl Tryd.func27 (by kernel_rfl) rfl #[.slice Ao90 t213.length co90, .int .i64 1] rfl (by (try simp only [List.map_toArray, List.map_cons, List.map_nil]); first | done | rfl | (simp only [List.length_drop, List.length_take]; rfl)) ?_; (with_reducible refine (laws_markFieldS.calls kj38 (fun k_ => some k_ = (.slice Ao90 t213.length co90 : Value).ownBlock) (.slice Ao90 t213.length co90) t213 1 t226 t227 w _ ?side1 ?side2 A57.out).mono ?_); (case side1 => repeat (first | (with_reducible first | exact HB.out | apply below_alloc | apply pw_below_drewN | apply below_drew1 | refine below_set ?_ GE198.out | refine below_set ?_ GE212.out) | exact HB.out)); (case side2 => exact Kd.R_tight rfl HO_7.out); rintro e w91 ⟨rfl, hy0, hb, hkp⟩; refine ⟨_, rfl, ?_⟩; have n0_ := Aside0.mk (Kd.R_mono (ok' := fun k_ => some k_ ≠ (.slice Ao90 t213.length co90 : Value).ownBlock ∧ some k_ ≠ (.slice Ao24 t224.length co24 : Value).ownBlock) (Kd.R_keptB (HO_4.out) hkp (fun k_ hk_ hs_ => (hk_.1) hs_)) (fun k_ hk_ => ⟨hk_.1.1, hk_.1.2⟩)); have n1_ := Aside0.mk (Kd.R_reok rfl hy0 (fun k_ e_ => HO_7.out.1 k_ e_)); have n2_ := Aside0.mk (Kd.R_mono (ok' := fun k_ => some k_ ≠ (v205 : Value).ownBlock ∧ some k_ ≠ (.slice Ao90 t213.length co90 : Value).ownBlock) (Kd.R_keptB (HO_213001.out) hkp (fun k_ hk_ hs_ => (hk_.2) hs_)) (fun k_ hk_ => ⟨hk_.1.1, hk_.1.2⟩)); have n3_ := Aside0.mk (blk_kept (by (with_reducible repeat (first | refine blk_drewN ?_ _ | refine blk_drew ?_ | refine blk_alloc ?_ _)); exact BK198.out) hkp (fun hs_ => (fun e_ => (Kd.R_ne HO_7.out BK198.out (by decide)) e_) hs_)); have n4_ := Aside0.mk (blk_kept (by (with_reducible repeat (first | refine blk_drewN ?_ _ | refine blk_drew ?_ | refine blk_alloc ?_ _)); exact BK212.out) hkp (fun hs_ => (fun e_ => (Kd.R_ne HO_7.out BK212.out (by decide)) e_) hs_)); have n5_ := Aside0.mk (hb); clear HO_4; clear HO_7; clear HO_213001; clear BK198; clear BK212; clear HB; have HO_4 := n0_; have HO_7 := n1_; have HO_213001 := n2_; have BK198 := n3_; have BK212 := n4_; have HB := n5_; clear n0_ n1_ n2_ n3_ n4_ n5_; (try clear hb); (try clear hkp); (try clear hy0)) | ((with_reducible refine gate_callee (f := 28) rfl ?_); refine goesL_ (some 67) rfl rfl Tryd.func28 (by kernel_rfl) rfl #[.slice Ao90 t227.length co90, .int .i64 1] rfl (by (try simp only [List.map_toArray, List.map_cons, List.map_nil]); first | done | (rw [show t227.length = t213.length from (Kd.R_reads' HO_7.out).1.symm] <;> rfl) | rfl | (simp only [List.length_drop, List.length_take]; rfl)) ?_; (with_reducible refine (laws_heldFieldS.calls kj38 _ _ t227 1 t228 _ ?side1 ?side2 A58.out).mono ?_); (case side1 => repeat (first | exact (Kd.R_reads' HO_7.out).2.2 | (with_reducible refine Kd.C_alloc ?_ _) | (with_reducible refine Kd.C_drewN ?_ _) | (with_reducible refine Kd.C_drew ?_))); (case side2 => rw [show t227.length = t213.length from (Kd.R_reads' HO_7.out).1.symm]; exact (Kd.R_reads' HO_7.out).2.1); rintro e w92 ⟨rfl, hb⟩; refine ⟨_, rfl, ?_⟩; have n0_ := Aside0.mk (Kd.R_below (by (with_reducible repeat (first | apply Kd.R_alloc | apply Kd.R_drewN | apply Kd.R_drew)); exact HO_4.out) hb); have n1_ := Aside0.mk (Kd.R_below (by (with_reducible repeat (first | apply Kd.R_alloc | apply Kd.R_drewN | apply Kd.R_drew)); exact HO_7.out) hb); have n2_ := Aside0.mk (Kd.R_below (by (with_reducible repeat (first | apply Kd.R_alloc | apply Kd.R_drewN | apply Kd.R_drew)); exact HO_213001.out) hb); have n3_ := Aside0.mk (blk_below (g := gb198) (o := .cells #[.int .i64 a0_0, .slice A0_1 l0_1.length c0_1] 53 (0, 0)) (by (with_reducible repeat (first | refine blk_drewN ?_ _ | refine blk_drew ?_ | refine blk_alloc ?_ _)); exact BK198.out) hb); have n4_ := Aside0.mk (blk_below (g := gb212) (o := .cells #[.int .i64 t208, .slice Ao24 t224.length co24] 57 (0, 0)) (by (with_reducible repeat (first | refine blk_drewN ?_ _ | refine blk_drew ?_ | refine blk_alloc ?_ _)); exact BK212.out) hb); have n5_ := Aside0.mk (below_step (by repeat (first | (with_reducible first | exact HB.out | apply below_alloc | apply pw_below_drewN | apply below_drew1 | refine below_set ?_ GE198.out | refine below_set ?_ GE212.out) | exact HB.out)) hb); clear HO_4; clear HO_7; clear HO_213001; clear BK198; clear BK212; clear HB; have HO_4 := n0_; have HO_7 := n1_; have HO_213001 := n2_; have BK198 := n3_; have BK212 := n4_; have HB := n5_; clear n0_ n1_ n2_ n3_ n4_ n5_; (try clear hb); (try clear hb2); (try clear hk); (try clear hi)))
                      go_ret
                      exact ⟨by first | rfl | (simp [errW_none, errW_some] <;> rfl) | (simp [*, errW_none, errW_some] <;> rfl), by repeat (first | (with_reducible first | exact HB.out | apply below_alloc | apply pw_below_drewN | apply below_drew1 | refine below_set ?_ GE198.out | refine below_set ?_ GE212.out) | exact HB.out)⟩
          · replace c37 := Bool.eq_false_iff.mpr c37
            subst c37
            have H1 : (some false) = some r := by rw [if_neg (show ¬ (false = true) by decide)] at H; exact H
            clear H
            have H := H1
            clear H1
            obtain rfl := Option.some.inj H
            try go_wp2
            have n0_ := Aside0.mk (Kd.R_drew HO_4.out)
            have n1_ := Aside0.mk (Kd.R_drew HO_7.out)
            have n2_ := Aside0.mk (Kd.R_drew HO_213001.out)
            have n3_ := Aside0.mk (blk_drew BK198.out)
            have n4_ := Aside0.mk (blk_drew BK212.out)
            have n5_ := Aside0.mk (below_drew1 HB.out)
            clear HO_4
            clear HO_7
            clear HO_213001
            clear BK198
            clear BK212
            clear HB
            have HO_4 := n0_
            have HO_7 := n1_
            have HO_213001 := n2_
            have BK198 := n3_
            have BK212 := n4_
            have HB := n5_
            clear n0_ n1_ n2_ n3_ n4_ n5_
            refine start_ (n := 5) (S := fun w' => w'.cell? ⟨gb212, 0, none⟩ = some (.int .i64 t208) ∧ w'.cell? ⟨gb212, 1, none⟩ = some (.slice Ao24 t209.length co24) ∧ w'.cell? ⟨gb198, 0, none⟩ = some (.int .i64 a0_0) ∧ w'.cell? ⟨gb198, 1, none⟩ = some (.slice A0_1 l0_1.length c0_1)) (ds := []) #[false, false, false, false, false] (by kernel_rfl) rfl rfl ⟨(blk_cell BK212.out 0).trans rfl, (blk_cell BK212.out 1).trans rfl, (blk_cell BK198.out 0).trans rfl, (blk_cell BK198.out 1).trans rfl⟩ (fun hHeld => ?_)
            generalize wc.drew = w93 at HO_4 HO_7 HO_213001 BK198 BK212 HB hHeld ⊢
            refine take_ (i := 0) (N := some 41) (v := ?_) (a' := ?_) #[true, false, false, false, false] rfl rfl (by kernel_rfl) (fun _ _ _ h => h) (Or.inl ⟨by rfl, ?_⟩) hHeld ?_ ?_
            rotate_left
            · rintro w' ⟨s0, s1, s2, s3⟩
              go_simp
              with_reducible rfl
            rotate_left
            · simp only [Act.put, List.setIfInBounds_toArray, List.set_cons_zero, List.set_cons_succ, i64_w, i32_w]
              rfl
            refine take_ (i := 1) (N := some 42) (v := ?_) (a' := ?_) #[true, true, false, false, false] rfl rfl (by kernel_rfl) (fun _ _ _ h => h) (Or.inl ⟨by rfl, ?_⟩) hHeld ?_ ?_
            rotate_left
            · rintro w' ⟨s0, s1, s2, s3⟩
              go_simp
              with_reducible rfl
            rotate_left
            · simp only [Act.put, List.setIfInBounds_toArray, List.set_cons_zero, List.set_cons_succ, i64_w, i32_w]
              rfl
            refine one_ (i := 2) (N := some 43) #[true, true, true, false, false] rfl rfl (by kernel_rfl) (by decide) (fun K hK => ?_)
            refine goes_ Tryd.func34 (by kernel_rfl) rfl #[.agg #[.int .i64 a0_0, .slice A0_1 l0_1.length c0_1]] (by rfl) rfl rfl (by (try simp only [List.map_toArray, List.map_cons, List.map_nil]); first | done | rfl | (simp only [List.length_drop, List.length_take]; rfl)) ?_
            with_reducible refine (laws_toResponse.calls kj10 a0_0 _ _ l0_1 t218 t219 _ ?side1 ?side2 A35.out).mono ?_
            (case side1 => repeat (first | exact (Kd.C_below HR0_1.out HB.out) | (with_reducible refine Kd.C_alloc ?_ _) | (with_reducible refine Kd.C_drewN ?_ _) | (with_reducible refine Kd.C_drew ?_)))
            (case side2 => exact HC0_1.out)
            rintro e w94 ⟨v220, rfl, ho0, hb⟩
            refine ⟨_, rfl, ?_⟩
            have n0_ := Aside0.mk (Kd.R_elder' (by (with_reducible repeat (first | apply Kd.R_alloc | apply Kd.R_drewN | apply Kd.R_drew)); exact HO_4.out) (Kd.R_base ho0) hb)
            have n1_ := Aside0.mk (Kd.R_elder' (by (with_reducible repeat (first | apply Kd.R_alloc | apply Kd.R_drewN | apply Kd.R_drew)); exact HO_7.out) (Kd.R_base ho0) hb)
            have n2_ := Aside0.mk (Kd.R_elder' (by (with_reducible repeat (first | apply Kd.R_alloc | apply Kd.R_drewN | apply Kd.R_drew)); exact HO_213001.out) (Kd.R_base ho0) hb)
            have n3_ := Aside0.mk (Kd.R_lower (Kd.R_new' (Kd.R_new' (Kd.R_new' ho0 (Kd.R_lt (by (with_reducible repeat (first | apply Kd.R_alloc | apply Kd.R_drewN | apply Kd.R_drew)); exact HO_4.out))) (Kd.R_lt (by (with_reducible repeat (first | apply Kd.R_alloc | apply Kd.R_drewN | apply Kd.R_drew)); exact HO_7.out))) (Kd.R_lt (by (with_reducible repeat (first | apply Kd.R_alloc | apply Kd.R_drewN | apply Kd.R_drew)); exact HO_213001.out))) (below_size (by repeat (first | (with_reducible first | exact HB.out | apply below_alloc | apply pw_below_drewN | apply below_drew1 | refine below_set ?_ GE198.out | refine below_set ?_ GE212.out) | exact HB.out))))
            have n4_ := Aside0.mk (blk_below (g := gb198) (o := .cells #[.int .i64 a0_0, .slice A0_1 l0_1.length c0_1] 53 (0, 0)) (by (with_reducible repeat (first | refine blk_drewN ?_ _ | refine blk_drew ?_ | refine blk_alloc ?_ _)); exact BK198.out) hb)
            have n5_ := Aside0.mk (blk_below (g := gb212) (o := .cells #[.int .i64 t208, .slice Ao24 t209.length co24] 57 (0, 0)) (by (with_reducible repeat (first | refine blk_drewN ?_ _ | refine blk_drew ?_ | refine blk_alloc ?_ _)); exact BK212.out) hb)
            have n6_ := Aside0.mk (below_step (by repeat (first | (with_reducible first | exact HB.out | apply below_alloc | apply pw_below_drewN | apply below_drew1 | refine below_set ?_ GE198.out | refine below_set ?_ GE212.out) | exact HB.out)) hb)
            clear HO_4
            clear HO_7
            clear HO_213001
            clear BK198
            clear BK212
            clear HB
            have HO_4 := n0_
            have HO_7 := n1_
            have HO_213001 := n2_
            have HO221 := n3_
            have BK198 := n4_
            have BK212 := n5_
            have HB := n6_
            clear n0_ n1_ n2_ n3_ n4_ n5_ n6_
            (try clear hb)
            (try clear hb2)
            (try clear hk)
            (try clear hi)
            (try clear ho0)
            obtain ⟨Ao95, co95, eo95⟩ := Kd.R_slice HO221.out
            (first | subst eo95 | (injection eo95 with f1_ f2_ f3_; have f4_ := f1_.symm; have f5_ := f3_.symm; clear f1_ f2_ f3_; subst f4_; subst f5_))
            refine hK.out _ _ ⟨(blk_cell BK212.out 0).trans rfl, (blk_cell BK212.out 1).trans rfl, (blk_cell BK198.out 0).trans rfl, (blk_cell BK198.out 1).trans rfl⟩ (fun hHeld => ?_)
            clear hK K
            refine norm_ (a' := ?_) ?_ ?_
            rotate_left
            · show Act.put _ (some 43) _ = _
              simp only [Act.put, List.setIfInBounds_toArray, List.set_cons_zero, List.set_cons_succ, i64_w, i32_w]
              rfl
            refine one_ (i := 3) (N := some 44) #[true, true, true, true, false] rfl rfl (by kernel_rfl) (by decide) (fun K hK => ?_)
            refine goes_ Tryd.func36 (by kernel_rfl) rfl #[.agg #[.int .i64 t208, .slice Ao24 t209.length co24], .agg #[.int .i64 t218, .slice Ao95 t219.length co95]] (by rfl) rfl rfl (by (try simp only [List.map_toArray, List.map_cons, List.map_nil]); first | done | rfl | (simp only [List.length_drop, List.length_take]; rfl)) ?_
            with_reducible refine (laws_eqResponse.calls kj10 t208 _ _ t209 t218 _ _ t219 false _ ?side1 ?side2 ?side3 ?side4 A36.out).mono ?_
            (case side1 => repeat (first | exact (Kd.R_reads' HO_213001.out).2.2 | (with_reducible refine Kd.C_alloc ?_ _) | (with_reducible refine Kd.C_drewN ?_ _) | (with_reducible refine Kd.C_drew ?_)))
            (case side2 => exact (Kd.R_reads' HO_213001.out).2.1)
            (case side3 => repeat (first | exact (Kd.R_reads' HO221.out).2.2 | (with_reducible refine Kd.C_alloc ?_ _) | (with_reducible refine Kd.C_drewN ?_ _) | (with_reducible refine Kd.C_drew ?_)))
            (case side4 => exact (Kd.R_reads' HO221.out).2.1)
            rintro e w96 ⟨rfl, hb⟩
            refine ⟨_, rfl, ?_⟩
            have n0_ := Aside0.mk (Kd.R_below (by (with_reducible repeat (first | apply Kd.R_alloc | apply Kd.R_drewN | apply Kd.R_drew)); exact HO_4.out) hb)
            have n1_ := Aside0.mk (Kd.R_below (by (with_reducible repeat (first | apply Kd.R_alloc | apply Kd.R_drewN | apply Kd.R_drew)); exact HO_7.out) hb)
            have n2_ := Aside0.mk (Kd.R_below (by (with_reducible repeat (first | apply Kd.R_alloc | apply Kd.R_drewN | apply Kd.R_drew)); exact HO_213001.out) hb)
            have n3_ := Aside0.mk (Kd.R_below (by (with_reducible repeat (first | apply Kd.R_alloc | apply Kd.R_drewN | apply Kd.R_drew)); exact HO221.out) hb)
            have n4_ := Aside0.mk (blk_below (g := gb198) (o := .cells #[.int .i64 a0_0, .slice A0_1 l0_1.length c0_1] 53 (0, 0)) (by (with_reducible repeat (first | refine blk_drewN ?_ _ | refine blk_drew ?_ | refine blk_alloc ?_ _)); exact BK198.out) hb)
            have n5_ := Aside0.mk (blk_below (g := gb212) (o := .cells #[.int .i64 t208, .slice Ao24 t209.length co24] 57 (0, 0)) (by (with_reducible repeat (first | refine blk_drewN ?_ _ | refine blk_drew ?_ | refine blk_alloc ?_ _)); exact BK212.out) hb)
            have n6_ := Aside0.mk (below_step (by repeat (first | (with_reducible first | exact HB.out | apply below_alloc | apply pw_below_drewN | apply below_drew1 | refine below_set ?_ GE198.out | refine below_set ?_ GE212.out) | exact HB.out)) hb)
            clear HO_4
            clear HO_7
            clear HO_213001
            clear HO221
            clear BK198
            clear BK212
            clear HB
            have HO_4 := n0_
            have HO_7 := n1_
            have HO_213001 := n2_
            have HO221 := n3_
            have BK198 := n4_
            have BK212 := n5_
            have HB := n6_
            clear n0_ n1_ n2_ n3_ n4_ n5_ n6_
            (try clear hb)
            (try clear hb2)
            (try clear hk)
            (try clear hi)
            refine hK.out _ _ ⟨(blk_cell BK212.out 0).trans rfl, (blk_cell BK212.out 1).trans rfl, (blk_cell BK198.out 0).trans rfl, (blk_cell BK198.out 1).trans rfl⟩ (fun hHeld => ?_)
            clear hK K
            refine norm_ (a' := ?_) ?_ ?_
            rotate_left
            · show Act.put _ (some 44) _ = _
              simp only [Act.put, List.setIfInBounds_toArray, List.set_cons_zero, List.set_cons_succ, i64_w, i32_w]
              rfl
            refine pure_ (i := 4) (N := some 45) (v := ?_) (a' := ?_) #[true, true, true, true, true] rfl rfl (by kernel_rfl) (fun _ _ _ h => h) (Or.inl ⟨by rfl, ?_⟩) ?_ ?_
            rotate_left
            · intro w'
              go_simp
              with_reducible rfl
            rotate_left
            · simp only [Act.put, List.setIfInBounds_toArray, List.set_cons_zero, List.set_cons_succ, i64_w, i32_w]
              rfl
            refine done_ (by kernel_rfl) ?_
            try go_wp2
            go_ret
            exact ⟨by first | rfl | (simp [errW_none, errW_some] <;> rfl) | (simp [*, errW_none, errW_some] <;> rfl), by repeat (first | (with_reducible first | exact HB.out | apply below_alloc | apply pw_below_drewN | apply below_drew1 | refine below_set ?_ GE198.out | refine below_set ?_ GE212.out) | exact HB.out)⟩

end Go.Proofs.YtkcimmlaoipdkaaDoor.PFnExactResponseFields
