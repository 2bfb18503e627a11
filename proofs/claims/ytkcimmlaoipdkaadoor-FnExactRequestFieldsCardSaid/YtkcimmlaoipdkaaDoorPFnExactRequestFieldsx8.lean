-- Written by a program of this repo (xprint.py) out of the translation; Lean checks it.
import Derived.Test.YtkcimmlaoipdkaaDoorPFnExactRequestFieldsx0
import Derived.Test.YtkcimmlaoipdkaaDoorPFnExactRequestFieldsx1
import Derived.Test.YtkcimmlaoipdkaaDoorPFnExactRequestFieldsx4
import Derived.Test.YtkcimmlaoipdkaaDoorPFnExactRequestFieldsx6
import Derived.Test.YtkcimmlaoipdkaaDoorPFnExactRequestFieldsx7
namespace Go.Proofs.YtkcimmlaoipdkaaDoor.PFnExactRequestFields
open Go.RowKit Go.Proofs.YtkcimmlaoipdkaaDoorW.PrintWords Go.Proofs.YtkcimmlaoipdkaaDoorW.PrintLast Go.Proofs.YtkcimmlaoipdkaaDoorW.PrintMore
attribute [local go_sem] max2_int min2_int max_two min_two max_three min_three max_four min_four   -- for this text's walks alone
set_option linter.unusedVariables false
set_option linter.unusedSimpArgs false

/-! ### laws_FnExactRequestFields: function 7 -/
mutual
def laws_FnExactRequestFields.j0 : Nat → List (S78) → Int → List (S78) → Int → Bool → ByteArray → ByteArray → ByteArray → ByteArray → List (S77) → ByteArray → ByteArray → ByteArray → ByteArray → List (S78) → Option (Bool)
  | 0, _, _, _, _, _, _, _, _, _, _, _, _, _, _, _ => none
  | k + 1, x4, x5, x7, x8, x40, x229000, x229001, x229002, x229003, x229004, x249000, x249001, x249002, x249003, x249004 => if x40 = true then (some false) else ((laws_toRequest.f k x229000 x229001 x229002 x229003 x229004).bind fun bt254 => ((laws_eqRequest.f k x249000 x249001 x249002 x249003 x249004 bt254.1 bt254.2.1 bt254.2.2.1 bt254.2.2.2.1 bt254.2.2.2.2).bind fun t261 => (if t261 = true then ((laws_markRequest.f k x249000 x249001 x249002 x249003 x249004 1).bind fun bt262 => (if bt262.1 < 0 then (laws_FnExactRequestFields.j1 k x4 x5 x7 true x229000 x229001 x229002 x229003 x229004) else ((laws_eqFieldS.f k x7 x4).bind fun t264 => (if t264 = true then (laws_FnExactRequestFields.j1 k x4 x5 x7 (x8 != x5) x229000 x229001 x229002 x229003 x229004) else (laws_FnExactRequestFields.j1 k x4 x5 x7 true x229000 x229001 x229002 x229003 x229004))))) else (some false))))
def laws_FnExactRequestFields.j1 : Nat → List (S78) → Int → List (S78) → Bool → ByteArray → ByteArray → ByteArray → ByteArray → List (S77) → Option (Bool)
  | 0, _, _, _, _, _, _, _, _, _ => none
  | k + 1, x4, x5, x7, x61, x229000, x229001, x229002, x229003, x229004 => if x61 = true then (some false) else ((laws_markFieldS.f k x7 1).bind fun bt265 => ((laws_heldFieldS.f k bt265.2 1).bind fun t267 => (if t267 < 0 then (some false) else (if t267 = bt265.1 then ((laws_toRequest.f k x229000 x229001 x229002 x229003 x229004).bind fun bt268 => ((impl_RequestFields.f k bt268.1 bt268.2.1 bt268.2.2.1 bt268.2.2.2.1 bt268.2.2.2.2).bind fun bt275 => ((laws_eqFieldS.f k bt275.1 x4).bind fun t279 => (if t279 = true then (laws_FnExactRequestFields.j2 k bt265.2 bt265.1 (bt275.2 != x5)) else (laws_FnExactRequestFields.j2 k bt265.2 bt265.1 true))))) else (some false)))))
def laws_FnExactRequestFields.j2 : Nat → List (S78) → Int → Bool → Option (Bool)
  | 0, _, _, _ => none
  | k + 1, x7, x10, x87 => if x87 = true then (some false) else ((laws_heldFieldS.f k x7 1).bind fun t280 => (if t280 < 0 then (some false) else (if t280 = x10 then (some true) else (some false))))
end
def laws_FnExactRequestFields.f (k : Nat) (a0_0 : ByteArray) (a0_1 : ByteArray) (a0_2 : ByteArray) (a0_3 : ByteArray) (l0_4 : List (S77)) : Option (Bool) := (laws_szRequest.f k a0_0 a0_1 a0_2 a0_3 l0_4 1048576).bind fun t229 => (if t229 < 0 then (some true) else ((laws_toRequest.f k a0_0 a0_1 a0_2 a0_3 l0_4).bind fun bt230 => ((spec_RequestFields.f k bt230.1 bt230.2.1 bt230.2.2.1 bt230.2.2.2.1 bt230.2.2.2.2).bind fun bt237 => ((laws_toRequest.f k a0_0 a0_1 a0_2 a0_3 l0_4).bind fun bt241 => ((impl_RequestFields.f k bt241.1 bt241.2.1 bt241.2.2.1 bt241.2.2.2.1 bt241.2.2.2.2).bind fun bt249 => ((laws_eqFieldS.f k bt249.1 bt237.1).bind fun t253 => (if t253 = true then (laws_FnExactRequestFields.j0 k bt237.1 bt237.2 bt249.1 bt249.2 (bt249.2 != bt237.2) a0_0 a0_1 a0_2 a0_3 l0_4 bt241.1 bt241.2.1 bt241.2.2.1 bt241.2.2.2.1 bt241.2.2.2.2) else (laws_FnExactRequestFields.j0 k bt237.1 bt237.2 bt249.1 bt249.2 true a0_0 a0_1 a0_2 a0_3 l0_4 bt241.1 bt241.2.1 bt241.2.2.1 bt241.2.2.2.1 bt241.2.2.2.2))))))))
theorem laws_FnExactRequestFields.mono_l : ∀ k, (∀ y0 y1 y2 y3 y4 y5 y6 y7 y8 y9 y10 y11 y12 y13 y14, LeO (laws_FnExactRequestFields.j0 k y0 y1 y2 y3 y4 y5 y6 y7 y8 y9 y10 y11 y12 y13 y14) (laws_FnExactRequestFields.j0 (k + 1) y0 y1 y2 y3 y4 y5 y6 y7 y8 y9 y10 y11 y12 y13 y14)) ∧ (∀ y0 y1 y2 y3 y4 y5 y6 y7 y8, LeO (laws_FnExactRequestFields.j1 k y0 y1 y2 y3 y4 y5 y6 y7 y8) (laws_FnExactRequestFields.j1 (k + 1) y0 y1 y2 y3 y4 y5 y6 y7 y8)) ∧ (∀ y0 y1 y2, LeO (laws_FnExactRequestFields.j2 k y0 y1 y2) (laws_FnExactRequestFields.j2 (k + 1) y0 y1 y2))
  | 0 => ⟨fun _ _ _ _ _ _ _ _ _ _ _ _ _ _ _ r h => by simp [laws_FnExactRequestFields.j0] at h, fun _ _ _ _ _ _ _ _ _ r h => by simp [laws_FnExactRequestFields.j1] at h, fun _ _ _ r h => by simp [laws_FnExactRequestFields.j2] at h⟩
  | k + 1 => by
    obtain ⟨ih0, ih1, ih2⟩ := laws_FnExactRequestFields.mono_l k
    refine ⟨?_, ?_, ?_⟩
    · intro y0 y1 y2 y3 y4 y5 y6 y7 y8 y9 y10 y11 y12 y13 y14
      unfold laws_FnExactRequestFields.j0
      repeat' first
      | (with_reducible exact ih0 _ _ _ _ _ _ _ _ _ _ _ _ _ _ _)
      | (with_reducible exact ih1 _ _ _ _ _ _ _ _ _)
      | (with_reducible exact ih2 _ _ _)
      | (with_reducible exact impl_RequestFields.mono _ _ _ _ _ _)
      | (with_reducible exact laws_eqFieldS.mono _ _ _)
      | (with_reducible exact laws_eqRequest.mono _ _ _ _ _ _ _ _ _ _ _)
      | (with_reducible exact laws_heldFieldS.mono _ _ _)
      | (with_reducible exact laws_markFieldS.mono _ _ _)
      | (with_reducible exact laws_markRequest.mono _ _ _ _ _ _ _)
      | (with_reducible exact laws_szRequest.mono _ _ _ _ _ _ _)
      | (with_reducible exact laws_toRequest.mono _ _ _ _ _ _)
      | (with_reducible exact spec_RequestFields.mono _ _ _ _ _ _)
      | (with_reducible exact LeO.refl _)
      | (with_reducible exact LeO.none _)
      | (with_reducible refine LeO.ite ?_ ?_)
      | (with_reducible refine LeO.bind ?_ (fun _ => ?_))
      | exact ih0 _ _ _ _ _ _ _ _ _ _ _ _ _ _ _
      | exact ih1 _ _ _ _ _ _ _ _ _
      | exact ih2 _ _ _
      | exact impl_RequestFields.mono _ _ _ _ _ _
      | exact laws_eqFieldS.mono _ _ _
      | exact laws_eqRequest.mono _ _ _ _ _ _ _ _ _ _ _
      | exact laws_heldFieldS.mono _ _ _
      | exact laws_markFieldS.mono _ _ _
      | exact laws_markRequest.mono _ _ _ _ _ _ _
      | exact laws_szRequest.mono _ _ _ _ _ _ _
      | exact laws_toRequest.mono _ _ _ _ _ _
      | exact spec_RequestFields.mono _ _ _ _ _ _
      | exact LeO.none _
      | refine LeO.ite ?_ ?_
      | refine LeO.bind ?_ (fun _ => ?_)
    · intro y0 y1 y2 y3 y4 y5 y6 y7 y8
      unfold laws_FnExactRequestFields.j1
      repeat' first
      | (with_reducible exact ih0 _ _ _ _ _ _ _ _ _ _ _ _ _ _ _)
      | (with_reducible exact ih1 _ _ _ _ _ _ _ _ _)
      | (with_reducible exact ih2 _ _ _)
      | (with_reducible exact impl_RequestFields.mono _ _ _ _ _ _)
      | (with_reducible exact laws_eqFieldS.mono _ _ _)
      | (with_reducible exact laws_eqRequest.mono _ _ _ _ _ _ _ _ _ _ _)
      | (with_reducible exact laws_heldFieldS.mono _ _ _)
      | (with_reducible exact laws_markFieldS.mono _ _ _)
      | (with_reducible exact laws_markRequest.mono _ _ _ _ _ _ _)
      | (with_reducible exact laws_szRequest.mono _ _ _ _ _ _ _)
      | (with_reducible exact laws_toRequest.mono _ _ _ _ _ _)
      | (with_reducible exact spec_RequestFields.mono _ _ _ _ _ _)
      | (with_reducible exact LeO.refl _)
      | (with_reducible exact LeO.none _)
      | (with_reducible refine LeO.ite ?_ ?_)
      | (with_reducible refine LeO.bind ?_ (fun _ => ?_))
      | exact ih0 _ _ _ _ _ _ _ _ _ _ _ _ _ _ _
      | exact ih1 _ _ _ _ _ _ _ _ _
      | exact ih2 _ _ _
      | exact impl_RequestFields.mono _ _ _ _ _ _
      | exact laws_eqFieldS.mono _ _ _
      | exact laws_eqRequest.mono _ _ _ _ _ _ _ _ _ _ _
      | exact laws_heldFieldS.mono _ _ _
      | exact laws_markFieldS.mono _ _ _
      | exact laws_markRequest.mono _ _ _ _ _ _ _
      | exact laws_szRequest.mono _ _ _ _ _ _ _
      | exact laws_toRequest.mono _ _ _ _ _ _
      | exact spec_RequestFields.mono _ _ _ _ _ _
      | exact LeO.none _
      | refine LeO.ite ?_ ?_
      | refine LeO.bind ?_ (fun _ => ?_)
    · intro y0 y1 y2
      unfold laws_FnExactRequestFields.j2
      repeat' first
      | (with_reducible exact ih0 _ _ _ _ _ _ _ _ _ _ _ _ _ _ _)
      | (with_reducible exact ih1 _ _ _ _ _ _ _ _ _)
      | (with_reducible exact ih2 _ _ _)
      | (with_reducible exact impl_RequestFields.mono _ _ _ _ _ _)
      | (with_reducible exact laws_eqFieldS.mono _ _ _)
      | (with_reducible exact laws_eqRequest.mono _ _ _ _ _ _ _ _ _ _ _)
      | (with_reducible exact laws_heldFieldS.mono _ _ _)
      | (with_reducible exact laws_markFieldS.mono _ _ _)
      | (with_reducible exact laws_markRequest.mono _ _ _ _ _ _ _)
      | (with_reducible exact laws_szRequest.mono _ _ _ _ _ _ _)
      | (with_reducible exact laws_toRequest.mono _ _ _ _ _ _)
      | (with_reducible exact spec_RequestFields.mono _ _ _ _ _ _)
      | (with_reducible exact LeO.refl _)
      | (with_reducible exact LeO.none _)
      | (with_reducible refine LeO.ite ?_ ?_)
      | (with_reducible refine LeO.bind ?_ (fun _ => ?_))
      | exact ih0 _ _ _ _ _ _ _ _ _ _ _ _ _ _ _
      | exact ih1 _ _ _ _ _ _ _ _ _
      | exact ih2 _ _ _
      | exact impl_RequestFields.mono _ _ _ _ _ _
      | exact laws_eqFieldS.mono _ _ _
      | exact laws_eqRequest.mono _ _ _ _ _ _ _ _ _ _ _
      | exact laws_heldFieldS.mono _ _ _
      | exact laws_markFieldS.mono _ _ _
      | exact laws_markRequest.mono _ _ _ _ _ _ _
      | exact laws_szRequest.mono _ _ _ _ _ _ _
      | exact laws_toRequest.mono _ _ _ _ _ _
      | exact spec_RequestFields.mono _ _ _ _ _ _
      | exact LeO.none _
      | refine LeO.ite ?_ ?_
      | refine LeO.bind ?_ (fun _ => ?_)
theorem laws_FnExactRequestFields.mono : ∀ a0 a1 a2 a3 a4 k, LeO (laws_FnExactRequestFields.f k a0 a1 a2 a3 a4) (laws_FnExactRequestFields.f (k + 1) a0 a1 a2 a3 a4) := by
  intro a0 a1 a2 a3 a4 k
  obtain ⟨ih0, ih1, ih2⟩ := laws_FnExactRequestFields.mono_l k
  unfold laws_FnExactRequestFields.f
  repeat' first
      | (with_reducible exact ih0 _ _ _ _ _ _ _ _ _ _ _ _ _ _ _)
      | (with_reducible exact ih1 _ _ _ _ _ _ _ _ _)
      | (with_reducible exact ih2 _ _ _)
      | (with_reducible exact impl_RequestFields.mono _ _ _ _ _ _)
      | (with_reducible exact laws_eqFieldS.mono _ _ _)
      | (with_reducible exact laws_eqRequest.mono _ _ _ _ _ _ _ _ _ _ _)
      | (with_reducible exact laws_heldFieldS.mono _ _ _)
      | (with_reducible exact laws_markFieldS.mono _ _ _)
      | (with_reducible exact laws_markRequest.mono _ _ _ _ _ _ _)
      | (with_reducible exact laws_szRequest.mono _ _ _ _ _ _ _)
      | (with_reducible exact laws_toRequest.mono _ _ _ _ _ _)
      | (with_reducible exact spec_RequestFields.mono _ _ _ _ _ _)
      | (with_reducible exact LeO.refl _)
      | (with_reducible exact LeO.none _)
      | (with_reducible refine LeO.ite ?_ ?_)
      | (with_reducible refine LeO.bind ?_ (fun _ => ?_))
      | exact ih0 _ _ _ _ _ _ _ _ _ _ _ _ _ _ _
      | exact ih1 _ _ _ _ _ _ _ _ _
      | exact ih2 _ _ _
      | exact impl_RequestFields.mono _ _ _ _ _ _
      | exact laws_eqFieldS.mono _ _ _
      | exact laws_eqRequest.mono _ _ _ _ _ _ _ _ _ _ _
      | exact laws_heldFieldS.mono _ _ _
      | exact laws_markFieldS.mono _ _ _
      | exact laws_markRequest.mono _ _ _ _ _ _ _
      | exact laws_szRequest.mono _ _ _ _ _ _ _
      | exact laws_toRequest.mono _ _ _ _ _ _
      | exact spec_RequestFields.mono _ _ _ _ _ _
      | exact LeO.none _
      | refine LeO.ite ?_ ?_
      | refine LeO.bind ?_ (fun _ => ?_)
set_option maxHeartbeats 8000000 in
set_option maxRecDepth 100000 in
theorem laws_FnExactRequestFields.calls (k : Nat) (a0_0 : ByteArray) (a0_1 : ByteArray) (a0_2 : ByteArray) (a0_3 : ByteArray) (A0_4 : Option Addr) (c0_4 : Nat) (l0_4 : List (S77)) (r : Bool) (w : World) (hr0_4 : Kd.C k77 w A0_4 l0_4.length l0_4) (hc0_4 : l0_4.length ≤ c0_4) (h : laws_FnExactRequestFields.f k a0_0 a0_1 a0_2 a0_3 l0_4 = some r) :
    Calls Tryd.prog 7 #[.agg #[.string a0_0, .string a0_1, .string a0_2, .string a0_3, .slice A0_4 l0_4.length c0_4]] w fun e w' => e = .returned (.bool r) ∧ Below w.heap.size w w' := by
  have hu39 := Tryd.underlying39
  have hu44 := Tryd.underlying44
  have HR0_4 := Aside0.mk hr0_4
  have HC0_4 := Aside0.mk hc0_4
  clear hr0_4 hc0_4
  have HB := Aside0.mk (Below.refl w.heap.size w)
  have H : ((laws_szRequest.f k a0_0 a0_1 a0_2 a0_3 l0_4 1048576).bind fun t229 => (if t229 < 0 then (some true) else ((laws_toRequest.f k a0_0 a0_1 a0_2 a0_3 l0_4).bind fun bt230 => ((spec_RequestFields.f k bt230.1 bt230.2.1 bt230.2.2.1 bt230.2.2.2.1 bt230.2.2.2.2).bind fun bt237 => ((laws_toRequest.f k a0_0 a0_1 a0_2 a0_3 l0_4).bind fun bt241 => ((impl_RequestFields.f k bt241.1 bt241.2.1 bt241.2.2.1 bt241.2.2.2.1 bt241.2.2.2.2).bind fun bt249 => ((laws_eqFieldS.f k bt249.1 bt237.1).bind fun t253 => (if t253 = true then (laws_FnExactRequestFields.j0 k bt237.1 bt237.2 bt249.1 bt249.2 (bt249.2 != bt237.2) a0_0 a0_1 a0_2 a0_3 l0_4 bt241.1 bt241.2.1 bt241.2.2.1 bt241.2.2.2.1 bt241.2.2.2.2) else (laws_FnExactRequestFields.j0 k bt237.1 bt237.2 bt249.1 bt249.2 true a0_0 a0_1 a0_2 a0_3 l0_4 bt241.1 bt241.2.1 bt241.2.2.1 bt241.2.2.2.1 bt241.2.2.2.2))))))))) = some r := h
  clear h
  replace H := Option.bind_eq_some_iff.mp H
  obtain ⟨t229, A20, H⟩ := H
  replace H : (if t229 < 0 then (some true) else ((laws_toRequest.f k a0_0 a0_1 a0_2 a0_3 l0_4).bind fun bt230 => ((spec_RequestFields.f k bt230.1 bt230.2.1 bt230.2.2.1 bt230.2.2.2.1 bt230.2.2.2.2).bind fun bt237 => ((laws_toRequest.f k a0_0 a0_1 a0_2 a0_3 l0_4).bind fun bt241 => ((impl_RequestFields.f k bt241.1 bt241.2.1 bt241.2.2.1 bt241.2.2.2.1 bt241.2.2.2.2).bind fun bt249 => ((laws_eqFieldS.f k bt249.1 bt237.1).bind fun t253 => (if t253 = true then (laws_FnExactRequestFields.j0 k bt237.1 bt237.2 bt249.1 bt249.2 (bt249.2 != bt237.2) a0_0 a0_1 a0_2 a0_3 l0_4 bt241.1 bt241.2.1 bt241.2.2.1 bt241.2.2.2.1 bt241.2.2.2.2) else (laws_FnExactRequestFields.j0 k bt237.1 bt237.2 bt249.1 bt249.2 true a0_0 a0_1 a0_2 a0_3 l0_4 bt241.1 bt241.2.1 bt241.2.2.1 bt241.2.2.2.1 bt241.2.2.2.2)))))))) = some r := H
  have A2 := Aside0.mk A20
  clear A20
  by_cases c3 : t229 < 0
  · rw [if_pos c3] at H
    have c3b0 : decide (t229 < 0) = true := decide_eq_true c3
    clear c3
    obtain rfl := Option.some.inj H
    go_enter Tryd.func7, Tryd.ntmps7
    go_wp2_with (first | ((with_reducible refine gate_dst (N := 1) rfl ?_); refine box_event ?hg (N := 1) ?hd (cs := #[.string a0_0, .string a0_1, .string a0_2, .string a0_3, .slice A0_4 l0_4.length c0_4]) (t := 39) ?hr ?_; (case hd => rfl); (case hg => rfl); (case hr => first | (go_simp; done) | (go_simp; rfl)); intro gb228 hg w4 hbox hb; have n0_ := Aside0.mk (below_step (by repeat (first | (with_reducible first | exact HB.out | apply below_alloc | apply pw_below_drewN | apply below_drew1) | exact HB.out)) hb); have n1_ := Aside0.mk (hbox); have n2_ := Aside0.mk ((by rw [hg]; exact (below_size (by repeat (first | (with_reducible first | exact HB.out | apply below_alloc | apply pw_below_drewN | apply below_drew1) | exact HB.out))) : w.heap.size ≤ gb228)); have n3_ := Aside0.mk ((by rw [hg]; exact (below_size (by repeat (first | (with_reducible first | exact HB.out | apply below_alloc | apply pw_below_drewN | apply below_drew1) | exact HB.out))) : w.heap.size ≤ gb228)); clear HB; have HB := n0_; have BK228 := n1_; have GW228 := n2_; have GE228 := n3_; clear n0_ n1_ n2_ n3_; clear hb hbox hg; have hcz5_0 : w4.cell? ⟨gb228, 0, none⟩ = some (.string a0_0) := (blk_cell BK228.out 0).trans rfl; have hcz5_1 : w4.cell? ⟨gb228, 1, none⟩ = some (.string a0_1) := (blk_cell BK228.out 1).trans rfl; have hcz5_2 : w4.cell? ⟨gb228, 2, none⟩ = some (.string a0_2) := (blk_cell BK228.out 2).trans rfl; have hcz5_3 : w4.cell? ⟨gb228, 3, none⟩ = some (.string a0_3) := (blk_cell BK228.out 3).trans rfl; have hcz5_4 : w4.cell? ⟨gb228, 4, none⟩ = some (.slice A0_4 l0_4.length c0_4) := (blk_cell BK228.out 4).trans rfl; have hfz5_0 := blk_frozen BK228.out 0; have hfz5_1 := blk_frozen BK228.out 1; have hfz5_2 := blk_frozen BK228.out 2; have hfz5_3 := blk_frozen BK228.out 3; have hfz5_4 := blk_frozen BK228.out 4) | ((with_reducible refine gate_callee (f := 21) rfl ?_); refine goesL_ (some 16) rfl rfl Tryd.func21 (by kernel_rfl) rfl #[.agg #[.string a0_0, .string a0_1, .string a0_2, .string a0_3, .slice A0_4 l0_4.length c0_4], .int .i64 1048576] rfl (by (try simp only [List.map_toArray, List.map_cons, List.map_nil]); first | done | rfl | (simp only [List.length_drop, List.length_take]; rfl)) ?_; (with_reducible refine (laws_szRequest.calls k a0_0 a0_1 a0_2 a0_3 _ _ l0_4 1048576 t229 _ ?side1 ?side2 A2.out).mono ?_); (case side1 => repeat (first | exact (Kd.C_below HR0_4.out HB.out) | (with_reducible refine Kd.C_alloc ?_ _) | (with_reducible refine Kd.C_drewN ?_ _) | (with_reducible refine Kd.C_drew ?_))); (case side2 => exact HC0_4.out); rintro e w6 ⟨rfl, hb⟩; refine ⟨_, rfl, ?_⟩; have n0_ := Aside0.mk (blk_below (g := gb228) (o := .cells #[.string a0_0, .string a0_1, .string a0_2, .string a0_3, .slice A0_4 l0_4.length c0_4] 39 (0, 0)) (by (with_reducible repeat (first | refine blk_drewN ?_ _ | refine blk_drew ?_ | refine blk_alloc ?_ _)); exact BK228.out) hb); have n1_ := Aside0.mk (below_step (by repeat (first | (with_reducible first | exact HB.out | apply below_alloc | apply pw_below_drewN | apply below_drew1 | refine below_set ?_ GE228.out) | exact HB.out)) hb); clear BK228; clear HB; have BK228 := n0_; have HB := n1_; clear n0_ n1_; (try clear hb); (try clear hb2); (try clear hk); (try clear hi)))
    go_ret
    exact ⟨by first | rfl | (simp [errW_none, errW_some] <;> rfl) | (simp [*, errW_none, errW_some] <;> rfl), by repeat (first | (with_reducible first | exact HB.out | apply below_alloc | apply pw_below_drewN | apply below_drew1 | refine below_set ?_ GE228.out) | exact HB.out)⟩
  · rw [if_neg c3] at H
    have c3b0 : decide (t229 < 0) = false := decide_eq_false c3
    clear c3
    replace H := Option.bind_eq_some_iff.mp H
    obtain ⟨⟨t230, t231, t232, t233, t234⟩, A70, H⟩ := H
    replace H : ((spec_RequestFields.f k t230 t231 t232 t233 t234).bind fun bt237 => ((laws_toRequest.f k a0_0 a0_1 a0_2 a0_3 l0_4).bind fun bt241 => ((impl_RequestFields.f k bt241.1 bt241.2.1 bt241.2.2.1 bt241.2.2.2.1 bt241.2.2.2.2).bind fun bt249 => ((laws_eqFieldS.f k bt249.1 bt237.1).bind fun t253 => (if t253 = true then (laws_FnExactRequestFields.j0 k bt237.1 bt237.2 bt249.1 bt249.2 (bt249.2 != bt237.2) a0_0 a0_1 a0_2 a0_3 l0_4 bt241.1 bt241.2.1 bt241.2.2.1 bt241.2.2.2.1 bt241.2.2.2.2) else (laws_FnExactRequestFields.j0 k bt237.1 bt237.2 bt249.1 bt249.2 true a0_0 a0_1 a0_2 a0_3 l0_4 bt241.1 bt241.2.1 bt241.2.2.1 bt241.2.2.2.1 bt241.2.2.2.2)))))) = some r := H
    have A7 := Aside0.mk A70
    clear A70
    replace H := Option.bind_eq_some_iff.mp H
    obtain ⟨⟨t237, t240⟩, A80, H⟩ := H
    replace H : ((laws_toRequest.f k a0_0 a0_1 a0_2 a0_3 l0_4).bind fun bt241 => ((impl_RequestFields.f k bt241.1 bt241.2.1 bt241.2.2.1 bt241.2.2.2.1 bt241.2.2.2.2).bind fun bt249 => ((laws_eqFieldS.f k bt249.1 t237).bind fun t253 => (if t253 = true then (laws_FnExactRequestFields.j0 k t237 t240 bt249.1 bt249.2 (bt249.2 != t240) a0_0 a0_1 a0_2 a0_3 l0_4 bt241.1 bt241.2.1 bt241.2.2.1 bt241.2.2.2.1 bt241.2.2.2.2) else (laws_FnExactRequestFields.j0 k t237 t240 bt249.1 bt249.2 true a0_0 a0_1 a0_2 a0_3 l0_4 bt241.1 bt241.2.1 bt241.2.2.1 bt241.2.2.2.1 bt241.2.2.2.2))))) = some r := H
    have A8 := Aside0.mk A80
    clear A80
    replace H := Option.bind_eq_some_iff.mp H
    obtain ⟨⟨t241, t242, t243, t244, t245⟩, A90, H⟩ := H
    replace H : ((impl_RequestFields.f k t241 t242 t243 t244 t245).bind fun bt249 => ((laws_eqFieldS.f k bt249.1 t237).bind fun t253 => (if t253 = true then (laws_FnExactRequestFields.j0 k t237 t240 bt249.1 bt249.2 (bt249.2 != t240) a0_0 a0_1 a0_2 a0_3 l0_4 t241 t242 t243 t244 t245) else (laws_FnExactRequestFields.j0 k t237 t240 bt249.1 bt249.2 true a0_0 a0_1 a0_2 a0_3 l0_4 t241 t242 t243 t244 t245)))) = some r := H
    have A9 := Aside0.mk A90
    clear A90
    replace H := Option.bind_eq_some_iff.mp H
    obtain ⟨⟨t249, t252⟩, A100, H⟩ := H
    replace H : ((laws_eqFieldS.f k t249 t237).bind fun t253 => (if t253 = true then (laws_FnExactRequestFields.j0 k t237 t240 t249 t252 (t252 != t240) a0_0 a0_1 a0_2 a0_3 l0_4 t241 t242 t243 t244 t245) else (laws_FnExactRequestFields.j0 k t237 t240 t249 t252 true a0_0 a0_1 a0_2 a0_3 l0_4 t241 t242 t243 t244 t245))) = some r := H
    have A10 := Aside0.mk A100
    clear A100
    have HC11 := Aside0.mk H
    clear H
    go_enter Tryd.func7, Tryd.ntmps7
    go_upto_region 8 with (first | ((with_reducible refine gate_dst (N := 1) rfl ?_); refine box_event ?hg (N := 1) ?hd (cs := #[.string a0_0, .string a0_1, .string a0_2, .string a0_3, .slice A0_4 l0_4.length c0_4]) (t := 39) ?hr ?_; (case hd => rfl); (case hg => rfl); (case hr => first | (go_simp; done) | (go_simp; rfl)); intro gb228 hg w12 hbox hb; have n0_ := Aside0.mk (below_step (by repeat (first | (with_reducible first | exact HB.out | apply below_alloc | apply pw_below_drewN | apply below_drew1) | exact HB.out)) hb); have n1_ := Aside0.mk (hbox); have n2_ := Aside0.mk ((by rw [hg]; exact (below_size (by repeat (first | (with_reducible first | exact HB.out | apply below_alloc | apply pw_below_drewN | apply below_drew1) | exact HB.out))) : w.heap.size ≤ gb228)); have n3_ := Aside0.mk ((by rw [hg]; exact (below_size (by repeat (first | (with_reducible first | exact HB.out | apply below_alloc | apply pw_below_drewN | apply below_drew1) | exact HB.out))) : w.heap.size ≤ gb228)); clear HB; have HB := n0_; have BK228 := n1_; have GW228 := n2_; have GE228 := n3_; clear n0_ n1_ n2_ n3_; clear hb hbox hg; have hcz13_0 : w12.cell? ⟨gb228, 0, none⟩ = some (.string a0_0) := (blk_cell BK228.out 0).trans rfl; have hcz13_1 : w12.cell? ⟨gb228, 1, none⟩ = some (.string a0_1) := (blk_cell BK228.out 1).trans rfl; have hcz13_2 : w12.cell? ⟨gb228, 2, none⟩ = some (.string a0_2) := (blk_cell BK228.out 2).trans rfl; have hcz13_3 : w12.cell? ⟨gb228, 3, none⟩ = some (.string a0_3) := (blk_cell BK228.out 3).trans rfl; have hcz13_4 : w12.cell? ⟨gb228, 4, none⟩ = some (.slice A0_4 l0_4.length c0_4) := (blk_cell BK228.out 4).trans rfl; have hfz13_0 := blk_frozen BK228.out 0; have hfz13_1 := blk_frozen BK228.out 1; have hfz13_2 := blk_frozen BK228.out 2; have hfz13_3 := blk_frozen BK228.out 3; have hfz13_4 := blk_frozen BK228.out 4) | ((with_reducible refine gate_callee (f := 21) rfl ?_); refine goesL_ (some 16) rfl rfl Tryd.func21 (by kernel_rfl) rfl #[.agg #[.string a0_0, .string a0_1, .string a0_2, .string a0_3, .slice A0_4 l0_4.length c0_4], .int .i64 1048576] rfl (by (try simp only [List.map_toArray, List.map_cons, List.map_nil]); first | done | rfl | (simp only [List.length_drop, List.length_take]; rfl)) ?_; (with_reducible refine (laws_szRequest.calls k a0_0 a0_1 a0_2 a0_3 _ _ l0_4 1048576 t229 _ ?side1 ?side2 A2.out).mono ?_); (case side1 => repeat (first | exact (Kd.C_below HR0_4.out HB.out) | (with_reducible refine Kd.C_alloc ?_ _) | (with_reducible refine Kd.C_drewN ?_ _) | (with_reducible refine Kd.C_drew ?_))); (case side2 => exact HC0_4.out); rintro e w14 ⟨rfl, hb⟩; refine ⟨_, rfl, ?_⟩; have n0_ := Aside0.mk (blk_below (g := gb228) (o := .cells #[.string a0_0, .string a0_1, .string a0_2, .string a0_3, .slice A0_4 l0_4.length c0_4] 39 (0, 0)) (by (with_reducible repeat (first | refine blk_drewN ?_ _ | refine blk_drew ?_ | refine blk_alloc ?_ _)); exact BK228.out) hb); have n1_ := Aside0.mk (below_step (by repeat (first | (with_reducible first | exact HB.out | apply below_alloc | apply pw_below_drewN | apply below_drew1 | refine below_set ?_ GE228.out) | exact HB.out)) hb); clear BK228; clear HB; have BK228 := n0_; have HB := n1_; clear n0_ n1_; (try clear hb); (try clear hb2); (try clear hk); (try clear hi); have hcz15_0 : w14.cell? ⟨gb228, 0, none⟩ = some (.string a0_0) := (blk_cell BK228.out 0).trans rfl; have hcz15_1 : w14.cell? ⟨gb228, 1, none⟩ = some (.string a0_1) := (blk_cell BK228.out 1).trans rfl; have hcz15_2 : w14.cell? ⟨gb228, 2, none⟩ = some (.string a0_2) := (blk_cell BK228.out 2).trans rfl; have hcz15_3 : w14.cell? ⟨gb228, 3, none⟩ = some (.string a0_3) := (blk_cell BK228.out 3).trans rfl; have hcz15_4 : w14.cell? ⟨gb228, 4, none⟩ = some (.slice A0_4 l0_4.length c0_4) := (blk_cell BK228.out 4).trans rfl; have hfz15_0 := blk_frozen BK228.out 0; have hfz15_1 := blk_frozen BK228.out 1; have hfz15_2 := blk_frozen BK228.out 2; have hfz15_3 := blk_frozen BK228.out 3; have hfz15_4 := blk_frozen BK228.out 4) | ((with_reducible refine gate_callee (f := 23) rfl ?_); refine goesL_ (some 21) rfl rfl Tryd.func23 (by kernel_rfl) rfl #[.agg #[.string a0_0, .string a0_1, .string a0_2, .string a0_3, .slice A0_4 l0_4.length c0_4]] rfl (by (try simp only [List.map_toArray, List.map_cons, List.map_nil]); first | done | rfl | (simp only [List.length_drop, List.length_take]; rfl)) ?_; (with_reducible refine (laws_toRequest.calls k a0_0 a0_1 a0_2 a0_3 _ _ l0_4 t230 t231 t232 t233 t234 _ ?side1 ?side2 A7.out).mono ?_); (case side1 => repeat (first | exact (Kd.C_below HR0_4.out HB.out) | (with_reducible refine Kd.C_alloc ?_ _) | (with_reducible refine Kd.C_drewN ?_ _) | (with_reducible refine Kd.C_drew ?_))); (case side2 => exact HC0_4.out); rintro e w16 ⟨v235, rfl, ho0, hb⟩; refine ⟨_, rfl, ?_⟩; have n0_ := Aside0.mk (Kd.R_lower ho0 (below_size (by repeat (first | (with_reducible first | exact HB.out | apply below_alloc | apply pw_below_drewN | apply below_drew1 | refine below_set ?_ GE228.out) | exact HB.out)))); have n1_ := Aside0.mk (blk_below (g := gb228) (o := .cells #[.string a0_0, .string a0_1, .string a0_2, .string a0_3, .slice A0_4 l0_4.length c0_4] 39 (0, 0)) (by (with_reducible repeat (first | refine blk_drewN ?_ _ | refine blk_drew ?_ | refine blk_alloc ?_ _)); exact BK228.out) hb); have n2_ := Aside0.mk (below_step (by repeat (first | (with_reducible first | exact HB.out | apply below_alloc | apply pw_below_drewN | apply below_drew1 | refine below_set ?_ GE228.out) | exact HB.out)) hb); clear BK228; clear HB; have HO236 := n0_; have BK228 := n1_; have HB := n2_; clear n0_ n1_ n2_; (try clear hb); (try clear hb2); (try clear hk); (try clear hi); (try clear ho0); obtain ⟨Ao17, co17, eo17⟩ := Kd.R_slice HO236.out; subst eo17) | ((with_reducible refine gate_callee (f := 22) rfl ?_); refine goesL_ (some 22) rfl rfl Tryd.func22 (by kernel_rfl) rfl #[.agg #[.string t230, .string t231, .string t232, .string t233, .slice Ao17 t234.length co17]] rfl (by (try simp only [List.map_toArray, List.map_cons, List.map_nil]); first | done | rfl | (simp only [List.length_drop, List.length_take]; rfl)) ?_; (with_reducible refine (spec_RequestFields.calls k t230 t231 t232 t233 _ _ t234 t237 t240 _ ?side1 ?side2 A8.out).mono ?_); (case side1 => repeat (first | exact (Kd.R_reads' HO236.out).2.2 | (with_reducible refine Kd.C_alloc ?_ _) | (with_reducible refine Kd.C_drewN ?_ _) | (with_reducible refine Kd.C_drew ?_))); (case side2 => exact (Kd.R_reads' HO236.out).2.1); rintro e w18 ⟨v238, rfl, ho0, hb⟩; refine ⟨_, rfl, ?_⟩; have n0_ := Aside0.mk (Kd.R_elder' (by (with_reducible repeat (first | apply Kd.R_alloc | apply Kd.R_drewN | apply Kd.R_drew)); exact HO236.out) (Kd.R_base ho0) hb); have n1_ := Aside0.mk (Kd.R_lower (Kd.R_new' ho0 (Kd.R_lt (by (with_reducible repeat (first | apply Kd.R_alloc | apply Kd.R_drewN | apply Kd.R_drew)); exact HO236.out))) (below_size (by repeat (first | (with_reducible first | exact HB.out | apply below_alloc | apply pw_below_drewN | apply below_drew1 | refine below_set ?_ GE228.out) | exact HB.out)))); have n2_ := Aside0.mk (blk_below (g := gb228) (o := .cells #[.string a0_0, .string a0_1, .string a0_2, .string a0_3, .slice A0_4 l0_4.length c0_4] 39 (0, 0)) (by (with_reducible repeat (first | refine blk_drewN ?_ _ | refine blk_drew ?_ | refine blk_alloc ?_ _)); exact BK228.out) hb); have n3_ := Aside0.mk (below_step (by repeat (first | (with_reducible first | exact HB.out | apply below_alloc | apply pw_below_drewN | apply below_drew1 | refine below_set ?_ GE228.out) | exact HB.out)) hb); clear HO236; clear BK228; clear HB; have HO236 := n0_; have HO239 := n1_; have BK228 := n2_; have HB := n3_; clear n0_ n1_ n2_ n3_; (try clear hb); (try clear hb2); (try clear hk); (try clear hi); (try clear ho0); have hcz19_0 : w18.cell? ⟨gb228, 0, none⟩ = some (.string a0_0) := (blk_cell BK228.out 0).trans rfl; have hcz19_1 : w18.cell? ⟨gb228, 1, none⟩ = some (.string a0_1) := (blk_cell BK228.out 1).trans rfl; have hcz19_2 : w18.cell? ⟨gb228, 2, none⟩ = some (.string a0_2) := (blk_cell BK228.out 2).trans rfl; have hcz19_3 : w18.cell? ⟨gb228, 3, none⟩ = some (.string a0_3) := (blk_cell BK228.out 3).trans rfl; have hcz19_4 : w18.cell? ⟨gb228, 4, none⟩ = some (.slice A0_4 l0_4.length c0_4) := (blk_cell BK228.out 4).trans rfl; have hfz19_0 := blk_frozen BK228.out 0; have hfz19_1 := blk_frozen BK228.out 1; have hfz19_2 := blk_frozen BK228.out 2; have hfz19_3 := blk_frozen BK228.out 3; have hfz19_4 := blk_frozen BK228.out 4) | ((with_reducible refine gate_callee (f := 23) rfl ?_); refine goesL_ (some 26) rfl rfl Tryd.func23 (by kernel_rfl) rfl #[.agg #[.string a0_0, .string a0_1, .string a0_2, .string a0_3, .slice A0_4 l0_4.length c0_4]] rfl (by (try simp only [List.map_toArray, List.map_cons, List.map_nil]); first | done | rfl | (simp only [List.length_drop, List.length_take]; rfl)) ?_; (with_reducible refine (laws_toRequest.calls k a0_0 a0_1 a0_2 a0_3 _ _ l0_4 t241 t242 t243 t244 t245 _ ?side1 ?side2 A9.out).mono ?_); (case side1 => repeat (first | exact (Kd.C_below HR0_4.out HB.out) | (with_reducible refine Kd.C_alloc ?_ _) | (with_reducible refine Kd.C_drewN ?_ _) | (with_reducible refine Kd.C_drew ?_))); (case side2 => exact HC0_4.out); rintro e w20 ⟨v246, rfl, ho0, hb⟩; refine ⟨_, rfl, ?_⟩; have n0_ := Aside0.mk (Kd.R_elder' (by (with_reducible repeat (first | apply Kd.R_alloc | apply Kd.R_drewN | apply Kd.R_drew)); exact HO236.out) (Kd.R_base ho0) hb); have n1_ := Aside0.mk (Kd.R_elder' (by (with_reducible repeat (first | apply Kd.R_alloc | apply Kd.R_drewN | apply Kd.R_drew)); exact HO239.out) (Kd.R_base ho0) hb); have n2_ := Aside0.mk (Kd.R_lower (Kd.R_new' (Kd.R_new' ho0 (Kd.R_lt (by (with_reducible repeat (first | apply Kd.R_alloc | apply Kd.R_drewN | apply Kd.R_drew)); exact HO236.out))) (Kd.R_lt (by (with_reducible repeat (first | apply Kd.R_alloc | apply Kd.R_drewN | apply Kd.R_drew)); exact HO239.out))) (below_size (by repeat (first | (with_reducible first | exact HB.out | apply below_alloc | apply pw_below_drewN | apply below_drew1 | refine below_set ?_ GE228.out) | exact HB.out)))); have n3_ := Aside0.mk (blk_below (g := gb228) (o := .cells #[.string a0_0, .string a0_1, .string a0_2, .string a0_3, .slice A0_4 l0_4.length c0_4] 39 (0, 0)) (by (with_reducible repeat (first | refine blk_drewN ?_ _ | refine blk_drew ?_ | refine blk_alloc ?_ _)); exact BK228.out) hb); have n4_ := Aside0.mk (below_step (by repeat (first | (with_reducible first | exact HB.out | apply below_alloc | apply pw_below_drewN | apply below_drew1 | refine below_set ?_ GE228.out) | exact HB.out)) hb); clear HO236; clear HO239; clear BK228; clear HB; have HO236 := n0_; have HO239 := n1_; have HO247 := n2_; have BK228 := n3_; have HB := n4_; clear n0_ n1_ n2_ n3_ n4_; (try clear hb); (try clear hb2); (try clear hk); (try clear hi); (try clear ho0)) | ((with_reducible refine gate_dst (N := 6) rfl ?_); refine box_event ?hg (N := 6) ?hd (cs := #[.string (⟨#[]⟩ : ByteArray), .string (⟨#[]⟩ : ByteArray), .string (⟨#[]⟩ : ByteArray), .string (⟨#[]⟩ : ByteArray), .slice none 0 0]) (t := 44) ?hr ?_; (case hd => rfl); (case hg => rfl); (case hr => first | (go_simp; done) | (go_simp; rfl)); intro gb248 hg w21 hbox hb; have n0_ := Aside0.mk (Kd.R_below (by (with_reducible repeat (first | apply Kd.R_alloc | apply Kd.R_drewN | apply Kd.R_drew)); exact HO236.out) hb); have n1_ := Aside0.mk (Kd.R_below (by (with_reducible repeat (first | apply Kd.R_alloc | apply Kd.R_drewN | apply Kd.R_drew)); exact HO239.out) hb); have n2_ := Aside0.mk (Kd.R_below (by (with_reducible repeat (first | apply Kd.R_alloc | apply Kd.R_drewN | apply Kd.R_drew)); exact HO247.out) hb); have n3_ := Aside0.mk (blk_below (g := gb228) (o := .cells #[.string a0_0, .string a0_1, .string a0_2, .string a0_3, .slice A0_4 l0_4.length c0_4] 39 (0, 0)) (by (with_reducible repeat (first | refine blk_drewN ?_ _ | refine blk_drew ?_ | refine blk_alloc ?_ _)); exact BK228.out) hb); have n4_ := Aside0.mk (below_step (by repeat (first | (with_reducible first | exact HB.out | apply below_alloc | apply pw_below_drewN | apply below_drew1 | refine below_set ?_ GE228.out) | exact HB.out)) hb); have n5_ := Aside0.mk (hbox); have n6_ := Aside0.mk ((by rw [hg]; exact (below_size (by repeat (first | (with_reducible first | exact HB.out | apply below_alloc | apply pw_below_drewN | apply below_drew1 | refine below_set ?_ GE228.out) | exact HB.out))) : w.heap.size ≤ gb248)); have n7_ := Aside0.mk ((by rw [hg]; exact (below_size (by repeat (first | (with_reducible first | exact HB.out | apply below_alloc | apply pw_below_drewN | apply below_drew1 | refine below_set ?_ GE228.out) | exact HB.out))) : w.heap.size ≤ gb248)); have n8_ := Aside0.mk ((by rw [hg]; exact Nat.ne_of_lt (blk_lt (g := gb228) (o := .cells #[.string a0_0, .string a0_1, .string a0_2, .string a0_3, .slice A0_4 l0_4.length c0_4] 39 (0, 0)) (by (with_reducible repeat (first | refine blk_drewN ?_ _ | refine blk_drew ?_ | refine blk_alloc ?_ _)); exact BK228.out)) : gb228 ≠ gb248)); have n9_ := Aside0.mk ((by rw [hg]; exact Nat.ne_of_gt (blk_lt (g := gb228) (o := .cells #[.string a0_0, .string a0_1, .string a0_2, .string a0_3, .slice A0_4 l0_4.length c0_4] 39 (0, 0)) (by (with_reducible repeat (first | refine blk_drewN ?_ _ | refine blk_drew ?_ | refine blk_alloc ?_ _)); exact BK228.out)) : gb248 ≠ gb228)); clear HO236; clear HO239; clear HO247; clear BK228; clear HB; have HO236 := n0_; have HO239 := n1_; have HO247 := n2_; have BK228 := n3_; have HB := n4_; have BK248 := n5_; have GW248 := n6_; have GE248 := n7_; have NB228_248 := n8_; have NB248_228 := n9_; clear n0_ n1_ n2_ n3_ n4_ n5_ n6_ n7_ n8_ n9_; clear hb hbox hg; have hnb22 := NB248_228.out; have hnc22 := NB228_248.out; have hcz23_0 : w21.cell? ⟨gb248, 0, none⟩ = some (.string (⟨#[]⟩ : ByteArray)) := (blk_cell BK248.out 0).trans rfl; have hcz23_1 : w21.cell? ⟨gb248, 1, none⟩ = some (.string (⟨#[]⟩ : ByteArray)) := (blk_cell BK248.out 1).trans rfl; have hcz23_2 : w21.cell? ⟨gb248, 2, none⟩ = some (.string (⟨#[]⟩ : ByteArray)) := (blk_cell BK248.out 2).trans rfl; have hcz23_3 : w21.cell? ⟨gb248, 3, none⟩ = some (.string (⟨#[]⟩ : ByteArray)) := (blk_cell BK248.out 3).trans rfl; have hcz23_4 : w21.cell? ⟨gb248, 4, none⟩ = some (.slice none 0 0) := (blk_cell BK248.out 4).trans rfl; have hfz23_0 := blk_frozen BK248.out 0; have hfz23_1 := blk_frozen BK248.out 1; have hfz23_2 := blk_frozen BK248.out 2; have hfz23_3 := blk_frozen BK248.out 3; have hfz23_4 := blk_frozen BK248.out 4; obtain ⟨Ao24, co24, eo24⟩ := Kd.R_slice HO247.out; subst eo24) | ((with_reducible refine gate_callee (f := 24) rfl ?_); refine goesL_ (some 29) rfl rfl Tryd.func24 (by kernel_rfl) rfl #[.agg #[.string t241, .string t242, .string t243, .string t244, .slice Ao24 t245.length co24]] rfl (by (try simp only [List.map_toArray, List.map_cons, List.map_nil]); first | done | rfl | (simp only [List.length_drop, List.length_take]; rfl)) ?_; (with_reducible refine (impl_RequestFields.calls k t241 t242 t243 t244 _ _ t245 t249 t252 _ ?side1 ?side2 A10.out).mono ?_); (case side1 => refine (Kd.R_reads' (e := 78) (base := w.heap.size) (ok := fun k_ => ((True ∧ some k_ ≠ (.slice Ao17 t234.length co17 : Value).ownBlock) ∧ some k_ ≠ (v238 : Value).ownBlock)) (n := t245.length) (c := co24) ?_).2.2; exact (by (with_reducible repeat (first | apply Kd.R_alloc | apply Kd.R_drewN | apply Kd.R_drew)); exact (Kd.R_mono (Kd.R_far (p := ⟨gb248, 4, none⟩) (Kd.R_far (p := ⟨gb248, 3, none⟩) (Kd.R_far (p := ⟨gb248, 2, none⟩) (Kd.R_far (p := ⟨gb248, 1, none⟩) (Kd.R_far (p := ⟨gb248, 0, none⟩) (Kd.R_types HO247.out BK248.out (by decide)) (fun _ hk => hk.2) (.string t241)) (fun _ hk => hk.2) (.string t242)) (fun _ hk => hk.2) (.string t243)) (fun _ hk => hk.2) (.string t244)) (fun _ hk => hk.2) (.slice Ao24 t245.length co24)) (fun _ h_ => h_.1)))); (case side2 => exact (Kd.R_reads' HO247.out).2.1); rintro e w25 ⟨v250, rfl, ho0, hb⟩; refine ⟨_, rfl, ?_⟩; have n0_ := Aside0.mk (Kd.R_elder' (by (with_reducible repeat (first | apply Kd.R_alloc | apply Kd.R_drewN | apply Kd.R_drew)); exact (Kd.R_mono (Kd.R_far (p := ⟨gb248, 4, none⟩) (Kd.R_far (p := ⟨gb248, 3, none⟩) (Kd.R_far (p := ⟨gb248, 2, none⟩) (Kd.R_far (p := ⟨gb248, 1, none⟩) (Kd.R_far (p := ⟨gb248, 0, none⟩) (Kd.R_types HO236.out BK248.out (by decide)) (fun _ hk => hk.2) (.string t241)) (fun _ hk => hk.2) (.string t242)) (fun _ hk => hk.2) (.string t243)) (fun _ hk => hk.2) (.string t244)) (fun _ hk => hk.2) (.slice Ao24 t245.length co24)) (fun _ h_ => h_.1))) (Kd.R_base ho0) hb); have n1_ := Aside0.mk (Kd.R_elder' (by (with_reducible repeat (first | apply Kd.R_alloc | apply Kd.R_drewN | apply Kd.R_drew)); exact (Kd.R_mono (Kd.R_far (p := ⟨gb248, 4, none⟩) (Kd.R_far (p := ⟨gb248, 3, none⟩) (Kd.R_far (p := ⟨gb248, 2, none⟩) (Kd.R_far (p := ⟨gb248, 1, none⟩) (Kd.R_far (p := ⟨gb248, 0, none⟩) (Kd.R_types HO239.out BK248.out (by decide)) (fun _ hk => hk.2) (.string t241)) (fun _ hk => hk.2) (.string t242)) (fun _ hk => hk.2) (.string t243)) (fun _ hk => hk.2) (.string t244)) (fun _ hk => hk.2) (.slice Ao24 t245.length co24)) (fun _ h_ => h_.1))) (Kd.R_base ho0) hb); have n2_ := Aside0.mk (Kd.R_elder' (by (with_reducible repeat (first | apply Kd.R_alloc | apply Kd.R_drewN | apply Kd.R_drew)); exact (Kd.R_mono (Kd.R_far (p := ⟨gb248, 4, none⟩) (Kd.R_far (p := ⟨gb248, 3, none⟩) (Kd.R_far (p := ⟨gb248, 2, none⟩) (Kd.R_far (p := ⟨gb248, 1, none⟩) (Kd.R_far (p := ⟨gb248, 0, none⟩) (Kd.R_types HO247.out BK248.out (by decide)) (fun _ hk => hk.2) (.string t241)) (fun _ hk => hk.2) (.string t242)) (fun _ hk => hk.2) (.string t243)) (fun _ hk => hk.2) (.string t244)) (fun _ hk => hk.2) (.slice Ao24 t245.length co24)) (fun _ h_ => h_.1))) (Kd.R_base ho0) hb); have n3_ := Aside0.mk (Kd.R_lower (Kd.R_new' (Kd.R_new' (Kd.R_new' ho0 (Kd.R_lt (by (with_reducible repeat (first | apply Kd.R_alloc | apply Kd.R_drewN | apply Kd.R_drew)); exact (Kd.R_mono (Kd.R_far (p := ⟨gb248, 4, none⟩) (Kd.R_far (p := ⟨gb248, 3, none⟩) (Kd.R_far (p := ⟨gb248, 2, none⟩) (Kd.R_far (p := ⟨gb248, 1, none⟩) (Kd.R_far (p := ⟨gb248, 0, none⟩) (Kd.R_types HO236.out BK248.out (by decide)) (fun _ hk => hk.2) (.string t241)) (fun _ hk => hk.2) (.string t242)) (fun _ hk => hk.2) (.string t243)) (fun _ hk => hk.2) (.string t244)) (fun _ hk => hk.2) (.slice Ao24 t245.length co24)) (fun _ h_ => h_.1))))) (Kd.R_lt (by (with_reducible repeat (first | apply Kd.R_alloc | apply Kd.R_drewN | apply Kd.R_drew)); exact (Kd.R_mono (Kd.R_far (p := ⟨gb248, 4, none⟩) (Kd.R_far (p := ⟨gb248, 3, none⟩) (Kd.R_far (p := ⟨gb248, 2, none⟩) (Kd.R_far (p := ⟨gb248, 1, none⟩) (Kd.R_far (p := ⟨gb248, 0, none⟩) (Kd.R_types HO239.out BK248.out (by decide)) (fun _ hk => hk.2) (.string t241)) (fun _ hk => hk.2) (.string t242)) (fun _ hk => hk.2) (.string t243)) (fun _ hk => hk.2) (.string t244)) (fun _ hk => hk.2) (.slice Ao24 t245.length co24)) (fun _ h_ => h_.1))))) (Kd.R_lt (by (with_reducible repeat (first | apply Kd.R_alloc | apply Kd.R_drewN | apply Kd.R_drew)); exact (Kd.R_mono (Kd.R_far (p := ⟨gb248, 4, none⟩) (Kd.R_far (p := ⟨gb248, 3, none⟩) (Kd.R_far (p := ⟨gb248, 2, none⟩) (Kd.R_far (p := ⟨gb248, 1, none⟩) (Kd.R_far (p := ⟨gb248, 0, none⟩) (Kd.R_types HO247.out BK248.out (by decide)) (fun _ hk => hk.2) (.string t241)) (fun _ hk => hk.2) (.string t242)) (fun _ hk => hk.2) (.string t243)) (fun _ hk => hk.2) (.string t244)) (fun _ hk => hk.2) (.slice Ao24 t245.length co24)) (fun _ h_ => h_.1))))) (below_size (by repeat (first | (with_reducible first | exact HB.out | apply below_alloc | apply pw_below_drewN | apply below_drew1 | refine below_set ?_ GE228.out | refine below_set ?_ GE248.out) | exact HB.out)))); have n4_ := Aside0.mk (blk_below (g := gb228) (o := .cells #[.string a0_0, .string a0_1, .string a0_2, .string a0_3, .slice A0_4 l0_4.length c0_4] 39 (0, 0)) (by (with_reducible repeat (first | refine blk_drewN ?_ _ | refine blk_drew ?_ | refine blk_alloc ?_ _)); refine blk_far ?_ NB228_248.out _; (with_reducible repeat (first | refine blk_drewN ?_ _ | refine blk_drew ?_ | refine blk_alloc ?_ _)); refine blk_far ?_ NB228_248.out _; (with_reducible repeat (first | refine blk_drewN ?_ _ | refine blk_drew ?_ | refine blk_alloc ?_ _)); refine blk_far ?_ NB228_248.out _; (with_reducible repeat (first | refine blk_drewN ?_ _ | refine blk_drew ?_ | refine blk_alloc ?_ _)); refine blk_far ?_ NB228_248.out _; (with_reducible repeat (first | refine blk_drewN ?_ _ | refine blk_drew ?_ | refine blk_alloc ?_ _)); refine blk_far ?_ NB228_248.out _; (with_reducible repeat (first | refine blk_drewN ?_ _ | refine blk_drew ?_ | refine blk_alloc ?_ _)); exact BK228.out) hb); have n5_ := Aside0.mk (blk_below (g := gb248) (o := .cells #[.string t241, .string t242, .string t243, .string t244, .slice Ao24 t245.length co24] 44 (0, 0)) (by (with_reducible repeat (first | refine blk_drewN ?_ _ | refine blk_drew ?_ | refine blk_alloc ?_ _)); refine blk_put (cs := #[.string t241, .string t242, .string t243, .string t244, .slice none 0 0]) ?_ 4 _ rfl; (with_reducible repeat (first | refine blk_drewN ?_ _ | refine blk_drew ?_ | refine blk_alloc ?_ _)); refine blk_put (cs := #[.string t241, .string t242, .string t243, .string (⟨#[]⟩ : ByteArray), .slice none 0 0]) ?_ 3 _ rfl; (with_reducible repeat (first | refine blk_drewN ?_ _ | refine blk_drew ?_ | refine blk_alloc ?_ _)); refine blk_put (cs := #[.string t241, .string t242, .string (⟨#[]⟩ : ByteArray), .string (⟨#[]⟩ : ByteArray), .slice none 0 0]) ?_ 2 _ rfl; (with_reducible repeat (first | refine blk_drewN ?_ _ | refine blk_drew ?_ | refine blk_alloc ?_ _)); refine blk_put (cs := #[.string t241, .string (⟨#[]⟩ : ByteArray), .string (⟨#[]⟩ : ByteArray), .string (⟨#[]⟩ : ByteArray), .slice none 0 0]) ?_ 1 _ rfl; (with_reducible repeat (first | refine blk_drewN ?_ _ | refine blk_drew ?_ | refine blk_alloc ?_ _)); refine blk_put (cs := #[.string (⟨#[]⟩ : ByteArray), .string (⟨#[]⟩ : ByteArray), .string (⟨#[]⟩ : ByteArray), .string (⟨#[]⟩ : ByteArray), .slice none 0 0]) ?_ 0 _ rfl; (with_reducible repeat (first | refine blk_drewN ?_ _ | refine blk_drew ?_ | refine blk_alloc ?_ _)); exact BK248.out) hb); have n6_ := Aside0.mk (below_step (by repeat (first | (with_reducible first | exact HB.out | apply below_alloc | apply pw_below_drewN | apply below_drew1 | refine below_set ?_ GE228.out | refine below_set ?_ GE248.out) | exact HB.out)) hb); clear HO236; clear HO239; clear HO247; clear BK228; clear BK248; clear HB; have HO236 := n0_; have HO239 := n1_; have HO247 := n2_; have HO251 := n3_; have BK228 := n4_; have BK248 := n5_; have HB := n6_; clear n0_ n1_ n2_ n3_ n4_ n5_ n6_; (try clear hb); (try clear hb2); (try clear hk); (try clear hi); (try clear ho0)))
    (try simp only [Act.put, List.setIfInBounds_toArray, List.set_cons_zero, List.set_cons_succ])
    go_cut [40] (fun v40 wc => ∃ (kq : Nat) (x40_10 : Bool), v40 = .bool x40_10 ∧ Aside0 (laws_FnExactRequestFields.j0 kq t237 t240 t249 t252 x40_10 a0_0 a0_1 a0_2 a0_3 l0_4 t241 t242 t243 t244 t245 = some r) ∧ Aside0 (kq ≤ k) ∧ Aside0 (Kd.R k78 78 wc w.heap.size (fun k_ => some k_ ≠ (v250 : Value).ownBlock ∧ some k_ ≠ ((.slice Ao24 t245.length co24) : Value).ownBlock) v238 t237) ∧ Aside0 (Kd.R k78 78 wc w.heap.size (fun k_ => some k_ ≠ (v238 : Value).ownBlock ∧ some k_ ≠ ((.slice Ao24 t245.length co24) : Value).ownBlock) v250 t249) ∧ Aside0 (Kd.R k78 78 wc w.heap.size (fun k_ => some k_ ≠ (v238 : Value).ownBlock ∧ some k_ ≠ (v250 : Value).ownBlock) (.slice Ao24 t245.length co24) t245) ∧ Aside0 (wc.heap[gb228]? = some (.cells #[.string a0_0, .string a0_1, .string a0_2, .string a0_3, (.slice A0_4 l0_4.length c0_4)] 39 (0, 0))) ∧ Aside0 (wc.heap[gb248]? = some (.cells #[.string t241, .string t242, .string t243, .string t244, (.slice Ao24 t245.length co24)] 44 (0, 0))) ∧ Aside0 (Below w.heap.size w wc))
    case first =>
      have H := HC11.out
      clear HC11
      replace H := Option.bind_eq_some_iff.mp H
      obtain ⟨t253, A260, H⟩ := H
      replace H : (if t253 = true then (laws_FnExactRequestFields.j0 k t237 t240 t249 t252 (t252 != t240) a0_0 a0_1 a0_2 a0_3 l0_4 t241 t242 t243 t244 t245) else (laws_FnExactRequestFields.j0 k t237 t240 t249 t252 true a0_0 a0_1 a0_2 a0_3 l0_4 t241 t242 t243 t244 t245)) = some r := H
      have A26 := Aside0.mk A260
      clear A260
      by_cases c27 : t253 = true
      · subst c27
        have H1 : (laws_FnExactRequestFields.j0 k t237 t240 t249 t252 (t252 != t240) a0_0 a0_1 a0_2 a0_3 l0_4 t241 t242 t243 t244 t245) = some r := by rw [if_pos rfl] at H; exact H
        clear H
        have H := H1
        clear H1
        have H' := Aside0.mk H
        clear H
        obtain ⟨Ao28, co28, eo28⟩ := Kd.R_slice HO251.out
        subst eo28
        obtain ⟨Ao29, co29, eo29⟩ := Kd.R_slice HO239.out
        subst eo29
        go_wp2_with (first | ((with_reducible refine gate_callee (f := 20) rfl ?_); refine goesL_ (some 34) rfl rfl Tryd.func20 (by kernel_rfl) rfl #[.slice Ao28 t249.length co28, .slice Ao29 t237.length co29] rfl (by (try simp only [List.map_toArray, List.map_cons, List.map_nil]); first | done | rfl | (simp only [List.length_drop, List.length_take]; rfl)) ?_; (with_reducible refine (laws_eqFieldS.calls k _ _ t249 _ _ t237 true _ ?side1 ?side2 ?side3 ?side4 A26.out).mono ?_); (case side1 => repeat (first | exact (Kd.R_reads' HO251.out).2.2 | (with_reducible refine Kd.C_alloc ?_ _) | (with_reducible refine Kd.C_drewN ?_ _) | (with_reducible refine Kd.C_drew ?_))); (case side2 => exact (Kd.R_reads' HO251.out).2.1); (case side3 => repeat (first | exact (Kd.R_reads' HO239.out).2.2 | (with_reducible refine Kd.C_alloc ?_ _) | (with_reducible refine Kd.C_drewN ?_ _) | (with_reducible refine Kd.C_drew ?_))); (case side4 => exact (Kd.R_reads' HO239.out).2.1); rintro e w30 ⟨rfl, hb⟩; refine ⟨_, rfl, ?_⟩; have n0_ := Aside0.mk (Kd.R_below (by (with_reducible repeat (first | apply Kd.R_alloc | apply Kd.R_drewN | apply Kd.R_drew)); exact HO236.out) hb); have n1_ := Aside0.mk (Kd.R_below (by (with_reducible repeat (first | apply Kd.R_alloc | apply Kd.R_drewN | apply Kd.R_drew)); exact HO239.out) hb); have n2_ := Aside0.mk (Kd.R_below (by (with_reducible repeat (first | apply Kd.R_alloc | apply Kd.R_drewN | apply Kd.R_drew)); exact HO247.out) hb); have n3_ := Aside0.mk (Kd.R_below (by (with_reducible repeat (first | apply Kd.R_alloc | apply Kd.R_drewN | apply Kd.R_drew)); exact HO251.out) hb); have n4_ := Aside0.mk (blk_below (g := gb228) (o := .cells #[.string a0_0, .string a0_1, .string a0_2, .string a0_3, .slice A0_4 l0_4.length c0_4] 39 (0, 0)) (by (with_reducible repeat (first | refine blk_drewN ?_ _ | refine blk_drew ?_ | refine blk_alloc ?_ _)); exact BK228.out) hb); have n5_ := Aside0.mk (blk_below (g := gb248) (o := .cells #[.string t241, .string t242, .string t243, .string t244, .slice Ao24 t245.length co24] 44 (0, 0)) (by (with_reducible repeat (first | refine blk_drewN ?_ _ | refine blk_drew ?_ | refine blk_alloc ?_ _)); exact BK248.out) hb); have n6_ := Aside0.mk (below_step (by repeat (first | (with_reducible first | exact HB.out | apply below_alloc | apply pw_below_drewN | apply below_drew1 | refine below_set ?_ GE228.out | refine below_set ?_ GE248.out) | exact HB.out)) hb); clear HO236; clear HO239; clear HO247; clear HO251; clear BK228; clear BK248; clear HB; have HO236 := n0_; have HO239 := n1_; have HO247 := n2_; have HO251 := n3_; have BK228 := n4_; have BK248 := n5_; have HB := n6_; clear n0_ n1_ n2_ n3_ n4_ n5_ n6_; (try clear hb); (try clear hb2); (try clear hk); (try clear hi)))
        go_meet
        case rel => exact ⟨_, ((t252 != t240)), (by first | rfl | (simp; done) | (simp [*]; done)), H', ⟨by first | omega | exact Nat.le_refl _⟩, ⟨by (with_reducible repeat (first | apply Kd.R_alloc | apply Kd.R_drewN | apply Kd.R_drew)); exact Kd.R_mono HO239.out (fun _ hk => ⟨hk.2, hk.1.2⟩)⟩, ⟨by (with_reducible repeat (first | apply Kd.R_alloc | apply Kd.R_drewN | apply Kd.R_drew)); exact Kd.R_mono HO251.out (fun _ hk => ⟨hk.1.2, hk.2⟩)⟩, ⟨by (with_reducible repeat (first | apply Kd.R_alloc | apply Kd.R_drewN | apply Kd.R_drew)); exact Kd.R_mono HO247.out (fun _ hk => ⟨hk.1.2, hk.2⟩)⟩, ⟨by (with_reducible repeat (first | refine blk_drewN ?_ _ | refine blk_drew ?_ | refine blk_alloc ?_ _)); exact BK228.out⟩, ⟨by (with_reducible repeat (first | refine blk_drewN ?_ _ | refine blk_drew ?_ | refine blk_alloc ?_ _)); exact BK248.out⟩, ⟨by repeat (first | (with_reducible first | exact HB.out | apply below_alloc | apply pw_below_drewN | apply below_drew1 | refine below_set ?_ GE228.out | refine below_set ?_ GE248.out) | exact HB.out)⟩⟩
      · replace c27 := Bool.eq_false_iff.mpr c27
        subst c27
        have H1 : (laws_FnExactRequestFields.j0 k t237 t240 t249 t252 true a0_0 a0_1 a0_2 a0_3 l0_4 t241 t242 t243 t244 t245) = some r := by rw [if_neg (show ¬ (false = true) by decide)] at H; exact H
        clear H
        have H := H1
        clear H1
        have H' := Aside0.mk H
        clear H
        obtain ⟨Ao31, co31, eo31⟩ := Kd.R_slice HO251.out
        subst eo31
        obtain ⟨Ao32, co32, eo32⟩ := Kd.R_slice HO239.out
        subst eo32
        go_wp2_with (first | ((with_reducible refine gate_callee (f := 20) rfl ?_); refine goesL_ (some 34) rfl rfl Tryd.func20 (by kernel_rfl) rfl #[.slice Ao31 t249.length co31, .slice Ao32 t237.length co32] rfl (by (try simp only [List.map_toArray, List.map_cons, List.map_nil]); first | done | rfl | (simp only [List.length_drop, List.length_take]; rfl)) ?_; (with_reducible refine (laws_eqFieldS.calls k _ _ t249 _ _ t237 false _ ?side1 ?side2 ?side3 ?side4 A26.out).mono ?_); (case side1 => repeat (first | exact (Kd.R_reads' HO251.out).2.2 | (with_reducible refine Kd.C_alloc ?_ _) | (with_reducible refine Kd.C_drewN ?_ _) | (with_reducible refine Kd.C_drew ?_))); (case side2 => exact (Kd.R_reads' HO251.out).2.1); (case side3 => repeat (first | exact (Kd.R_reads' HO239.out).2.2 | (with_reducible refine Kd.C_alloc ?_ _) | (with_reducible refine Kd.C_drewN ?_ _) | (with_reducible refine Kd.C_drew ?_))); (case side4 => exact (Kd.R_reads' HO239.out).2.1); rintro e w33 ⟨rfl, hb⟩; refine ⟨_, rfl, ?_⟩; have n0_ := Aside0.mk (Kd.R_below (by (with_reducible repeat (first | apply Kd.R_alloc | apply Kd.R_drewN | apply Kd.R_drew)); exact HO236.out) hb); have n1_ := Aside0.mk (Kd.R_below (by (with_reducible repeat (first | apply Kd.R_alloc | apply Kd.R_drewN | apply Kd.R_drew)); exact HO239.out) hb); have n2_ := Aside0.mk (Kd.R_below (by (with_reducible repeat (first | apply Kd.R_alloc | apply Kd.R_drewN | apply Kd.R_drew)); exact HO247.out) hb); have n3_ := Aside0.mk (Kd.R_below (by (with_reducible repeat (first | apply Kd.R_alloc | apply Kd.R_drewN | apply Kd.R_drew)); exact HO251.out) hb); have n4_ := Aside0.mk (blk_below (g := gb228) (o := .cells #[.string a0_0, .string a0_1, .string a0_2, .string a0_3, .slice A0_4 l0_4.length c0_4] 39 (0, 0)) (by (with_reducible repeat (first | refine blk_drewN ?_ _ | refine blk_drew ?_ | refine blk_alloc ?_ _)); exact BK228.out) hb); have n5_ := Aside0.mk (blk_below (g := gb248) (o := .cells #[.string t241, .string t242, .string t243, .string t244, .slice Ao24 t245.length co24] 44 (0, 0)) (by (with_reducible repeat (first | refine blk_drewN ?_ _ | refine blk_drew ?_ | refine blk_alloc ?_ _)); exact BK248.out) hb); have n6_ := Aside0.mk (below_step (by repeat (first | (with_reducible first | exact HB.out | apply below_alloc | apply pw_below_drewN | apply below_drew1 | refine below_set ?_ GE228.out | refine below_set ?_ GE248.out) | exact HB.out)) hb); clear HO236; clear HO239; clear HO247; clear HO251; clear BK228; clear BK248; clear HB; have HO236 := n0_; have HO239 := n1_; have HO247 := n2_; have HO251 := n3_; have BK228 := n4_; have BK248 := n5_; have HB := n6_; clear n0_ n1_ n2_ n3_ n4_ n5_ n6_; (try clear hb); (try clear hb2); (try clear hk); (try clear hi)))
        go_meet
        case rel => exact ⟨_, (true), (by first | rfl | (simp; done) | (simp [*]; done)), H', ⟨by first | omega | exact Nat.le_refl _⟩, ⟨by (with_reducible repeat (first | apply Kd.R_alloc | apply Kd.R_drewN | apply Kd.R_drew)); exact Kd.R_mono HO239.out (fun _ hk => ⟨hk.2, hk.1.2⟩)⟩, ⟨by (with_reducible repeat (first | apply Kd.R_alloc | apply Kd.R_drewN | apply Kd.R_drew)); exact Kd.R_mono HO251.out (fun _ hk => ⟨hk.1.2, hk.2⟩)⟩, ⟨by (with_reducible repeat (first | apply Kd.R_alloc | apply Kd.R_drewN | apply Kd.R_drew)); exact Kd.R_mono HO247.out (fun _ hk => ⟨hk.1.2, hk.2⟩)⟩, ⟨by (with_reducible repeat (first | refine blk_drewN ?_ _ | refine blk_drew ?_ | refine blk_alloc ?_ _)); exact BK228.out⟩, ⟨by (with_reducible repeat (first | refine blk_drewN ?_ _ | refine blk_drew ?_ | refine blk_alloc ?_ _)); exact BK248.out⟩, ⟨by repeat (first | (with_reducible first | exact HB.out | apply below_alloc | apply pw_below_drewN | apply below_drew1 | refine below_set ?_ GE228.out | refine below_set ?_ GE248.out) | exact HB.out)⟩⟩
    case rest =>
      clear HC11
      try clear c2
      try clear p2
      try clear c3
      try clear c3b0
      try clear c7
      try clear c20
      try clear c21
      try clear c22
      try clear c23
      try clear c24
      try clear c27
      try clear hcz13_0
      try clear hcz13_1
      try clear hcz13_2
      try clear hcz13_3
      try clear hcz13_4
      try clear hcz15_0
      try clear hcz15_1
      try clear hcz15_2
      try clear hcz15_3
      try clear hcz15_4
      try clear hcz19_0
      try clear hcz19_1
      try clear hcz19_2
      try clear hcz19_3
      try clear hcz19_4
      try clear hcz23_0
      try clear hcz23_1
      try clear hcz23_2
      try clear hcz23_3
      try clear hcz23_4
      try clear hcz5_0
      try clear hcz5_1
      try clear hcz5_2
      try clear hcz5_3
      try clear hcz5_4
      try clear hfz13_0
      try clear hfz13_1
      try clear hfz13_2
      try clear hfz13_3
      try clear hfz13_4
      try clear hfz15_0
      try clear hfz15_1
      try clear hfz15_2
      try clear hfz15_3
      try clear hfz15_4
      try clear hfz19_0
      try clear hfz19_1
      try clear hfz19_2
      try clear hfz19_3
      try clear hfz19_4
      try clear hfz23_0
      try clear hfz23_1
      try clear hfz23_2
      try clear hfz23_3
      try clear hfz23_4
      try clear hfz5_0
      try clear hfz5_1
      try clear hfz5_2
      try clear hfz5_3
      try clear hfz5_4
      obtain ⟨kq, x40_10, rfl, HA, HJ10, HO_4, HO_7, HO_249004, BK228, BK248, HB⟩ := hcut
      cases kq with
      | zero => exact absurd HA.out (by simp [laws_FnExactRequestFields.j0])
      | succ kj10 =>
        have H := HA.out
        clear HA
        simp only [laws_FnExactRequestFields.j0] at H
        by_cases c34 : x40_10 = true
        · subst c34
          have H1 : (some false) = some r := by rw [if_pos rfl] at H; exact H
          clear H
          have H := H1
          clear H1
          obtain rfl := Option.some.inj H
          go_wp2
          go_ret
          exact ⟨by first | rfl | (simp [errW_none, errW_some] <;> rfl) | (simp [*, errW_none, errW_some] <;> rfl), by repeat (first | (with_reducible first | exact HB.out | apply below_alloc | apply pw_below_drewN | apply below_drew1 | refine below_set ?_ GE228.out | refine below_set ?_ GE248.out) | exact HB.out)⟩
        · replace c34 := Bool.eq_false_iff.mpr c34
          subst c34
          have H1 : ((laws_toRequest.f kj10 a0_0 a0_1 a0_2 a0_3 l0_4).bind fun bt254 => ((laws_eqRequest.f kj10 t241 t242 t243 t244 t245 bt254.1 bt254.2.1 bt254.2.2.1 bt254.2.2.2.1 bt254.2.2.2.2).bind fun t261 => (if t261 = true then ((laws_markRequest.f kj10 t241 t242 t243 t244 t245 1).bind fun bt262 => (if bt262.1 < 0 then (laws_FnExactRequestFields.j1 kj10 t237 t240 t249 true a0_0 a0_1 a0_2 a0_3 l0_4) else ((laws_eqFieldS.f kj10 t249 t237).bind fun t264 => (if t264 = true then (laws_FnExactRequestFields.j1 kj10 t237 t240 t249 (t252 != t240) a0_0 a0_1 a0_2 a0_3 l0_4) else (laws_FnExactRequestFields.j1 kj10 t237 t240 t249 true a0_0 a0_1 a0_2 a0_3 l0_4))))) else (some false)))) = some r := by rw [if_neg (show ¬ (false = true) by decide)] at H; exact H
          clear H
          have H := H1
          clear H1
          replace H := Option.bind_eq_some_iff.mp H
          obtain ⟨⟨t254, t255, t256, t257, t258⟩, A350, H⟩ := H
          replace H : ((laws_eqRequest.f kj10 t241 t242 t243 t244 t245 t254 t255 t256 t257 t258).bind fun t261 => (if t261 = true then ((laws_markRequest.f kj10 t241 t242 t243 t244 t245 1).bind fun bt262 => (if bt262.1 < 0 then (laws_FnExactRequestFields.j1 kj10 t237 t240 t249 true a0_0 a0_1 a0_2 a0_3 l0_4) else ((laws_eqFieldS.f kj10 t249 t237).bind fun t264 => (if t264 = true then (laws_FnExactRequestFields.j1 kj10 t237 t240 t249 (t252 != t240) a0_0 a0_1 a0_2 a0_3 l0_4) else (laws_FnExactRequestFields.j1 kj10 t237 t240 t249 true a0_0 a0_1 a0_2 a0_3 l0_4))))) else (some false))) = some r := H
          have A35 := Aside0.mk A350
          clear A350
          replace H := Option.bind_eq_some_iff.mp H
          obtain ⟨t261, A360, H⟩ := H
          replace H : (if t261 = true then ((laws_markRequest.f kj10 t241 t242 t243 t244 t245 1).bind fun bt262 => (if bt262.1 < 0 then (laws_FnExactRequestFields.j1 kj10 t237 t240 t249 true a0_0 a0_1 a0_2 a0_3 l0_4) else ((laws_eqFieldS.f kj10 t249 t237).bind fun t264 => (if t264 = true then (laws_FnExactRequestFields.j1 kj10 t237 t240 t249 (t252 != t240) a0_0 a0_1 a0_2 a0_3 l0_4) else (laws_FnExactRequestFields.j1 kj10 t237 t240 t249 true a0_0 a0_1 a0_2 a0_3 l0_4))))) else (some false)) = some r := H
          have A36 := Aside0.mk A360
          clear A360
          by_cases c37 : t261 = true
          · subst c37
            have H1 : ((laws_markRequest.f kj10 t241 t242 t243 t244 t245 1).bind fun bt262 => (if bt262.1 < 0 then (laws_FnExactRequestFields.j1 kj10 t237 t240 t249 true a0_0 a0_1 a0_2 a0_3 l0_4) else ((laws_eqFieldS.f kj10 t249 t237).bind fun t264 => (if t264 = true then (laws_FnExactRequestFields.j1 kj10 t237 t240 t249 (t252 != t240) a0_0 a0_1 a0_2 a0_3 l0_4) else (laws_FnExactRequestFields.j1 kj10 t237 t240 t249 true a0_0 a0_1 a0_2 a0_3 l0_4))))) = some r := by rw [if_pos rfl] at H; exact H
            clear H
            have H := H1
            clear H1
            replace H := Option.bind_eq_some_iff.mp H
            obtain ⟨⟨t262, t263⟩, A380, H⟩ := H
            replace H : (if t262 < 0 then (laws_FnExactRequestFields.j1 kj10 t237 t240 t249 true a0_0 a0_1 a0_2 a0_3 l0_4) else ((laws_eqFieldS.f kj10 t249 t237).bind fun t264 => (if t264 = true then (laws_FnExactRequestFields.j1 kj10 t237 t240 t249 (t252 != t240) a0_0 a0_1 a0_2 a0_3 l0_4) else (laws_FnExactRequestFields.j1 kj10 t237 t240 t249 true a0_0 a0_1 a0_2 a0_3 l0_4)))) = some r := H
            have A38 := Aside0.mk A380
            clear A380
            have HC39 := Aside0.mk H
            clear H
            try go_wp2
            have n0_ := Aside0.mk (Kd.R_drew HO_4.out)
            have n1_ := Aside0.mk (Kd.R_drew HO_7.out)
            have n2_ := Aside0.mk (Kd.R_drew HO_249004.out)
            have n3_ := Aside0.mk (blk_drew BK228.out)
            have n4_ := Aside0.mk (blk_drew BK248.out)
            have n5_ := Aside0.mk (below_drew1 HB.out)
            clear HO_4
            clear HO_7
            clear HO_249004
            clear BK228
            clear BK248
            clear HB
            have HO_4 := n0_
            have HO_7 := n1_
            have HO_249004 := n2_
            have BK228 := n3_
            have BK248 := n4_
            have HB := n5_
            clear n0_ n1_ n2_ n3_ n4_ n5_
            refine start_ (n := 5) (S := fun w' => w'.cell? ⟨gb248, 0, none⟩ = some (.string t241) ∧ w'.cell? ⟨gb248, 1, none⟩ = some (.string t242) ∧ w'.cell? ⟨gb248, 2, none⟩ = some (.string t243) ∧ w'.cell? ⟨gb248, 3, none⟩ = some (.string t244) ∧ w'.cell? ⟨gb248, 4, none⟩ = some (.slice Ao24 t245.length co24) ∧ w'.cell? ⟨gb228, 0, none⟩ = some (.string a0_0) ∧ w'.cell? ⟨gb228, 1, none⟩ = some (.string a0_1) ∧ w'.cell? ⟨gb228, 2, none⟩ = some (.string a0_2) ∧ w'.cell? ⟨gb228, 3, none⟩ = some (.string a0_3) ∧ w'.cell? ⟨gb228, 4, none⟩ = some (.slice A0_4 l0_4.length c0_4)) (ds := []) #[false, false, false, false, false] (by kernel_rfl) rfl rfl ⟨(blk_cell BK248.out 0).trans rfl, (blk_cell BK248.out 1).trans rfl, (blk_cell BK248.out 2).trans rfl, (blk_cell BK248.out 3).trans rfl, (blk_cell BK248.out 4).trans rfl, (blk_cell BK228.out 0).trans rfl, (blk_cell BK228.out 1).trans rfl, (blk_cell BK228.out 2).trans rfl, (blk_cell BK228.out 3).trans rfl, (blk_cell BK228.out 4).trans rfl⟩ (fun hHeld => ?_)
            generalize wc.drew = w40 at HO_4 HO_7 HO_249004 BK228 BK248 HB hHeld ⊢
            refine take_ (i := 0) (N := some 41) (v := ?_) (a' := ?_) #[true, false, false, false, false] rfl rfl (by kernel_rfl) (fun _ _ _ h => h) (Or.inl ⟨by rfl, ?_⟩) hHeld ?_ ?_
            rotate_left
            · rintro w' ⟨s0, s1, s2, s3, s4, s5, s6, s7, s8, s9⟩
              go_simp
              with_reducible rfl
            rotate_left
            · simp only [Act.put, List.setIfInBounds_toArray, List.set_cons_zero, List.set_cons_succ, i64_w, i32_w]
              rfl
            refine take_ (i := 1) (N := some 42) (v := ?_) (a' := ?_) #[true, true, false, false, false] rfl rfl (by kernel_rfl) (fun _ _ _ h => h) (Or.inl ⟨by rfl, ?_⟩) hHeld ?_ ?_
            rotate_left
            · rintro w' ⟨s0, s1, s2, s3, s4, s5, s6, s7, s8, s9⟩
              go_simp
              with_reducible rfl
            rotate_left
            · simp only [Act.put, List.setIfInBounds_toArray, List.set_cons_zero, List.set_cons_succ, i64_w, i32_w]
              rfl
            refine one_ (i := 2) (N := some 43) #[true, true, true, false, false] rfl rfl (by kernel_rfl) (by decide) (fun K hK => ?_)
            refine goes_ Tryd.func23 (by kernel_rfl) rfl #[.agg #[.string a0_0, .string a0_1, .string a0_2, .string a0_3, .slice A0_4 l0_4.length c0_4]] (by rfl) rfl rfl (by (try simp only [List.map_toArray, List.map_cons, List.map_nil]); first | done | rfl | (simp only [List.length_drop, List.length_take]; rfl)) ?_
            with_reducible refine (laws_toRequest.calls kj10 a0_0 a0_1 a0_2 a0_3 _ _ l0_4 t254 t255 t256 t257 t258 _ ?side1 ?side2 A35.out).mono ?_
            (case side1 => repeat (first | exact (Kd.C_below HR0_4.out HB.out) | (with_reducible refine Kd.C_alloc ?_ _) | (with_reducible refine Kd.C_drewN ?_ _) | (with_reducible refine Kd.C_drew ?_)))
            (case side2 => exact HC0_4.out)
            rintro e w41 ⟨v259, rfl, ho0, hb⟩
            refine ⟨_, rfl, ?_⟩
            have n0_ := Aside0.mk (Kd.R_elder' (by (with_reducible repeat (first | apply Kd.R_alloc | apply Kd.R_drewN | apply Kd.R_drew)); exact HO_4.out) (Kd.R_base ho0) hb)
            have n1_ := Aside0.mk (Kd.R_elder' (by (with_reducible repeat (first | apply Kd.R_alloc | apply Kd.R_drewN | apply Kd.R_drew)); exact HO_7.out) (Kd.R_base ho0) hb)
            have n2_ := Aside0.mk (Kd.R_elder' (by (with_reducible repeat (first | apply Kd.R_alloc | apply Kd.R_drewN | apply Kd.R_drew)); exact HO_249004.out) (Kd.R_base ho0) hb)
            have n3_ := Aside0.mk (Kd.R_lower (Kd.R_new' (Kd.R_new' (Kd.R_new' ho0 (Kd.R_lt (by (with_reducible repeat (first | apply Kd.R_alloc | apply Kd.R_drewN | apply Kd.R_drew)); exact HO_4.out))) (Kd.R_lt (by (with_reducible repeat (first | apply Kd.R_alloc | apply Kd.R_drewN | apply Kd.R_drew)); exact HO_7.out))) (Kd.R_lt (by (with_reducible repeat (first | apply Kd.R_alloc | apply Kd.R_drewN | apply Kd.R_drew)); exact HO_249004.out))) (below_size (by repeat (first | (with_reducible first | exact HB.out | apply below_alloc | apply pw_below_drewN | apply below_drew1 | refine below_set ?_ GE228.out | refine below_set ?_ GE248.out) | exact HB.out))))
            have n4_ := Aside0.mk (blk_below (g := gb228) (o := .cells #[.string a0_0, .string a0_1, .string a0_2, .string a0_3, .slice A0_4 l0_4.length c0_4] 39 (0, 0)) (by (with_reducible repeat (first | refine blk_drewN ?_ _ | refine blk_drew ?_ | refine blk_alloc ?_ _)); exact BK228.out) hb)
            have n5_ := Aside0.mk (blk_below (g := gb248) (o := .cells #[.string t241, .string t242, .string t243, .string t244, .slice Ao24 t245.length co24] 44 (0, 0)) (by (with_reducible repeat (first | refine blk_drewN ?_ _ | refine blk_drew ?_ | refine blk_alloc ?_ _)); exact BK248.out) hb)
            have n6_ := Aside0.mk (below_step (by repeat (first | (with_reducible first | exact HB.out | apply below_alloc | apply pw_below_drewN | apply below_drew1 | refine below_set ?_ GE228.out | refine below_set ?_ GE248.out) | exact HB.out)) hb)
            clear HO_4
            clear HO_7
            clear HO_249004
            clear BK228
            clear BK248
            clear HB
            have HO_4 := n0_
            have HO_7 := n1_
            have HO_249004 := n2_
            have HO260 := n3_
            have BK228 := n4_
            have BK248 := n5_
            have HB := n6_
            clear n0_ n1_ n2_ n3_ n4_ n5_ n6_
            (try clear hb)
            (try clear hb2)
            (try clear hk)
            (try clear hi)
            (try clear ho0)
            obtain ⟨Ao42, co42, eo42⟩ := Kd.R_slice HO260.out
            (first | subst eo42 | (injection eo42 with f1_ f2_ f3_; have f4_ := f1_.symm; have f5_ := f3_.symm; clear f1_ f2_ f3_; subst f4_; subst f5_))
            refine hK.out _ _ ⟨(blk_cell BK248.out 0).trans rfl, (blk_cell BK248.out 1).trans rfl, (blk_cell BK248.out 2).trans rfl, (blk_cell BK248.out 3).trans rfl, (blk_cell BK248.out 4).trans rfl, (blk_cell BK228.out 0).trans rfl, (blk_cell BK228.out 1).trans rfl, (blk_cell BK228.out 2).trans rfl, (blk_cell BK228.out 3).trans rfl, (blk_cell BK228.out 4).trans rfl⟩ (fun hHeld => ?_)
            clear hK K
            refine norm_ (a' := ?_) ?_ ?_
            rotate_left
            · show Act.put _ (some 43) _ = _
              simp only [Act.put, List.setIfInBounds_toArray, List.set_cons_zero, List.set_cons_succ, i64_w, i32_w]
              rfl
            refine one_ (i := 3) (N := some 44) #[true, true, true, true, false] rfl rfl (by kernel_rfl) (by decide) (fun K hK => ?_)
            refine goes_ Tryd.func25 (by kernel_rfl) rfl #[.agg #[.string t241, .string t242, .string t243, .string t244, .slice Ao24 t245.length co24], .agg #[.string t254, .string t255, .string t256, .string t257, .slice Ao42 t258.length co42]] (by rfl) rfl rfl (by (try simp only [List.map_toArray, List.map_cons, List.map_nil]); first | done | rfl | (simp only [List.length_drop, List.length_take]; rfl)) ?_
            with_reducible refine (laws_eqRequest.calls kj10 t241 t242 t243 t244 _ _ t245 t254 t255 t256 t257 _ _ t258 true _ ?side1 ?side2 ?side3 ?side4 A36.out).mono ?_
            (case side1 => repeat (first | exact (Kd.R_reads' HO_249004.out).2.2 | (with_reducible refine Kd.C_alloc ?_ _) | (with_reducible refine Kd.C_drewN ?_ _) | (with_reducible refine Kd.C_drew ?_)))
            (case side2 => exact (Kd.R_reads' HO_249004.out).2.1)
            (case side3 => repeat (first | exact (Kd.R_reads' HO260.out).2.2 | (with_reducible refine Kd.C_alloc ?_ _) | (with_reducible refine Kd.C_drewN ?_ _) | (with_reducible refine Kd.C_drew ?_)))
            (case side4 => exact (Kd.R_reads' HO260.out).2.1)
            rintro e w43 ⟨rfl, hb⟩
            refine ⟨_, rfl, ?_⟩
            have n0_ := Aside0.mk (Kd.R_below (by (with_reducible repeat (first | apply Kd.R_alloc | apply Kd.R_drewN | apply Kd.R_drew)); exact HO_4.out) hb)
            have n1_ := Aside0.mk (Kd.R_below (by (with_reducible repeat (first | apply Kd.R_alloc | apply Kd.R_drewN | apply Kd.R_drew)); exact HO_7.out) hb)
            have n2_ := Aside0.mk (Kd.R_below (by (with_reducible repeat (first | apply Kd.R_alloc | apply Kd.R_drewN | apply Kd.R_drew)); exact HO_249004.out) hb)
            have n3_ := Aside0.mk (Kd.R_below (by (with_reducible repeat (first | apply Kd.R_alloc | apply Kd.R_drewN | apply Kd.R_drew)); exact HO260.out) hb)
            have n4_ := Aside0.mk (blk_below (g := gb228) (o := .cells #[.string a0_0, .string a0_1, .string a0_2, .string a0_3, .slice A0_4 l0_4.length c0_4] 39 (0, 0)) (by (with_reducible repeat (first | refine blk_drewN ?_ _ | refine blk_drew ?_ | refine blk_alloc ?_ _)); exact BK228.out) hb)
            have n5_ := Aside0.mk (blk_below (g := gb248) (o := .cells #[.string t241, .string t242, .string t243, .string t244, .slice Ao24 t245.length co24] 44 (0, 0)) (by (with_reducible repeat (first | refine blk_drewN ?_ _ | refine blk_drew ?_ | refine blk_alloc ?_ _)); exact BK248.out) hb)
            have n6_ := Aside0.mk (below_step (by repeat (first | (with_reducible first | exact HB.out | apply below_alloc | apply pw_below_drewN | apply below_drew1 | refine below_set ?_ GE228.out | refine below_set ?_ GE248.out) | exact HB.out)) hb)
            clear HO_4
            clear HO_7
            clear HO_249004
            clear HO260
            clear BK228
            clear BK248
            clear HB
            have HO_4 := n0_
            have HO_7 := n1_
            have HO_249004 := n2_
            have HO260 := n3_
            have BK228 := n4_
            have BK248 := n5_
            have HB := n6_
            clear n0_ n1_ n2_ n3_ n4_ n5_ n6_
            (try clear hb)
            (try clear hb2)
            (try clear hk)
            (try clear hi)
            refine hK.out _ _ ⟨(blk_cell BK248.out 0).trans rfl, (blk_cell BK248.out 1).trans rfl, (blk_cell BK248.out 2).trans rfl, (blk_cell BK248.out 3).trans rfl, (blk_cell BK248.out 4).trans rfl, (blk_cell BK228.out 0).trans rfl, (blk_cell BK228.out 1).trans rfl, (blk_cell BK228.out 2).trans rfl, (blk_cell BK228.out 3).trans rfl, (blk_cell BK228.out 4).trans rfl⟩ (fun hHeld => ?_)
            clear hK K
            refine norm_ (a' := ?_) ?_ ?_
            rotate_left
            · show Act.put _ (some 44) _ = _
              simp only [Act.put, List.setIfInBounds_toArray, List.set_cons_zero, List.set_cons_succ, i64_w, i32_w]
              rfl
            refine pure_ (i := 4) (N := some 45) (v := ?_) (a' := ?_) #[true, true, true, true, true] rfl rfl (by kernel_rfl) (fun _ _ _ h => h) (Or.inl ⟨by rfl, ?_⟩) ?_ ?_
            rotate_left
            · intro w'
              go_simp
              with_reducible rfl
            rotate_left
            · simp only [Act.put, List.setIfInBounds_toArray, List.set_cons_zero, List.set_cons_succ, i64_w, i32_w]
              rfl
            refine done_ (by kernel_rfl) ?_
            have hnb44 := NB248_228.out
            have hnc44 := NB228_248.out
            have hcz45_0 : w43.cell? ⟨gb248, 0, none⟩ = some (.string t241) := (blk_cell BK248.out 0).trans rfl
            have hcz45_1 : w43.cell? ⟨gb248, 1, none⟩ = some (.string t242) := (blk_cell BK248.out 1).trans rfl
            have hcz45_2 : w43.cell? ⟨gb248, 2, none⟩ = some (.string t243) := (blk_cell BK248.out 2).trans rfl
            have hcz45_3 : w43.cell? ⟨gb248, 3, none⟩ = some (.string t244) := (blk_cell BK248.out 3).trans rfl
            have hcz45_4 : w43.cell? ⟨gb248, 4, none⟩ = some (.slice Ao24 t245.length co24) := (blk_cell BK248.out 4).trans rfl
            have hfz45_0 := blk_frozen BK248.out 0
            have hfz45_1 := blk_frozen BK248.out 1
            have hfz45_2 := blk_frozen BK248.out 2
            have hfz45_3 := blk_frozen BK248.out 3
            have hfz45_4 := blk_frozen BK248.out 4
            go_upto_region 14 with (first | ((with_reducible refine gate_callee (f := 26) rfl ?_); refine goesL_ (some 48) rfl rfl Tryd.func26 (by kernel_rfl) rfl #[.agg #[.string t241, .string t242, .string t243, .string t244, .slice Ao24 t245.length co24], .int .i64 1] rfl (by (try simp only [List.map_toArray, List.map_cons, List.map_nil]); first | done | rfl | (simp only [List.length_drop, List.length_take]; rfl)) ?_; (with_reducible refine (laws_markRequest.calls kj10 t241 t242 t243 t244 (fun k_ => some k_ = (.slice Ao24 t245.length co24 : Value).ownBlock) (.slice Ao24 t245.length co24) t245 1 t262 t263 w _ ?side1 ?side2 A38.out).mono ?_); (case side1 => repeat (first | (with_reducible first | exact HB.out | apply below_alloc | apply pw_below_drewN | apply below_drew1 | refine below_set ?_ GE228.out | refine below_set ?_ GE248.out) | exact HB.out)); (case side2 => exact Kd.R_tight rfl HO_249004.out); rintro e w46 ⟨rfl, hy0, hb, hkp⟩; refine ⟨_, rfl, ?_⟩; have n0_ := Aside0.mk (Kd.R_mono (ok' := fun k_ => some k_ ≠ (v250 : Value).ownBlock ∧ some k_ ≠ (.slice Ao24 t245.length co24 : Value).ownBlock ∧ some k_ ≠ (.slice Ao42 t258.length co42 : Value).ownBlock) (Kd.R_keptB (HO_4.out) hkp (fun k_ hk_ hs_ => (hk_.1.2) hs_)) (fun k_ hk_ => ⟨hk_.1.1.1, hk_.1.1.2, hk_.1.2⟩)); have n1_ := Aside0.mk (Kd.R_mono (ok' := fun k_ => some k_ ≠ (v238 : Value).ownBlock ∧ some k_ ≠ (.slice Ao24 t245.length co24 : Value).ownBlock ∧ some k_ ≠ (.slice Ao42 t258.length co42 : Value).ownBlock) (Kd.R_keptB (HO_7.out) hkp (fun k_ hk_ hs_ => (hk_.1.2) hs_)) (fun k_ hk_ => ⟨hk_.1.1.1, hk_.1.1.2, hk_.1.2⟩)); have n2_ := Aside0.mk (Kd.R_reok rfl hy0 (fun k_ e_ => HO_249004.out.1 k_ e_)); have n3_ := Aside0.mk (blk_kept (by (with_reducible repeat (first | refine blk_drewN ?_ _ | refine blk_drew ?_ | refine blk_alloc ?_ _)); exact BK228.out) hkp (fun hs_ => (fun e_ => (Kd.R_ne HO_249004.out BK228.out (by decide)) e_) hs_)); have n4_ := Aside0.mk (blk_kept (by (with_reducible repeat (first | refine blk_drewN ?_ _ | refine blk_drew ?_ | refine blk_alloc ?_ _)); exact BK248.out) hkp (fun hs_ => (fun e_ => (Kd.R_ne HO_249004.out BK248.out (by decide)) e_) hs_)); have n5_ := Aside0.mk (Kd.R_mono (ok' := fun k_ => some k_ ≠ (v238 : Value).ownBlock ∧ some k_ ≠ (v250 : Value).ownBlock ∧ some k_ ≠ (.slice Ao24 t245.length co24 : Value).ownBlock) (Kd.R_keptB (HO260.out) hkp (fun k_ hk_ hs_ => (hk_.2) hs_)) (fun k_ hk_ => ⟨hk_.1.1.1.2, hk_.1.1.2, hk_.1.2⟩)); have n6_ := Aside0.mk (hb); clear HO_4; clear HO_7; clear HO_249004; clear BK228; clear BK248; clear HO260; clear HB; have HO_4 := n0_; have HO_7 := n1_; have HO_249004 := n2_; have BK228 := n3_; have BK248 := n4_; have HO260 := n5_; have HB := n6_; clear n0_ n1_ n2_ n3_ n4_ n5_ n6_; (try clear hb); (try clear hkp); (try clear hy0)))
            (try simp only [Act.put, List.setIfInBounds_toArray, List.set_cons_zero, List.set_cons_succ])
            go_cut [61] (fun v61 wc => ∃ (kq : Nat) (x61_38 : Bool), v61 = .bool x61_38 ∧ Aside0 (laws_FnExactRequestFields.j1 kq t237 t240 t249 x61_38 a0_0 a0_1 a0_2 a0_3 l0_4 = some r) ∧ Aside0 (kq ≤ kj10) ∧ Aside0 (Kd.R k78 78 wc w.heap.size (fun k_ => some k_ ≠ (v250 : Value).ownBlock ∧ some k_ ≠ ((.slice Ao24 t245.length co24) : Value).ownBlock) v238 t237) ∧ Aside0 (Kd.R k78 78 wc w.heap.size (fun k_ => some k_ ≠ (v238 : Value).ownBlock ∧ some k_ ≠ ((.slice Ao24 t245.length co24) : Value).ownBlock) v250 t249) ∧ Aside0 (Kd.R k78 78 wc w.heap.size (fun k_ => some k_ ≠ (v238 : Value).ownBlock ∧ some k_ ≠ (v250 : Value).ownBlock) (.slice Ao24 t245.length co24) t263) ∧ Aside0 (wc.heap[gb228]? = some (.cells #[.string a0_0, .string a0_1, .string a0_2, .string a0_3, (.slice A0_4 l0_4.length c0_4)] 39 (0, 0))) ∧ Aside0 (wc.heap[gb248]? = some (.cells #[.string t241, .string t242, .string t243, .string t244, (.slice Ao24 t245.length co24)] 44 (0, 0))) ∧ Aside0 (Below w.heap.size w wc))
            case first =>
              have H := HC39.out
              clear HC39
              by_cases c47 : t262 < 0
              · rw [if_pos c47] at H
                have c47b0 : decide (t262 < 0) = true := decide_eq_true c47
                clear c47
                (first | rw [c47b0] | (simp only [i64_w, i32_w]; rw [c47b0]) | skip)
                have H' := Aside0.mk H
                clear H
                go_wp2
                go_meet
                case rel => exact ⟨_, (true), (by first | rfl | (simp; done) | (simp [*]; done)), H', ⟨by have := HJ10.out; first | omega | exact Nat.le_refl _⟩, ⟨by (with_reducible repeat (first | apply Kd.R_alloc | apply Kd.R_drewN | apply Kd.R_drew)); exact Kd.R_mono HO_4.out (fun _ hk => ⟨hk.1, hk.2.1⟩)⟩, ⟨by (with_reducible repeat (first | apply Kd.R_alloc | apply Kd.R_drewN | apply Kd.R_drew)); exact Kd.R_mono HO_7.out (fun _ hk => ⟨hk.1, hk.2.1⟩)⟩, ⟨by (with_reducible repeat (first | apply Kd.R_alloc | apply Kd.R_drewN | apply Kd.R_drew)); exact Kd.R_mono HO_249004.out (fun _ hk => ⟨hk.1.1, hk.1.2⟩)⟩, ⟨by (with_reducible repeat (first | refine blk_drewN ?_ _ | refine blk_drew ?_ | refine blk_alloc ?_ _)); exact BK228.out⟩, ⟨by (with_reducible repeat (first | refine blk_drewN ?_ _ | refine blk_drew ?_ | refine blk_alloc ?_ _)); exact BK248.out⟩, ⟨by repeat (first | (with_reducible first | exact HB.out | apply below_alloc | apply pw_below_drewN | apply below_drew1 | refine below_set ?_ GE228.out | refine below_set ?_ GE248.out) | exact HB.out)⟩⟩
              · rw [if_neg c47] at H
                have c47b0 : decide (t262 < 0) = false := decide_eq_false c47
                clear c47
                (first | rw [c47b0] | (simp only [i64_w, i32_w]; rw [c47b0]) | skip)
                replace H := Option.bind_eq_some_iff.mp H
                obtain ⟨t264, A480, H⟩ := H
                replace H : (if t264 = true then (laws_FnExactRequestFields.j1 kj10 t237 t240 t249 (t252 != t240) a0_0 a0_1 a0_2 a0_3 l0_4) else (laws_FnExactRequestFields.j1 kj10 t237 t240 t249 true a0_0 a0_1 a0_2 a0_3 l0_4)) = some r := H
                have A48 := Aside0.mk A480
                clear A480
                by_cases c49 : t264 = true
                · subst c49
                  have H1 : (laws_FnExactRequestFields.j1 kj10 t237 t240 t249 (t252 != t240) a0_0 a0_1 a0_2 a0_3 l0_4) = some r := by rw [if_pos rfl] at H; exact H
                  clear H
                  have H := H1
                  clear H1
                  have H' := Aside0.mk H
                  clear H
                  obtain ⟨Ao50, co50, eo50⟩ := Kd.R_slice HO_7.out
                  subst eo50
                  obtain ⟨Ao51, co51, eo51⟩ := Kd.R_slice HO_4.out
                  subst eo51
                  go_wp2_with (first | (go_at_call 20; (with_reducible refine (laws_eqFieldS.calls kj10 _ _ t249 _ _ t237 true _ ?side1 ?side2 ?side3 ?side4 A48.out).mono ?_); (case side1 => repeat (first | exact (Kd.R_reads' HO_7.out).2.2 | (with_reducible refine Kd.C_alloc ?_ _) | (with_reducible refine Kd.C_drewN ?_ _) | (with_reducible refine Kd.C_drew ?_))); (case side2 => exact (Kd.R_reads' HO_7.out).2.1); (case side3 => repeat (first | exact (Kd.R_reads' HO_4.out).2.2 | (with_reducible refine Kd.C_alloc ?_ _) | (with_reducible refine Kd.C_drewN ?_ _) | (with_reducible refine Kd.C_drew ?_))); (case side4 => exact (Kd.R_reads' HO_4.out).2.1); rintro e w52 ⟨rfl, hb⟩; have n0_ := Aside0.mk (Kd.R_below (by (with_reducible repeat (first | apply Kd.R_alloc | apply Kd.R_drewN | apply Kd.R_drew)); exact HO_4.out) hb); have n1_ := Aside0.mk (Kd.R_below (by (with_reducible repeat (first | apply Kd.R_alloc | apply Kd.R_drewN | apply Kd.R_drew)); exact HO_7.out) hb); have n2_ := Aside0.mk (Kd.R_below (by (with_reducible repeat (first | apply Kd.R_alloc | apply Kd.R_drewN | apply Kd.R_drew)); exact HO_249004.out) hb); have n3_ := Aside0.mk (Kd.R_below (by (with_reducible repeat (first | apply Kd.R_alloc | apply Kd.R_drewN | apply Kd.R_drew)); exact HO260.out) hb); have n4_ := Aside0.mk (blk_below (g := gb228) (o := .cells #[.string a0_0, .string a0_1, .string a0_2, .string a0_3, .slice A0_4 l0_4.length c0_4] 39 (0, 0)) (by (with_reducible repeat (first | refine blk_drewN ?_ _ | refine blk_drew ?_ | refine blk_alloc ?_ _)); exact BK228.out) hb); have n5_ := Aside0.mk (blk_below (g := gb248) (o := .cells #[.string t241, .string t242, .string t243, .string t244, .slice Ao24 t245.length co24] 44 (0, 0)) (by (with_reducible repeat (first | refine blk_drewN ?_ _ | refine blk_drew ?_ | refine blk_alloc ?_ _)); exact BK248.out) hb); have n6_ := Aside0.mk (below_step (by repeat (first | (with_reducible first | exact HB.out | apply below_alloc | apply pw_below_drewN | apply below_drew1 | refine below_set ?_ GE228.out | refine below_set ?_ GE248.out) | exact HB.out)) hb); clear HO_4; clear HO_7; clear HO_249004; clear HO260; clear BK228; clear BK248; clear HB; have HO_4 := n0_; have HO_7 := n1_; have HO_249004 := n2_; have HO260 := n3_; have BK228 := n4_; have BK248 := n5_; have HB := n6_; clear n0_ n1_ n2_ n3_ n4_ n5_ n6_; (try clear hb); (try clear hb2); (try clear hk); (try clear hi)))
                  go_meet
                  case rel => exact ⟨_, ((t252 != t240)), (by first | rfl | (simp; done) | (simp [*]; done)), H', ⟨by have := HJ10.out; first | omega | exact Nat.le_refl _⟩, ⟨by (with_reducible repeat (first | apply Kd.R_alloc | apply Kd.R_drewN | apply Kd.R_drew)); exact Kd.R_mono HO_4.out (fun _ hk => ⟨hk.1, hk.2.1⟩)⟩, ⟨by (with_reducible repeat (first | apply Kd.R_alloc | apply Kd.R_drewN | apply Kd.R_drew)); exact Kd.R_mono HO_7.out (fun _ hk => ⟨hk.1, hk.2.1⟩)⟩, ⟨by (with_reducible repeat (first | apply Kd.R_alloc | apply Kd.R_drewN | apply Kd.R_drew)); exact Kd.R_mono HO_249004.out (fun _ hk => ⟨hk.1.1, hk.1.2⟩)⟩, ⟨by (with_reducible repeat (first | refine blk_drewN ?_ _ | refine blk_drew ?_ | refine blk_alloc ?_ _)); exact BK228.out⟩, ⟨by (with_reducible repeat (first | refine blk_drewN ?_ _ | refine blk_drew ?_ | refine blk_alloc ?_ _)); exact BK248.out⟩, ⟨by repeat (first | (with_reducible first | exact HB.out | apply below_alloc | apply pw_below_drewN | apply below_drew1 | refine below_set ?_ GE228.out | refine below_set ?_ GE248.out) | exact HB.out)⟩⟩
                · replace c49 := Bool.eq_false_iff.mpr c49
                  subst c49
                  have H1 : (laws_FnExactRequestFields.j1 kj10 t237 t240 t249 true a0_0 a0_1 a0_2 a0_3 l0_4) = some r := by rw [if_neg (show ¬ (false = true) by decide)] at H; exact H
                  clear H
                  have H := H1
                  clear H1
                  have H' := Aside0.mk H
                  clear H
                  obtain ⟨Ao53, co53, eo53⟩ := Kd.R_slice HO_7.out
                  subst eo53
                  obtain ⟨Ao54, co54, eo54⟩ := Kd.R_slice HO_4.out
                  subst eo54
                  go_wp2_with (first | (go_at_call 20; (with_reducible refine (laws_eqFieldS.calls kj10 _ _ t249 _ _ t237 false _ ?side1 ?side2 ?side3 ?side4 A48.out).mono ?_); (case side1 => repeat (first | exact (Kd.R_reads' HO_7.out).2.2 | (with_reducible refine Kd.C_alloc ?_ _) | (with_reducible refine Kd.C_drewN ?_ _) | (with_reducible refine Kd.C_drew ?_))); (case side2 => exact (Kd.R_reads' HO_7.out).2.1); (case side3 => repeat (first | exact (Kd.R_reads' HO_4.out).2.2 | (with_reducible refine Kd.C_alloc ?_ _) | (with_reducible refine Kd.C_drewN ?_ _) | (with_reducible refine Kd.C_drew ?_))); (case side4 => exact (Kd.R_reads' HO_4.out).2.1); rintro e w55 ⟨rfl, hb⟩; have n0_ := Aside0.mk (Kd.R_below (by (with_reducible repeat (first | apply Kd.R_alloc | apply Kd.R_drewN | apply Kd.R_drew)); exact HO_4.out) hb); have n1_ := Aside0.mk (Kd.R_below (by (with_reducible repeat (first | apply Kd.R_alloc | apply Kd.R_drewN | apply Kd.R_drew)); exact HO_7.out) hb); have n2_ := Aside0.mk (Kd.R_below (by (with_reducible repeat (first | apply Kd.R_alloc | apply Kd.R_drewN | apply Kd.R_drew)); exact HO_249004.out) hb); have n3_ := Aside0.mk (Kd.R_below (by (with_reducible repeat (first | apply Kd.R_alloc | apply Kd.R_drewN | apply Kd.R_drew)); exact HO260.out) hb); have n4_ := Aside0.mk (blk_below (g := gb228) (o := .cells #[.string a0_0, .string a0_1, .string a0_2, .string a0_3, .slice A0_4 l0_4.length c0_4] 39 (0, 0)) (by (with_reducible repeat (first | refine blk_drewN ?_ _ | refine blk_drew ?_ | refine blk_alloc ?_ _)); exact BK228.out) hb); have n5_ := Aside0.mk (blk_below (g := gb248) (o := .cells #[.string t241, .string t242, .string t243, .string t244, .slice Ao24 t245.length co24] 44 (0, 0)) (by (with_reducible repeat (first | refine blk_drewN ?_ _ | refine blk_drew ?_ | refine blk_alloc ?_ _)); exact BK248.out) hb); have n6_ := Aside0.mk (below_step (by repeat (first | (with_reducible first | exact HB.out | apply below_alloc | apply pw_below_drewN | apply below_drew1 | refine below_set ?_ GE228.out | refine below_set ?_ GE248.out) | exact HB.out)) hb); clear HO_4; clear HO_7; clear HO_249004; clear HO260; clear BK228; clear BK248; clear HB; have HO_4 := n0_; have HO_7 := n1_; have HO_249004 := n2_; have HO260 := n3_; have BK228 := n4_; have BK248 := n5_; have HB := n6_; clear n0_ n1_ n2_ n3_ n4_ n5_ n6_; (try clear hb); (try clear hb2); (try clear hk); (try clear hi)))
                  go_meet
                  case rel => exact ⟨_, (true), (by first | rfl | (simp; done) | (simp [*]; done)), H', ⟨by have := HJ10.out; first | omega | exact Nat.le_refl _⟩, ⟨by (with_reducible repeat (first | apply Kd.R_alloc | apply Kd.R_drewN | apply Kd.R_drew)); exact Kd.R_mono HO_4.out (fun _ hk => ⟨hk.1, hk.2.1⟩)⟩, ⟨by (with_reducible repeat (first | apply Kd.R_alloc | apply Kd.R_drewN | apply Kd.R_drew)); exact Kd.R_mono HO_7.out (fun _ hk => ⟨hk.1, hk.2.1⟩)⟩, ⟨by (with_reducible repeat (first | apply Kd.R_alloc | apply Kd.R_drewN | apply Kd.R_drew)); exact Kd.R_mono HO_249004.out (fun _ hk => ⟨hk.1.1, hk.1.2⟩)⟩, ⟨by (with_reducible repeat (first | refine blk_drewN ?_ _ | refine blk_drew ?_ | refine blk_alloc ?_ _)); exact BK228.out⟩, ⟨by (with_reducible repeat (first | refine blk_drewN ?_ _ | refine blk_drew ?_ | refine blk_alloc ?_ _)); exact BK248.out⟩, ⟨by repeat (first | (with_reducible first | exact HB.out | apply below_alloc | apply pw_below_drewN | apply below_drew1 | refine below_set ?_ GE228.out | refine below_set ?_ GE248.out) | exact HB.out)⟩⟩
            case rest =>
              clear HC39
              try clear c2
              try clear p2
              try clear c3
              try clear c3b0
              try clear c4
              try clear c7
              try clear c20
              try clear c21
              try clear c22
              try clear c23
              try clear c24
              try clear c25
              try clear c26
              try clear c27
              try clear c34
              try clear c37
              try clear c44
              try clear c47
              try clear c47b0
              try clear c49
              try clear hcz13_0
              try clear hcz13_1
              try clear hcz13_2
              try clear hcz13_3
              try clear hcz13_4
              try clear hcz15_0
              try clear hcz15_1
              try clear hcz15_2
              try clear hcz15_3
              try clear hcz15_4
              try clear hcz19_0
              try clear hcz19_1
              try clear hcz19_2
              try clear hcz19_3
              try clear hcz19_4
              try clear hcz23_0
              try clear hcz23_1
              try clear hcz23_2
              try clear hcz23_3
              try clear hcz23_4
              try clear hcz45_0
              try clear hcz45_1
              try clear hcz45_2
              try clear hcz45_3
              try clear hcz45_4
              try clear hcz5_0
              try clear hcz5_1
              try clear hcz5_2
              try clear hcz5_3
              try clear hcz5_4
              try clear hfz13_0
              try clear hfz13_1
              try clear hfz13_2
              try clear hfz13_3
              try clear hfz13_4
              try clear hfz15_0
              try clear hfz15_1
              try clear hfz15_2
              try clear hfz15_3
              try clear hfz15_4
              try clear hfz19_0
              try clear hfz19_1
              try clear hfz19_2
              try clear hfz19_3
              try clear hfz19_4
              try clear hfz23_0
              try clear hfz23_1
              try clear hfz23_2
              try clear hfz23_3
              try clear hfz23_4
              try clear hfz45_0
              try clear hfz45_1
              try clear hfz45_2
              try clear hfz45_3
              try clear hfz45_4
              try clear hfz5_0
              try clear hfz5_1
              try clear hfz5_2
              try clear hfz5_3
              try clear hfz5_4
              try clear p2
              obtain ⟨kq, x61_38, rfl, HA, HJ38, HO_4, HO_7, HO_249004, BK228, BK248, HB⟩ := hcut
              have hl249004_38 := (Kd.R_reads' HO_249004.out).1
              rw [hl249004_38] at HO_249004
              (try simp only [hl249004_38])
              (try simp only [hl249004_38] at BK228)
              (try simp only [hl249004_38] at BK248)
              (try simp only [hl249004_38] at HO_4)
              (try simp only [hl249004_38] at HO_7)
              cases kq with
              | zero => exact absurd HA.out (by simp [laws_FnExactRequestFields.j1])
              | succ kj38 =>
                have H := HA.out
                clear HA
                simp only [laws_FnExactRequestFields.j1] at H
                by_cases c56 : x61_38 = true
                · subst c56
                  have H1 : (some false) = some r := by rw [if_pos rfl] at H; exact H
                  clear H
                  have H := H1
                  clear H1
                  obtain rfl := Option.some.inj H
                  go_wp2
                  go_ret
                  exact ⟨by first | rfl | (simp [errW_none, errW_some] <;> rfl) | (simp [*, errW_none, errW_some] <;> rfl), by repeat (first | (with_reducible first | exact HB.out | apply below_alloc | apply pw_below_drewN | apply below_drew1 | refine below_set ?_ GE228.out | refine below_set ?_ GE248.out) | exact HB.out)⟩
                · replace c56 := Bool.eq_false_iff.mpr c56
                  subst c56
                  have H1 : ((laws_markFieldS.f kj38 t249 1).bind fun bt265 => ((laws_heldFieldS.f kj38 bt265.2 1).bind fun t267 => (if t267 < 0 then (some false) else (if t267 = bt265.1 then ((laws_toRequest.f kj38 a0_0 a0_1 a0_2 a0_3 l0_4).bind fun bt268 => ((impl_RequestFields.f kj38 bt268.1 bt268.2.1 bt268.2.2.1 bt268.2.2.2.1 bt268.2.2.2.2).bind fun bt275 => ((laws_eqFieldS.f kj38 bt275.1 t237).bind fun t279 => (if t279 = true then (laws_FnExactRequestFields.j2 kj38 bt265.2 bt265.1 (bt275.2 != t240)) else (laws_FnExactRequestFields.j2 kj38 bt265.2 bt265.1 true))))) else (some false))))) = some r := by rw [if_neg (show ¬ (false = true) by decide)] at H; exact H
                  clear H
                  have H := H1
                  clear H1
                  replace H := Option.bind_eq_some_iff.mp H
                  obtain ⟨⟨t265, t266⟩, A570, H⟩ := H
                  replace H : ((laws_heldFieldS.f kj38 t266 1).bind fun t267 => (if t267 < 0 then (some false) else (if t267 = t265 then ((laws_toRequest.f kj38 a0_0 a0_1 a0_2 a0_3 l0_4).bind fun bt268 => ((impl_RequestFields.f kj38 bt268.1 bt268.2.1 bt268.2.2.1 bt268.2.2.2.1 bt268.2.2.2.2).bind fun bt275 => ((laws_eqFieldS.f kj38 bt275.1 t237).bind fun t279 => (if t279 = true then (laws_FnExactRequestFields.j2 kj38 t266 t265 (bt275.2 != t240)) else (laws_FnExactRequestFields.j2 kj38 t266 t265 true))))) else (some false)))) = some r := H
                  have A57 := Aside0.mk A570
                  clear A570
                  replace H := Option.bind_eq_some_iff.mp H
                  obtain ⟨t267, A580, H⟩ := H
                  replace H : (if t267 < 0 then (some false) else (if t267 = t265 then ((laws_toRequest.f kj38 a0_0 a0_1 a0_2 a0_3 l0_4).bind fun bt268 => ((impl_RequestFields.f kj38 bt268.1 bt268.2.1 bt268.2.2.1 bt268.2.2.2.1 bt268.2.2.2.2).bind fun bt275 => ((laws_eqFieldS.f kj38 bt275.1 t237).bind fun t279 => (if t279 = true then (laws_FnExactRequestFields.j2 kj38 t266 t265 (bt275.2 != t240)) else (laws_FnExactRequestFields.j2 kj38 t266 t265 true))))) else (some false))) = some r := H
                  have A58 := Aside0.mk A580
                  clear A580
                  by_cases c59 : t267 < 0
                  · rw [if_pos c59] at H
                    have c59b0 : decide (t267 < 0) = true := decide_eq_true c59
                    clear c59
                    obtain rfl := Option.some.inj H
                    obtain ⟨Ao60, co60, eo60⟩ := Kd.R_slice HO_7.out
                    subst eo60
                    go_wp2_with (first | ((with_reducible refine gate_callee (f := 27) rfl ?_); refine goesL_ (some 64) rfl rfl Tryd.func27 (by kernel_rfl) rfl #[.slice Ao60 t249.length co60, .int .i64 1] rfl (by (try simp only [List.map_toArray, List.map_cons, List.map_nil]); first | done | rfl | (simp only [List.length_drop, List.length_take]; rfl)) ?_; (with_reducible refine (laws_markFieldS.calls kj38 (fun k_ => some k_ = (.slice Ao60 t249.length co60 : Value).ownBlock) (.slice Ao60 t249.length co60) t249 1 t265 t266 w _ ?side1 ?side2 A57.out).mono ?_); (case side1 => repeat (first | (with_reducible first | exact HB.out | apply below_alloc | apply pw_below_drewN | apply below_drew1 | refine below_set ?_ GE228.out | refine below_set ?_ GE248.out) | exact HB.out)); (case side2 => exact Kd.R_tight rfl HO_7.out); rintro e w61 ⟨rfl, hy0, hb, hkp⟩; refine ⟨_, rfl, ?_⟩; have n0_ := Aside0.mk (Kd.R_mono (ok' := fun k_ => some k_ ≠ (.slice Ao60 t249.length co60 : Value).ownBlock ∧ some k_ ≠ (.slice Ao24 t263.length co24 : Value).ownBlock) (Kd.R_keptB (HO_4.out) hkp (fun k_ hk_ hs_ => (hk_.1) hs_)) (fun k_ hk_ => ⟨hk_.1.1, hk_.1.2⟩)); have n1_ := Aside0.mk (Kd.R_reok rfl hy0 (fun k_ e_ => HO_7.out.1 k_ e_)); have n2_ := Aside0.mk (Kd.R_mono (ok' := fun k_ => some k_ ≠ (v238 : Value).ownBlock ∧ some k_ ≠ (.slice Ao60 t249.length co60 : Value).ownBlock) (Kd.R_keptB (HO_249004.out) hkp (fun k_ hk_ hs_ => (hk_.2) hs_)) (fun k_ hk_ => ⟨hk_.1.1, hk_.1.2⟩)); have n3_ := Aside0.mk (blk_kept (by (with_reducible repeat (first | refine blk_drewN ?_ _ | refine blk_drew ?_ | refine blk_alloc ?_ _)); exact BK228.out) hkp (fun hs_ => (fun e_ => (Kd.R_ne HO_7.out BK228.out (by decide)) e_) hs_)); have n4_ := Aside0.mk (blk_kept (by (with_reducible repeat (first | refine blk_drewN ?_ _ | refine blk_drew ?_ | refine blk_alloc ?_ _)); exact BK248.out) hkp (fun hs_ => (fun e_ => (Kd.R_ne HO_7.out BK248.out (by decide)) e_) hs_)); have n5_ := Aside0.mk (hb); clear HO_4; clear HO_7; clear HO_249004; clear BK228; clear BK248; clear HB; have HO_4 := n0_; have HO_7 := n1_; have HO_249004 := n2_; have BK228 := n3_; have BK248 := n4_; have HB := n5_; clear n0_ n1_ n2_ n3_ n4_ n5_; (try clear hb); (try clear hkp); (try clear hy0)) | ((with_reducible refine gate_callee (f := 28) rfl ?_); refine goesL_ (some 67) rfl rfl Tryd.func28 (by kernel_rfl) rfl #[.slice Ao60 t266.length co60, .int .i64 1] rfl (by (try simp only [List.map_toArray, List.map_cons, List.map_nil]); first | done | (rw [show t266.length = t249.length from (Kd.R_reads' HO_7.out).1.symm] <;> rfl) | rfl | (simp only [List.length_drop, List.length_take]; rfl)) ?_; (with_reducible refine (laws_heldFieldS.calls kj38 _ _ t266 1 t267 _ ?side1 ?side2 A58.out).mono ?_); (case side1 => repeat (first | exact (Kd.R_reads' HO_7.out).2.2 | (with_reducible refine Kd.C_alloc ?_ _) | (with_reducible refine Kd.C_drewN ?_ _) | (with_reducible refine Kd.C_drew ?_))); (case side2 => rw [show t266.length = t249.length from (Kd.R_reads' HO_7.out).1.symm]; exact (Kd.R_reads' HO_7.out).2.1); rintro e w62 ⟨rfl, hb⟩; refine ⟨_, rfl, ?_⟩; have n0_ := Aside0.mk (Kd.R_below (by (with_reducible repeat (first | apply Kd.R_alloc | apply Kd.R_drewN | apply Kd.R_drew)); exact HO_4.out) hb); have n1_ := Aside0.mk (Kd.R_below (by (with_reducible repeat (first | apply Kd.R_alloc | apply Kd.R_drewN | apply Kd.R_drew)); exact HO_7.out) hb); have n2_ := Aside0.mk (Kd.R_below (by (with_reducible repeat (first | apply Kd.R_alloc | apply Kd.R_drewN | apply Kd.R_drew)); exact HO_249004.out) hb); have n3_ := Aside0.mk (blk_below (g := gb228) (o := .cells #[.string a0_0, .string a0_1, .string a0_2, .string a0_3, .slice A0_4 l0_4.length c0_4] 39 (0, 0)) (by (with_reducible repeat (first | refine blk_drewN ?_ _ | refine blk_drew ?_ | refine blk_alloc ?_ _)); exact BK228.out) hb); have n4_ := Aside0.mk (blk_below (g := gb248) (o := .cells #[.string t241, .string t242, .string t243, .string t244, .slice Ao24 t263.length co24] 44 (0, 0)) (by (with_reducible repeat (first | refine blk_drewN ?_ _ | refine blk_drew ?_ | refine blk_alloc ?_ _)); exact BK248.out) hb); have n5_ := Aside0.mk (below_step (by repeat (first | (with_reducible first | exact HB.out | apply below_alloc | apply pw_below_drewN | apply below_drew1 | refine below_set ?_ GE228.out | refine below_set ?_ GE248.out) | exact HB.out)) hb); clear HO_4; clear HO_7; clear HO_249004; clear BK228; clear BK248; clear HB; have HO_4 := n0_; have HO_7 := n1_; have HO_249004 := n2_; have BK228 := n3_; have BK248 := n4_; have HB := n5_; clear n0_ n1_ n2_ n3_ n4_ n5_; (try clear hb); (try clear hb2); (try clear hk); (try clear hi)))
                    go_ret
                    exact ⟨by first | rfl | (simp [errW_none, errW_some] <;> rfl) | (simp [*, errW_none, errW_some] <;> rfl), by repeat (first | (with_reducible first | exact HB.out | apply below_alloc | apply pw_below_drewN | apply below_drew1 | refine below_set ?_ GE228.out | refine below_set ?_ GE248.out) | exact HB.out)⟩
                  · rw [if_neg c59] at H
                    have c59b0 : decide (t267 < 0) = false := decide_eq_false c59
                    clear c59
                    by_cases c63 : t267 = t265
                    · rw [if_pos c63] at H
                      have c63b0 : (t267 == t265) = true := beq_iff_eq.mpr c63
                      have c63b1 : (t267 != t265) = false := bne_eq_false_iff_eq.mpr c63
                      clear c63
                      replace H := Option.bind_eq_some_iff.mp H
                      obtain ⟨⟨t268, t269, t270, t271, t272⟩, A640, H⟩ := H
                      replace H : ((impl_RequestFields.f kj38 t268 t269 t270 t271 t272).bind fun bt275 => ((laws_eqFieldS.f kj38 bt275.1 t237).bind fun t279 => (if t279 = true then (laws_FnExactRequestFields.j2 kj38 t266 t265 (bt275.2 != t240)) else (laws_FnExactRequestFields.j2 kj38 t266 t265 true)))) = some r := H
                      have A64 := Aside0.mk A640
                      clear A640
                      replace H := Option.bind_eq_some_iff.mp H
                      obtain ⟨⟨t275, t278⟩, A650, H⟩ := H
                      replace H : ((laws_eqFieldS.f kj38 t275 t237).bind fun t279 => (if t279 = true then (laws_FnExactRequestFields.j2 kj38 t266 t265 (t278 != t240)) else (laws_FnExactRequestFields.j2 kj38 t266 t265 true))) = some r := H
                      have A65 := Aside0.mk A650
                      clear A650
                      have HC66 := Aside0.mk H
                      clear H
                      obtain ⟨Ao67, co67, eo67⟩ := Kd.R_slice HO_7.out
                      subst eo67
                      go_upto_region 25 with (first | ((with_reducible refine gate_callee (f := 27) rfl ?_); refine goesL_ (some 64) rfl rfl Tryd.func27 (by kernel_rfl) rfl #[.slice Ao67 t249.length co67, .int .i64 1] rfl (by (try simp only [List.map_toArray, List.map_cons, List.map_nil]); first | done | rfl | (simp only [List.length_drop, List.length_take]; rfl)) ?_; (with_reducible refine (laws_markFieldS.calls kj38 (fun k_ => some k_ = (.slice Ao67 t249.length co67 : Value).ownBlock) (.slice Ao67 t249.length co67) t249 1 t265 t266 w _ ?side1 ?side2 A57.out).mono ?_); (case side1 => repeat (first | (with_reducible first | exact HB.out | apply below_alloc | apply pw_below_drewN | apply below_drew1 | refine below_set ?_ GE228.out | refine below_set ?_ GE248.out) | exact HB.out)); (case side2 => exact Kd.R_tight rfl HO_7.out); rintro e w68 ⟨rfl, hy0, hb, hkp⟩; refine ⟨_, rfl, ?_⟩; have n0_ := Aside0.mk (Kd.R_mono (ok' := fun k_ => some k_ ≠ (.slice Ao67 t249.length co67 : Value).ownBlock ∧ some k_ ≠ (.slice Ao24 t263.length co24 : Value).ownBlock) (Kd.R_keptB (HO_4.out) hkp (fun k_ hk_ hs_ => (hk_.1) hs_)) (fun k_ hk_ => ⟨hk_.1.1, hk_.1.2⟩)); have n1_ := Aside0.mk (Kd.R_reok rfl hy0 (fun k_ e_ => HO_7.out.1 k_ e_)); have n2_ := Aside0.mk (Kd.R_mono (ok' := fun k_ => some k_ ≠ (v238 : Value).ownBlock ∧ some k_ ≠ (.slice Ao67 t249.length co67 : Value).ownBlock) (Kd.R_keptB (HO_249004.out) hkp (fun k_ hk_ hs_ => (hk_.2) hs_)) (fun k_ hk_ => ⟨hk_.1.1, hk_.1.2⟩)); have n3_ := Aside0.mk (blk_kept (by (with_reducible repeat (first | refine blk_drewN ?_ _ | refine blk_drew ?_ | refine blk_alloc ?_ _)); exact BK228.out) hkp (fun hs_ => (fun e_ => (Kd.R_ne HO_7.out BK228.out (by decide)) e_) hs_)); have n4_ := Aside0.mk (blk_kept (by (with_reducible repeat (first | refine blk_drewN ?_ _ | refine blk_drew ?_ | refine blk_alloc ?_ _)); exact BK248.out) hkp (fun hs_ => (fun e_ => (Kd.R_ne HO_7.out BK248.out (by decide)) e_) hs_)); have n5_ := Aside0.mk (hb); clear HO_4; clear HO_7; clear HO_249004; clear BK228; clear BK248; clear HB; have HO_4 := n0_; have HO_7 := n1_; have HO_249004 := n2_; have BK228 := n3_; have BK248 := n4_; have HB := n5_; clear n0_ n1_ n2_ n3_ n4_ n5_; (try clear hb); (try clear hkp); (try clear hy0)) | ((with_reducible refine gate_callee (f := 28) rfl ?_); refine goesL_ (some 67) rfl rfl Tryd.func28 (by kernel_rfl) rfl #[.slice Ao67 t266.length co67, .int .i64 1] rfl (by (try simp only [List.map_toArray, List.map_cons, List.map_nil]); first | done | (rw [show t266.length = t249.length from (Kd.R_reads' HO_7.out).1.symm] <;> rfl) | rfl | (simp only [List.length_drop, List.length_take]; rfl)) ?_; (with_reducible refine (laws_heldFieldS.calls kj38 _ _ t266 1 t267 _ ?side1 ?side2 A58.out).mono ?_); (case side1 => repeat (first | exact (Kd.R_reads' HO_7.out).2.2 | (with_reducible refine Kd.C_alloc ?_ _) | (with_reducible refine Kd.C_drewN ?_ _) | (with_reducible refine Kd.C_drew ?_))); (case side2 => rw [show t266.length = t249.length from (Kd.R_reads' HO_7.out).1.symm]; exact (Kd.R_reads' HO_7.out).2.1); rintro e w69 ⟨rfl, hb⟩; refine ⟨_, rfl, ?_⟩; have n0_ := Aside0.mk (Kd.R_below (by (with_reducible repeat (first | apply Kd.R_alloc | apply Kd.R_drewN | apply Kd.R_drew)); exact HO_4.out) hb); have n1_ := Aside0.mk (Kd.R_below (by (with_reducible repeat (first | apply Kd.R_alloc | apply Kd.R_drewN | apply Kd.R_drew)); exact HO_7.out) hb); have n2_ := Aside0.mk (Kd.R_below (by (with_reducible repeat (first | apply Kd.R_alloc | apply Kd.R_drewN | apply Kd.R_drew)); exact HO_249004.out) hb); have n3_ := Aside0.mk (blk_below (g := gb228) (o := .cells #[.string a0_0, .string a0_1, .string a0_2, .string a0_3, .slice A0_4 l0_4.length c0_4] 39 (0, 0)) (by (with_reducible repeat (first | refine blk_drewN ?_ _ | refine blk_drew ?_ | refine blk_alloc ?_ _)); exact BK228.out) hb); have n4_ := Aside0.mk (blk_below (g := gb248) (o := .cells #[.string t241, .string t242, .string t243, .string t244, .slice Ao24 t263.length co24] 44 (0, 0)) (by (with_reducible repeat (first | refine blk_drewN ?_ _ | refine blk_drew ?_ | refine blk_alloc ?_ _)); exact BK248.out) hb); have n5_ := Aside0.mk (below_step (by repeat (first | (with_reducible first | exact HB.out | apply below_alloc | apply pw_below_drewN | apply below_drew1 | refine below_set ?_ GE228.out | refine below_set ?_ GE248.out) | exact HB.out)) hb); clear HO_4; clear HO_7; clear HO_249004; clear BK228; clear BK248; clear HB; have HO_4 := n0_; have HO_7 := n1_; have HO_249004 := n2_; have BK228 := n3_; have BK248 := n4_; have HB := n5_; clear n0_ n1_ n2_ n3_ n4_ n5_; (try clear hb); (try clear hb2); (try clear hk); (try clear hi); have hnb70 := NB228_248.out; have hnc70 := NB248_228.out; have hcz71_0 : w69.cell? ⟨gb228, 0, none⟩ = some (.string a0_0) := (blk_cell BK228.out 0).trans rfl; have hcz71_1 : w69.cell? ⟨gb228, 1, none⟩ = some (.string a0_1) := (blk_cell BK228.out 1).trans rfl; have hcz71_2 : w69.cell? ⟨gb228, 2, none⟩ = some (.string a0_2) := (blk_cell BK228.out 2).trans rfl; have hcz71_3 : w69.cell? ⟨gb228, 3, none⟩ = some (.string a0_3) := (blk_cell BK228.out 3).trans rfl; have hcz71_4 : w69.cell? ⟨gb228, 4, none⟩ = some (.slice A0_4 l0_4.length c0_4) := (blk_cell BK228.out 4).trans rfl; have hfz71_0 := blk_frozen BK228.out 0; have hfz71_1 := blk_frozen BK228.out 1; have hfz71_2 := blk_frozen BK228.out 2; have hfz71_3 := blk_frozen BK228.out 3; have hfz71_4 := blk_frozen BK228.out 4) | ((with_reducible refine gate_callee (f := 23) rfl ?_); refine goesL_ (some 75) rfl rfl Tryd.func23 (by kernel_rfl) rfl #[.agg #[.string a0_0, .string a0_1, .string a0_2, .string a0_3, .slice A0_4 l0_4.length c0_4]] rfl (by (try simp only [List.map_toArray, List.map_cons, List.map_nil]); first | done | rfl | (simp only [List.length_drop, List.length_take]; rfl)) ?_; (with_reducible refine (laws_toRequest.calls kj38 a0_0 a0_1 a0_2 a0_3 _ _ l0_4 t268 t269 t270 t271 t272 _ ?side1 ?side2 A64.out).mono ?_); (case side1 => repeat (first | exact (Kd.C_below HR0_4.out HB.out) | (with_reducible refine Kd.C_alloc ?_ _) | (with_reducible refine Kd.C_drewN ?_ _) | (with_reducible refine Kd.C_drew ?_))); (case side2 => exact HC0_4.out); rintro e w72 ⟨v273, rfl, ho0, hb⟩; refine ⟨_, rfl, ?_⟩; have n0_ := Aside0.mk (Kd.R_elder' (by (with_reducible repeat (first | apply Kd.R_alloc | apply Kd.R_drewN | apply Kd.R_drew)); exact HO_4.out) (Kd.R_base ho0) hb); have n1_ := Aside0.mk (Kd.R_elder' (by (with_reducible repeat (first | apply Kd.R_alloc | apply Kd.R_drewN | apply Kd.R_drew)); exact HO_7.out) (Kd.R_base ho0) hb); have n2_ := Aside0.mk (Kd.R_elder' (by (with_reducible repeat (first | apply Kd.R_alloc | apply Kd.R_drewN | apply Kd.R_drew)); exact HO_249004.out) (Kd.R_base ho0) hb); have n3_ := Aside0.mk (Kd.R_lower (Kd.R_new' (Kd.R_new' (Kd.R_new' ho0 (Kd.R_lt (by (with_reducible repeat (first | apply Kd.R_alloc | apply Kd.R_drewN | apply Kd.R_drew)); exact HO_4.out))) (Kd.R_lt (by (with_reducible repeat (first | apply Kd.R_alloc | apply Kd.R_drewN | apply Kd.R_drew)); exact HO_7.out))) (Kd.R_lt (by (with_reducible repeat (first | apply Kd.R_alloc | apply Kd.R_drewN | apply Kd.R_drew)); exact HO_249004.out))) (below_size (by repeat (first | (with_reducible first | exact HB.out | apply below_alloc | apply pw_below_drewN | apply below_drew1 | refine below_set ?_ GE228.out | refine below_set ?_ GE248.out) | exact HB.out)))); have n4_ := Aside0.mk (blk_below (g := gb228) (o := .cells #[.string a0_0, .string a0_1, .string a0_2, .string a0_3, .slice A0_4 l0_4.length c0_4] 39 (0, 0)) (by (with_reducible repeat (first | refine blk_drewN ?_ _ | refine blk_drew ?_ | refine blk_alloc ?_ _)); exact BK228.out) hb); have n5_ := Aside0.mk (blk_below (g := gb248) (o := .cells #[.string t241, .string t242, .string t243, .string t244, .slice Ao24 t263.length co24] 44 (0, 0)) (by (with_reducible repeat (first | refine blk_drewN ?_ _ | refine blk_drew ?_ | refine blk_alloc ?_ _)); exact BK248.out) hb); have n6_ := Aside0.mk (below_step (by repeat (first | (with_reducible first | exact HB.out | apply below_alloc | apply pw_below_drewN | apply below_drew1 | refine below_set ?_ GE228.out | refine below_set ?_ GE248.out) | exact HB.out)) hb); clear HO_4; clear HO_7; clear HO_249004; clear BK228; clear BK248; clear HB; have HO_4 := n0_; have HO_7 := n1_; have HO_249004 := n2_; have HO274 := n3_; have BK228 := n4_; have BK248 := n5_; have HB := n6_; clear n0_ n1_ n2_ n3_ n4_ n5_ n6_; (try clear hb); (try clear hb2); (try clear hk); (try clear hi); (try clear ho0); obtain ⟨Ao73, co73, eo73⟩ := Kd.R_slice HO274.out; subst eo73) | ((with_reducible refine gate_callee (f := 24) rfl ?_); refine goesL_ (some 76) rfl rfl Tryd.func24 (by kernel_rfl) rfl #[.agg #[.string t268, .string t269, .string t270, .string t271, .slice Ao73 t272.length co73]] rfl (by (try simp only [List.map_toArray, List.map_cons, List.map_nil]); first | done | rfl | (simp only [List.length_drop, List.length_take]; rfl)) ?_; (with_reducible refine (impl_RequestFields.calls kj38 t268 t269 t270 t271 _ _ t272 t275 t278 _ ?side1 ?side2 A65.out).mono ?_); (case side1 => repeat (first | exact (Kd.R_reads' HO274.out).2.2 | (with_reducible refine Kd.C_alloc ?_ _) | (with_reducible refine Kd.C_drewN ?_ _) | (with_reducible refine Kd.C_drew ?_))); (case side2 => exact (Kd.R_reads' HO274.out).2.1); rintro e w74 ⟨v276, rfl, ho0, hb⟩; refine ⟨_, rfl, ?_⟩; have n0_ := Aside0.mk (Kd.R_elder' (by (with_reducible repeat (first | apply Kd.R_alloc | apply Kd.R_drewN | apply Kd.R_drew)); exact HO_4.out) (Kd.R_base ho0) hb); have n1_ := Aside0.mk (Kd.R_elder' (by (with_reducible repeat (first | apply Kd.R_alloc | apply Kd.R_drewN | apply Kd.R_drew)); exact HO_7.out) (Kd.R_base ho0) hb); have n2_ := Aside0.mk (Kd.R_elder' (by (with_reducible repeat (first | apply Kd.R_alloc | apply Kd.R_drewN | apply Kd.R_drew)); exact HO_249004.out) (Kd.R_base ho0) hb); have n3_ := Aside0.mk (Kd.R_elder' (by (with_reducible repeat (first | apply Kd.R_alloc | apply Kd.R_drewN | apply Kd.R_drew)); exact HO274.out) (Kd.R_base ho0) hb); have n4_ := Aside0.mk (Kd.R_lower (Kd.R_new' (Kd.R_new' (Kd.R_new' (Kd.R_new' ho0 (Kd.R_lt (by (with_reducible repeat (first | apply Kd.R_alloc | apply Kd.R_drewN | apply Kd.R_drew)); exact HO_4.out))) (Kd.R_lt (by (with_reducible repeat (first | apply Kd.R_alloc | apply Kd.R_drewN | apply Kd.R_drew)); exact HO_7.out))) (Kd.R_lt (by (with_reducible repeat (first | apply Kd.R_alloc | apply Kd.R_drewN | apply Kd.R_drew)); exact HO_249004.out))) (Kd.R_lt (by (with_reducible repeat (first | apply Kd.R_alloc | apply Kd.R_drewN | apply Kd.R_drew)); exact HO274.out))) (below_size (by repeat (first | (with_reducible first | exact HB.out | apply below_alloc | apply pw_below_drewN | apply below_drew1 | refine below_set ?_ GE228.out | refine below_set ?_ GE248.out) | exact HB.out)))); have n5_ := Aside0.mk (blk_below (g := gb228) (o := .cells #[.string a0_0, .string a0_1, .string a0_2, .string a0_3, .slice A0_4 l0_4.length c0_4] 39 (0, 0)) (by (with_reducible repeat (first | refine blk_drewN ?_ _ | refine blk_drew ?_ | refine blk_alloc ?_ _)); exact BK228.out) hb); have n6_ := Aside0.mk (blk_below (g := gb248) (o := .cells #[.string t241, .string t242, .string t243, .string t244, .slice Ao24 t263.length co24] 44 (0, 0)) (by (with_reducible repeat (first | refine blk_drewN ?_ _ | refine blk_drew ?_ | refine blk_alloc ?_ _)); exact BK248.out) hb); have n7_ := Aside0.mk (below_step (by repeat (first | (with_reducible first | exact HB.out | apply below_alloc | apply pw_below_drewN | apply below_drew1 | refine below_set ?_ GE228.out | refine below_set ?_ GE248.out) | exact HB.out)) hb); clear HO_4; clear HO_7; clear HO_249004; clear HO274; clear BK228; clear BK248; clear HB; have HO_4 := n0_; have HO_7 := n1_; have HO_249004 := n2_; have HO274 := n3_; have HO277 := n4_; have BK228 := n5_; have BK248 := n6_; have HB := n7_; clear n0_ n1_ n2_ n3_ n4_ n5_ n6_ n7_; (try clear hb); (try clear hb2); (try clear hk); (try clear hi); (try clear ho0)))
                      (try simp only [Act.put, List.setIfInBounds_toArray, List.set_cons_zero, List.set_cons_succ])
                      go_cut [87] (fun v87 wc => ∃ (kq : Nat) (x87_65 : Bool), v87 = .bool x87_65 ∧ Aside0 (laws_FnExactRequestFields.j2 kq t266 t265 x87_65 = some r) ∧ Aside0 (kq ≤ kj38) ∧ Aside0 (Kd.R k78 78 wc w.heap.size (fun k_ => some k_ ≠ ((.slice Ao24 t263.length co24) : Value).ownBlock) (.slice Ao67 t249.length co67) t266) ∧ Aside0 (Kd.R k78 78 wc w.heap.size (fun k_ => some k_ ≠ ((.slice Ao67 t249.length co67) : Value).ownBlock) (.slice Ao24 t263.length co24) t263) ∧ Aside0 (wc.heap[gb228]? = some (.cells #[.string a0_0, .string a0_1, .string a0_2, .string a0_3, (.slice A0_4 l0_4.length c0_4)] 39 (0, 0))) ∧ Aside0 (wc.heap[gb248]? = some (.cells #[.string t241, .string t242, .string t243, .string t244, (.slice Ao24 t263.length co24)] 44 (0, 0))) ∧ Aside0 (Below w.heap.size w wc))
                      case first =>
                        have H := HC66.out
                        clear HC66
                        replace H := Option.bind_eq_some_iff.mp H
                        obtain ⟨t279, A750, H⟩ := H
                        replace H : (if t279 = true then (laws_FnExactRequestFields.j2 kj38 t266 t265 (t278 != t240)) else (laws_FnExactRequestFields.j2 kj38 t266 t265 true)) = some r := H
                        have A75 := Aside0.mk A750
                        clear A750
                        by_cases c76 : t279 = true
                        · subst c76
                          have H1 : (laws_FnExactRequestFields.j2 kj38 t266 t265 (t278 != t240)) = some r := by rw [if_pos rfl] at H; exact H
                          clear H
                          have H := H1
                          clear H1
                          have H' := Aside0.mk H
                          clear H
                          obtain ⟨Ao77, co77, eo77⟩ := Kd.R_slice HO277.out
                          subst eo77
                          obtain ⟨Ao78, co78, eo78⟩ := Kd.R_slice HO_4.out
                          subst eo78
                          go_wp2_with (first | ((with_reducible refine gate_callee (f := 20) rfl ?_); refine goesL_ (some 81) rfl rfl Tryd.func20 (by kernel_rfl) rfl #[.slice Ao77 t275.length co77, .slice Ao78 t237.length co78] rfl (by (try simp only [List.map_toArray, List.map_cons, List.map_nil]); first | done | rfl | (simp only [List.length_drop, List.length_take]; rfl)) ?_; (with_reducible refine (laws_eqFieldS.calls kj38 _ _ t275 _ _ t237 true _ ?side1 ?side2 ?side3 ?side4 A75.out).mono ?_); (case side1 => repeat (first | exact (Kd.R_reads' HO277.out).2.2 | (with_reducible refine Kd.C_alloc ?_ _) | (with_reducible refine Kd.C_drewN ?_ _) | (with_reducible refine Kd.C_drew ?_))); (case side2 => exact (Kd.R_reads' HO277.out).2.1); (case side3 => repeat (first | exact (Kd.R_reads' HO_4.out).2.2 | (with_reducible refine Kd.C_alloc ?_ _) | (with_reducible refine Kd.C_drewN ?_ _) | (with_reducible refine Kd.C_drew ?_))); (case side4 => exact (Kd.R_reads' HO_4.out).2.1); rintro e w79 ⟨rfl, hb⟩; refine ⟨_, rfl, ?_⟩; have n0_ := Aside0.mk (Kd.R_below (by (with_reducible repeat (first | apply Kd.R_alloc | apply Kd.R_drewN | apply Kd.R_drew)); exact HO_4.out) hb); have n1_ := Aside0.mk (Kd.R_below (by (with_reducible repeat (first | apply Kd.R_alloc | apply Kd.R_drewN | apply Kd.R_drew)); exact HO_7.out) hb); have n2_ := Aside0.mk (Kd.R_below (by (with_reducible repeat (first | apply Kd.R_alloc | apply Kd.R_drewN | apply Kd.R_drew)); exact HO_249004.out) hb); have n3_ := Aside0.mk (Kd.R_below (by (with_reducible repeat (first | apply Kd.R_alloc | apply Kd.R_drewN | apply Kd.R_drew)); exact HO274.out) hb); have n4_ := Aside0.mk (Kd.R_below (by (with_reducible repeat (first | apply Kd.R_alloc | apply Kd.R_drewN | apply Kd.R_drew)); exact HO277.out) hb); have n5_ := Aside0.mk (blk_below (g := gb228) (o := .cells #[.string a0_0, .string a0_1, .string a0_2, .string a0_3, .slice A0_4 l0_4.length c0_4] 39 (0, 0)) (by (with_reducible repeat (first | refine blk_drewN ?_ _ | refine blk_drew ?_ | refine blk_alloc ?_ _)); exact BK228.out) hb); have n6_ := Aside0.mk (blk_below (g := gb248) (o := .cells #[.string t241, .string t242, .string t243, .string t244, .slice Ao24 t263.length co24] 44 (0, 0)) (by (with_reducible repeat (first | refine blk_drewN ?_ _ | refine blk_drew ?_ | refine blk_alloc ?_ _)); exact BK248.out) hb); have n7_ := Aside0.mk (below_step (by repeat (first | (with_reducible first | exact HB.out | apply below_alloc | apply pw_below_drewN | apply below_drew1 | refine below_set ?_ GE228.out | refine below_set ?_ GE248.out) | exact HB.out)) hb); clear HO_4; clear HO_7; clear HO_249004; clear HO274; clear HO277; clear BK228; clear BK248; clear HB; have HO_4 := n0_; have HO_7 := n1_; have HO_249004 := n2_; have HO274 := n3_; have HO277 := n4_; have BK228 := n5_; have BK248 := n6_; have HB := n7_; clear n0_ n1_ n2_ n3_ n4_ n5_ n6_ n7_; (try clear hb); (try clear hb2); (try clear hk); (try clear hi)))
                          go_meet
                          case rel => exact ⟨_, ((t278 != t240)), (by first | rfl | (simp; done) | (simp [*]; done)), H', ⟨by have := HJ10.out; have := HJ38.out; first | omega | exact Nat.le_refl _⟩, ⟨by (try simp only [hl249004_38]); (with_reducible repeat (first | apply Kd.R_alloc | apply Kd.R_drewN | apply Kd.R_drew)); exact Kd.R_mono HO_7.out (fun _ hk => hk.1.1.2)⟩, ⟨by (try simp only [hl249004_38]); (with_reducible repeat (first | apply Kd.R_alloc | apply Kd.R_drewN | apply Kd.R_drew)); exact Kd.R_mono HO_249004.out (fun _ hk => hk.1.1.2)⟩, ⟨by (try simp only [hl249004_38]); (with_reducible repeat (first | refine blk_drewN ?_ _ | refine blk_drew ?_ | refine blk_alloc ?_ _)); exact BK228.out⟩, ⟨by (try simp only [hl249004_38]); (with_reducible repeat (first | refine blk_drewN ?_ _ | refine blk_drew ?_ | refine blk_alloc ?_ _)); exact BK248.out⟩, ⟨by repeat (first | (with_reducible first | exact HB.out | apply below_alloc | apply pw_below_drewN | apply below_drew1 | refine below_set ?_ GE228.out | refine below_set ?_ GE248.out) | exact HB.out)⟩⟩
                        · replace c76 := Bool.eq_false_iff.mpr c76
                          subst c76
                          have H1 : (laws_FnExactRequestFields.j2 kj38 t266 t265 true) = some r := by rw [if_neg (show ¬ (false = true) by decide)] at H; exact H
                          clear H
                          have H := H1
                          clear H1
                          have H' := Aside0.mk H
                          clear H
                          obtain ⟨Ao80, co80, eo80⟩ := Kd.R_slice HO277.out
                          subst eo80
                          obtain ⟨Ao81, co81, eo81⟩ := Kd.R_slice HO_4.out
                          subst eo81
                          go_wp2_with (first | ((with_reducible refine gate_callee (f := 20) rfl ?_); refine goesL_ (some 81) rfl rfl Tryd.func20 (by kernel_rfl) rfl #[.slice Ao80 t275.length co80, .slice Ao81 t237.length co81] rfl (by (try simp only [List.map_toArray, List.map_cons, List.map_nil]); first | done | rfl | (simp only [List.length_drop, List.length_take]; rfl)) ?_; (with_reducible refine (laws_eqFieldS.calls kj38 _ _ t275 _ _ t237 false _ ?side1 ?side2 ?side3 ?side4 A75.out).mono ?_); (case side1 => repeat (first | exact (Kd.R_reads' HO277.out).2.2 | (with_reducible refine Kd.C_alloc ?_ _) | (with_reducible refine Kd.C_drewN ?_ _) | (with_reducible refine Kd.C_drew ?_))); (case side2 => exact (Kd.R_reads' HO277.out).2.1); (case side3 => repeat (first | exact (Kd.R_reads' HO_4.out).2.2 | (with_reducible refine Kd.C_alloc ?_ _) | (with_reducible refine Kd.C_drewN ?_ _) | (with_reducible refine Kd.C_drew ?_))); (case side4 => exact (Kd.R_reads' HO_4.out).2.1); rintro e w82 ⟨rfl, hb⟩; refine ⟨_, rfl, ?_⟩; have n0_ := Aside0.mk (Kd.R_below (by (with_reducible repeat (first | apply Kd.R_alloc | apply Kd.R_drewN | apply Kd.R_drew)); exact HO_4.out) hb); have n1_ := Aside0.mk (Kd.R_below (by (with_reducible repeat (first | apply Kd.R_alloc | apply Kd.R_drewN | apply Kd.R_drew)); exact HO_7.out) hb); have n2_ := Aside0.mk (Kd.R_below (by (with_reducible repeat (first | apply Kd.R_alloc | apply Kd.R_drewN | apply Kd.R_drew)); exact HO_249004.out) hb); have n3_ := Aside0.mk (Kd.R_below (by (with_reducible repeat (first | apply Kd.R_alloc | apply Kd.R_drewN | apply Kd.R_drew)); exact HO274.out) hb); have n4_ := Aside0.mk (Kd.R_below (by (with_reducible repeat (first | apply Kd.R_alloc | apply Kd.R_drewN | apply Kd.R_drew)); exact HO277.out) hb); have n5_ := Aside0.mk (blk_below (g := gb228) (o := .cells #[.string a0_0, .string a0_1, .string a0_2, .string a0_3, .slice A0_4 l0_4.length c0_4] 39 (0, 0)) (by (with_reducible repeat (first | refine blk_drewN ?_ _ | refine blk_drew ?_ | refine blk_alloc ?_ _)); exact BK228.out) hb); have n6_ := Aside0.mk (blk_below (g := gb248) (o := .cells #[.string t241, .string t242, .string t243, .string t244, .slice Ao24 t263.length co24] 44 (0, 0)) (by (with_reducible repeat (first | refine blk_drewN ?_ _ | refine blk_drew ?_ | refine blk_alloc ?_ _)); exact BK248.out) hb); have n7_ := Aside0.mk (below_step (by repeat (first | (with_reducible first | exact HB.out | apply below_alloc | apply pw_below_drewN | apply below_drew1 | refine below_set ?_ GE228.out | refine below_set ?_ GE248.out) | exact HB.out)) hb); clear HO_4; clear HO_7; clear HO_249004; clear HO274; clear HO277; clear BK228; clear BK248; clear HB; have HO_4 := n0_; have HO_7 := n1_; have HO_249004 := n2_; have HO274 := n3_; have HO277 := n4_; have BK228 := n5_; have BK248 := n6_; have HB := n7_; clear n0_ n1_ n2_ n3_ n4_ n5_ n6_ n7_; (try clear hb); (try clear hb2); (try clear hk); (try clear hi)))
                          go_meet
                          case rel => exact ⟨_, (true), (by first | rfl | (simp; done) | (simp [*]; done)), H', ⟨by have := HJ10.out; have := HJ38.out; first | omega | exact Nat.le_refl _⟩, ⟨by (try simp only [hl249004_38]); (with_reducible repeat (first | apply Kd.R_alloc | apply Kd.R_drewN | apply Kd.R_drew)); exact Kd.R_mono HO_7.out (fun _ hk => hk.1.1.2)⟩, ⟨by (try simp only [hl249004_38]); (with_reducible repeat (first | apply Kd.R_alloc | apply Kd.R_drewN | apply Kd.R_drew)); exact Kd.R_mono HO_249004.out (fun _ hk => hk.1.1.2)⟩, ⟨by (try simp only [hl249004_38]); (with_reducible repeat (first | refine blk_drewN ?_ _ | refine blk_drew ?_ | refine blk_alloc ?_ _)); exact BK228.out⟩, ⟨by (try simp only [hl249004_38]); (with_reducible repeat (first | refine blk_drewN ?_ _ | refine blk_drew ?_ | refine blk_alloc ?_ _)); exact BK248.out⟩, ⟨by repeat (first | (with_reducible first | exact HB.out | apply below_alloc | apply pw_below_drewN | apply below_drew1 | refine below_set ?_ GE228.out | refine below_set ?_ GE248.out) | exact HB.out)⟩⟩
                      case rest =>
                        clear HC66
                        try clear c2
                        try clear p2
                        try clear c3
                        try clear c3b0
                        try clear c4
                        try clear c5
                        try clear c6
                        try clear c7
                        try clear c20
                        try clear c21
                        try clear c22
                        try clear c23
                        try clear c24
                        try clear c25
                        try clear c26
                        try clear c27
                        try clear c28
                        try clear c34
                        try clear c37
                        try clear c44
                        try clear c47
                        try clear c47b0
                        try clear c49
                        try clear c56
                        try clear c59
                        try clear c59b0
                        try clear c63
                        try clear c63b0
                        try clear c63b1
                        try clear c70
                        try clear c76
                        try clear hcz13_0
                        try clear hcz13_1
                        try clear hcz13_2
                        try clear hcz13_3
                        try clear hcz13_4
                        try clear hcz15_0
                        try clear hcz15_1
                        try clear hcz15_2
                        try clear hcz15_3
                        try clear hcz15_4
                        try clear hcz19_0
                        try clear hcz19_1
                        try clear hcz19_2
                        try clear hcz19_3
                        try clear hcz19_4
                        try clear hcz23_0
                        try clear hcz23_1
                        try clear hcz23_2
                        try clear hcz23_3
                        try clear hcz23_4
                        try clear hcz45_0
                        try clear hcz45_1
                        try clear hcz45_2
                        try clear hcz45_3
                        try clear hcz45_4
                        try clear hcz5_0
                        try clear hcz5_1
                        try clear hcz5_2
                        try clear hcz5_3
                        try clear hcz5_4
                        try clear hcz71_0
                        try clear hcz71_1
                        try clear hcz71_2
                        try clear hcz71_3
                        try clear hcz71_4
                        try clear hfz13_0
                        try clear hfz13_1
                        try clear hfz13_2
                        try clear hfz13_3
                        try clear hfz13_4
                        try clear hfz15_0
                        try clear hfz15_1
                        try clear hfz15_2
                        try clear hfz15_3
                        try clear hfz15_4
                        try clear hfz19_0
                        try clear hfz19_1
                        try clear hfz19_2
                        try clear hfz19_3
                        try clear hfz19_4
                        try clear hfz23_0
                        try clear hfz23_1
                        try clear hfz23_2
                        try clear hfz23_3
                        try clear hfz23_4
                        try clear hfz45_0
                        try clear hfz45_1
                        try clear hfz45_2
                        try clear hfz45_3
                        try clear hfz45_4
                        try clear hfz5_0
                        try clear hfz5_1
                        try clear hfz5_2
                        try clear hfz5_3
                        try clear hfz5_4
                        try clear hfz71_0
                        try clear hfz71_1
                        try clear hfz71_2
                        try clear hfz71_3
                        try clear hfz71_4
                        try clear p2
                        obtain ⟨kq, x87_65, rfl, HA, HJ65, HO_7, HO_249004, BK228, BK248, HB⟩ := hcut
                        have hl7_65 := (Kd.R_reads' HO_7.out).1
                        rw [hl7_65] at HO_7
                        (try simp only [hl7_65])
                        (try simp only [hl7_65] at BK228)
                        (try simp only [hl7_65] at BK248)
                        (try simp only [hl7_65] at HO_249004)
                        cases kq with
                        | zero => exact absurd HA.out (by simp [laws_FnExactRequestFields.j2])
                        | succ kj65 =>
                          have H := HA.out
                          clear HA
                          simp only [laws_FnExactRequestFields.j2] at H
                          by_cases c83 : x87_65 = true
                          · subst c83
                            have H1 : (some false) = some r := by rw [if_pos rfl] at H; exact H
                            clear H
                            have H := H1
                            clear H1
                            obtain rfl := Option.some.inj H
                            go_wp2
                            go_ret
                            exact ⟨by first | rfl | (simp [errW_none, errW_some] <;> rfl) | (simp [*, errW_none, errW_some] <;> rfl), by repeat (first | (with_reducible first | exact HB.out | apply below_alloc | apply pw_below_drewN | apply below_drew1 | refine below_set ?_ GE228.out | refine below_set ?_ GE248.out) | exact HB.out)⟩
                          · replace c83 := Bool.eq_false_iff.mpr c83
                            subst c83
                            have H1 : ((laws_heldFieldS.f kj65 t266 1).bind fun t280 => (if t280 < 0 then (some false) else (if t280 = t265 then (some true) else (some false)))) = some r := by rw [if_neg (show ¬ (false = true) by decide)] at H; exact H
                            clear H
                            have H := H1
                            clear H1
                            replace H := Option.bind_eq_some_iff.mp H
                            obtain ⟨t280, A840, H⟩ := H
                            replace H : (if t280 < 0 then (some false) else (if t280 = t265 then (some true) else (some false))) = some r := H
                            have A84 := Aside0.mk A840
                            clear A840
                            by_cases c85 : t280 < 0
                            · rw [if_pos c85] at H
                              have c85b0 : decide (t280 < 0) = true := decide_eq_true c85
                              clear c85
                              obtain rfl := Option.some.inj H
                              go_wp2_with (first | ((with_reducible refine gate_callee (f := 28) rfl ?_); refine goesL_ (some 90) rfl rfl Tryd.func28 (by kernel_rfl) rfl #[.slice Ao67 t266.length co67, .int .i64 1] rfl (by (try simp only [List.map_toArray, List.map_cons, List.map_nil]); first | done | rfl | (simp only [List.length_drop, List.length_take]; rfl)) ?_; (with_reducible refine (laws_heldFieldS.calls kj65 _ _ t266 1 t280 _ ?side1 ?side2 A84.out).mono ?_); (case side1 => repeat (first | exact (Kd.R_reads' HO_7.out).2.2 | (with_reducible refine Kd.C_alloc ?_ _) | (with_reducible refine Kd.C_drewN ?_ _) | (with_reducible refine Kd.C_drew ?_))); (case side2 => exact (Kd.R_reads' HO_7.out).2.1); rintro e w86 ⟨rfl, hb⟩; refine ⟨_, rfl, ?_⟩; have n0_ := Aside0.mk (Kd.R_below (by (with_reducible repeat (first | apply Kd.R_alloc | apply Kd.R_drewN | apply Kd.R_drew)); exact HO_7.out) hb); have n1_ := Aside0.mk (Kd.R_below (by (with_reducible repeat (first | apply Kd.R_alloc | apply Kd.R_drewN | apply Kd.R_drew)); exact HO_249004.out) hb); have n2_ := Aside0.mk (blk_below (g := gb228) (o := .cells #[.string a0_0, .string a0_1, .string a0_2, .string a0_3, .slice A0_4 l0_4.length c0_4] 39 (0, 0)) (by (with_reducible repeat (first | refine blk_drewN ?_ _ | refine blk_drew ?_ | refine blk_alloc ?_ _)); exact BK228.out) hb); have n3_ := Aside0.mk (blk_below (g := gb248) (o := .cells #[.string t241, .string t242, .string t243, .string t244, .slice Ao24 t263.length co24] 44 (0, 0)) (by (with_reducible repeat (first | refine blk_drewN ?_ _ | refine blk_drew ?_ | refine blk_alloc ?_ _)); exact BK248.out) hb); have n4_ := Aside0.mk (below_step (by repeat (first | (with_reducible first | exact HB.out | apply below_alloc | apply pw_below_drewN | apply below_drew1 | refine below_set ?_ GE228.out | refine below_set ?_ GE248.out) | exact HB.out)) hb); clear HO_7; clear HO_249004; clear BK228; clear BK248; clear HB; have HO_7 := n0_; have HO_249004 := n1_; have BK228 := n2_; have BK248 := n3_; have HB := n4_; clear n0_ n1_ n2_ n3_ n4_; (try clear hb); (try clear hb2); (try clear hk); (try clear hi)))
                              go_ret
                              exact ⟨by first | rfl | (simp [errW_none, errW_some] <;> rfl) | (simp [*, errW_none, errW_some] <;> rfl), by repeat (first | (with_reducible first | exact HB.out | apply below_alloc | apply pw_below_drewN | apply below_drew1 | refine below_set ?_ GE228.out | refine below_set ?_ GE248.out) | exact HB.out)⟩
                            · rw [if_neg c85] at H
                              have c85b0 : decide (t280 < 0) = false := decide_eq_false c85
                              clear c85
                              by_cases c87 : t280 = t265
                              · rw [if_pos c87] at H
                                have c87b0 : (t280 == t265) = true := beq_iff_eq.mpr c87
                                have c87b1 : (t280 != t265) = false := bne_eq_false_iff_eq.mpr c87
                                clear c87
                                obtain rfl := Option.some.inj H
                                go_wp2_with (first | ((with_reducible refine gate_callee (f := 28) rfl ?_); refine goesL_ (some 90) rfl rfl Tryd.func28 (by kernel_rfl) rfl #[.slice Ao67 t266.length co67, .int .i64 1] rfl (by (try simp only [List.map_toArray, List.map_cons, List.map_nil]); first | done | rfl | (simp only [List.length_drop, List.length_take]; rfl)) ?_; (with_reducible refine (laws_heldFieldS.calls kj65 _ _ t266 1 t280 _ ?side1 ?side2 A84.out).mono ?_); (case side1 => repeat (first | exact (Kd.R_reads' HO_7.out).2.2 | (with_reducible refine Kd.C_alloc ?_ _) | (with_reducible refine Kd.C_drewN ?_ _) | (with_reducible refine Kd.C_drew ?_))); (case side2 => exact (Kd.R_reads' HO_7.out).2.1); rintro e w88 ⟨rfl, hb⟩; refine ⟨_, rfl, ?_⟩; have n0_ := Aside0.mk (Kd.R_below (by (with_reducible repeat (first | apply Kd.R_alloc | apply Kd.R_drewN | apply Kd.R_drew)); exact HO_7.out) hb); have n1_ := Aside0.mk (Kd.R_below (by (with_reducible repeat (first | apply Kd.R_alloc | apply Kd.R_drewN | apply Kd.R_drew)); exact HO_249004.out) hb); have n2_ := Aside0.mk (blk_below (g := gb228) (o := .cells #[.string a0_0, .string a0_1, .string a0_2, .string a0_3, .slice A0_4 l0_4.length c0_4] 39 (0, 0)) (by (with_reducible repeat (first | refine blk_drewN ?_ _ | refine blk_drew ?_ | refine blk_alloc ?_ _)); exact BK228.out) hb); have n3_ := Aside0.mk (blk_below (g := gb248) (o := .cells #[.string t241, .string t242, .string t243, .string t244, .slice Ao24 t263.length co24] 44 (0, 0)) (by (with_reducible repeat (first | refine blk_drewN ?_ _ | refine blk_drew ?_ | refine blk_alloc ?_ _)); exact BK248.out) hb); have n4_ := Aside0.mk (below_step (by repeat (first | (with_reducible first | exact HB.out | apply below_alloc | apply pw_below_drewN | apply below_drew1 | refine below_set ?_ GE228.out | refine below_set ?_ GE248.out) | exact HB.out)) hb); clear HO_7; clear HO_249004; clear BK228; clear BK248; clear HB; have HO_7 := n0_; have HO_249004 := n1_; have BK228 := n2_; have BK248 := n3_; have HB := n4_; clear n0_ n1_ n2_ n3_ n4_; (try clear hb); (try clear hb2); (try clear hk); (try clear hi)))
                                go_ret
                                exact ⟨by first | rfl | (simp [errW_none, errW_some] <;> rfl) | (simp [*, errW_none, errW_some] <;> rfl), by repeat (first | (with_reducible first | exact HB.out | apply below_alloc | apply pw_below_drewN | apply below_drew1 | refine below_set ?_ GE228.out | refine below_set ?_ GE248.out) | exact HB.out)⟩
                              · rw [if_neg c87] at H
                                have c87b0 : (t280 == t265) = false := beq_eq_false_iff_ne.mpr c87
                                have c87b1 : (t280 != t265) = true := bne_iff_ne.mpr c87
                                obtain rfl := Option.some.inj H
                                go_wp2_with (first | ((with_reducible refine gate_callee (f := 28) rfl ?_); refine goesL_ (some 90) rfl rfl Tryd.func28 (by kernel_rfl) rfl #[.slice Ao67 t266.length co67, .int .i64 1] rfl (by (try simp only [List.map_toArray, List.map_cons, List.map_nil]); first | done | rfl | (simp only [List.length_drop, List.length_take]; rfl)) ?_; (with_reducible refine (laws_heldFieldS.calls kj65 _ _ t266 1 t280 _ ?side1 ?side2 A84.out).mono ?_); (case side1 => repeat (first | exact (Kd.R_reads' HO_7.out).2.2 | (with_reducible refine Kd.C_alloc ?_ _) | (with_reducible refine Kd.C_drewN ?_ _) | (with_reducible refine Kd.C_drew ?_))); (case side2 => exact (Kd.R_reads' HO_7.out).2.1); rintro e w89 ⟨rfl, hb⟩; refine ⟨_, rfl, ?_⟩; have n0_ := Aside0.mk (Kd.R_below (by (with_reducible repeat (first | apply Kd.R_alloc | apply Kd.R_drewN | apply Kd.R_drew)); exact HO_7.out) hb); have n1_ := Aside0.mk (Kd.R_below (by (with_reducible repeat (first | apply Kd.R_alloc | apply Kd.R_drewN | apply Kd.R_drew)); exact HO_249004.out) hb); have n2_ := Aside0.mk (blk_below (g := gb228) (o := .cells #[.string a0_0, .string a0_1, .string a0_2, .string a0_3, .slice A0_4 l0_4.length c0_4] 39 (0, 0)) (by (with_reducible repeat (first | refine blk_drewN ?_ _ | refine blk_drew ?_ | refine blk_alloc ?_ _)); exact BK228.out) hb); have n3_ := Aside0.mk (blk_below (g := gb248) (o := .cells #[.string t241, .string t242, .string t243, .string t244, .slice Ao24 t263.length co24] 44 (0, 0)) (by (with_reducible repeat (first | refine blk_drewN ?_ _ | refine blk_drew ?_ | refine blk_alloc ?_ _)); exact BK248.out) hb); have n4_ := Aside0.mk (below_step (by repeat (first | (with_reducible first | exact HB.out | apply below_alloc | apply pw_below_drewN | apply below_drew1 | refine below_set ?_ GE228.out | refine below_set ?_ GE248.out) | exact HB.out)) hb); clear HO_7; clear HO_249004; clear BK228; clear BK248; clear HB; have HO_7 := n0_; have HO_249004 := n1_; have BK228 := n2_; have BK248 := n3_; have HB := n4_; clear n0_ n1_ n2_ n3_ n4_; (try clear hb); (try clear hb2); (try clear hk); (try clear hi)))
                                go_ret
                                exact ⟨by first | rfl | (simp [errW_none, errW_some] <;> rfl) | (simp [*, errW_none, errW_some] <;> rfl), by repeat (first | (with_reducible first | exact HB.out | apply below_alloc | apply pw_below_drewN | apply below_drew1 | refine below_set ?_ GE228.out | refine below_set ?_ GE248.out) | exact HB.out)⟩
                    · rw [if_neg c63] at H
                      have c63b0 : (t267 == t265) = false := beq_eq_false_iff_ne.mpr c63
                      have c63b1 : (t267 != t265) = true := bne_iff_ne.mpr c63
                      obtain rfl := Option.some.inj H
                      obtain ⟨Ao90, co90, eo90⟩ := Kd.R_slice HO_7.out
                      subst eo90
                      go_wp2_with (first | ((with_reducible refine gate_callee (f := 27) rfl ?_); refine goesL_ (some 64) rfl rfl Tryd.func27 (by kernel_rfl) rfl #[.slice Ao90 t249.length co90, .int .i64 1] rfl (by (try simp only [List.map_toArray, List.map_cons, List.map_nil]); first | done | rfl | (simp only [List.length_drop, List.length_take]; rfl)) ?_; (with_reducible refine (laws_markFieldS.calls kj38 (fun k_ => some k_ = (.slice Ao90 t249.length co90 : Value).ownBlock) (.slice Ao90 t249.length co90) t249 1 t265 t266 w _ ?side1 ?side2 A57.out).mono ?_); (case side1 => repeat (first | (with_reducible first | exact HB.out | apply below_alloc | apply pw_below_drewN | apply below_drew1 | refine below_set ?_ GE228.out | refine below_set ?_ GE248.out) | exact HB.out)); (case side2 => exact Kd.R_tight rfl HO_7.out); rintro e w91 ⟨rfl, hy0, hb, hkp⟩; refine ⟨_, rfl, ?_⟩; have n0_ := Aside0.mk (Kd.R_mono (ok' := fun k_ => some k_ ≠ (.slice Ao90 t249.length co90 : Value).ownBlock ∧ some k_ ≠ (.slice Ao24 t263.length co24 : Value).ownBlock) (Kd.R_keptB (HO_4.out) hkp (fun k_ hk_ hs_ => (hk_.1) hs_)) (fun k_ hk_ => ⟨hk_.1.1, hk_.1.2⟩)); have n1_ := Aside0.mk (Kd.R_reok rfl hy0 (fun k_ e_ => HO_7.out.1 k_ e_)); have n2_ := Aside0.mk (Kd.R_mono (ok' := fun k_ => some k_ ≠ (v238 : Value).ownBlock ∧ some k_ ≠ (.slice Ao90 t249.length co90 : Value).ownBlock) (Kd.R_keptB (HO_249004.out) hkp (fun k_ hk_ hs_ => (hk_.2) hs_)) (fun k_ hk_ => ⟨hk_.1.1, hk_.1.2⟩)); have n3_ := Aside0.mk (blk_kept (by (with_reducible repeat (first | refine blk_drewN ?_ _ | refine blk_drew ?_ | refine blk_alloc ?_ _)); exact BK228.out) hkp (fun hs_ => (fun e_ => (Kd.R_ne HO_7.out BK228.out (by decide)) e_) hs_)); have n4_ := Aside0.mk (blk_kept (by (with_reducible repeat (first | refine blk_drewN ?_ _ | refine blk_drew ?_ | refine blk_alloc ?_ _)); exact BK248.out) hkp (fun hs_ => (fun e_ => (Kd.R_ne HO_7.out BK248.out (by decide)) e_) hs_)); have n5_ := Aside0.mk (hb); clear HO_4; clear HO_7; clear HO_249004; clear BK228; clear BK248; clear HB; have HO_4 := n0_; have HO_7 := n1_; have HO_249004 := n2_; have BK228 := n3_; have BK248 := n4_; have HB := n5_; clear n0_ n1_ n2_ n3_ n4_ n5_; (try clear hb); (try clear hkp); (try clear hy0)) | ((with_reducible refine gate_callee (f := 28) rfl ?_); refine goesL_ (some 67) rfl rfl Tryd.func28 (by kernel_rfl) rfl #[.slice Ao90 t266.length co90, .int .i64 1] rfl (by (try simp only [List.map_toArray, List.map_cons, List.map_nil]); first | done | (rw [show t266.length = t249.length from (Kd.R_reads' HO_7.out).1.symm] <;> rfl) | rfl | (simp only [List.length_drop, List.length_take]; rfl)) ?_; (with_reducible refine (laws_heldFieldS.calls kj38 _ _ t266 1 t267 _ ?side1 ?side2 A58.out).mono ?_); (case side1 => repeat (first | exact (Kd.R_reads' HO_7.out).2.2 | (with_reducible refine Kd.C_alloc ?_ _) | (with_reducible refine Kd.C_drewN ?_ _) | (with_reducible refine Kd.C_drew ?_))); (case side2 => rw [show t266.length = t249.length from (Kd.R_reads' HO_7.out).1.symm]; exact (Kd.R_reads' HO_7.out).2.1); rintro e w92 ⟨rfl, hb⟩; refine ⟨_, rfl, ?_⟩; have n0_ := Aside0.mk (Kd.R_below (by (with_reducible repeat (first | apply Kd.R_alloc | apply Kd.R_drewN | apply Kd.R_drew)); exact HO_4.out) hb); have n1_ := Aside0.mk (Kd.R_below (by (with_reducible repeat (first | apply Kd.R_alloc | apply Kd.R_drewN | apply Kd.R_drew)); exact HO_7.out) hb); have n2_ := Aside0.mk (Kd.R_below (by (with_reducible repeat (first | apply Kd.R_alloc | apply Kd.R_drewN | apply Kd.R_drew)); exact HO_249004.out) hb); have n3_ := Aside0.mk (blk_below (g := gb228) (o := .cells #[.string a0_0, .string a0_1, .string a0_2, .string a0_3, .slice A0_4 l0_4.length c0_4] 39 (0, 0)) (by (with_reducible repeat (first | refine blk_drewN ?_ _ | refine blk_drew ?_ | refine blk_alloc ?_ _)); exact BK228.out) hb); have n4_ := Aside0.mk (blk_below (g := gb248) (o := .cells #[.string t241, .string t242, .string t243, .string t244, .slice Ao24 t263.length co24] 44 (0, 0)) (by (with_reducible repeat (first | refine blk_drewN ?_ _ | refine blk_drew ?_ | refine blk_alloc ?_ _)); exact BK248.out) hb); have n5_ := Aside0.mk (below_step (by repeat (first | (with_reducible first | exact HB.out | apply below_alloc | apply pw_below_drewN | apply below_drew1 | refine below_set ?_ GE228.out | refine below_set ?_ GE248.out) | exact HB.out)) hb); clear HO_4; clear HO_7; clear HO_249004; clear BK228; clear BK248; clear HB; have HO_4 := n0_; have HO_7 := n1_; have HO_249004 := n2_; have BK228 := n3_; have BK248 := n4_; have HB := n5_; clear n0_ n1_ n2_ n3_ n4_ n5_; (try clear hb); (try clear hb2); (try clear hk); (try clear hi)))
                      go_ret
                      exact ⟨by first | rfl | (simp [errW_none, errW_some] <;> rfl) | (simp [*, errW_none, errW_some] <;> rfl), by repeat (first | (with_reducible first | exact HB.out | apply below_alloc | apply pw_below_drewN | apply below_drew1 | refine below_set ?_ GE228.out | refine below_set ?_ GE248.out) | exact HB.out)⟩
          · replace c37 := Bool.eq_false_iff.mpr c37
            subst c37
            have H1 : (some false) = some r := by rw [if_neg (show ¬ (false = true) by decide)] at H; exact H
            clear H
            have H := H1
            clear H1
            obtain rfl := Option.some.inj H
            try go_wp2
            have n0_ := Aside0.mk (Kd.R_drew HO_4.out)
            have n1_ := Aside0.mk (Kd.R_drew HO_7.out)
            have n2_ := Aside0.mk (Kd.R_drew HO_249004.out)
            have n3_ := Aside0.mk (blk_drew BK228.out)
            have n4_ := Aside0.mk (blk_drew BK248.out)
            have n5_ := Aside0.mk (below_drew1 HB.out)
            clear HO_4
            clear HO_7
            clear HO_249004
            clear BK228
            clear BK248
            clear HB
            have HO_4 := n0_
            have HO_7 := n1_
            have HO_249004 := n2_
            have BK228 := n3_
            have BK248 := n4_
            have HB := n5_
            clear n0_ n1_ n2_ n3_ n4_ n5_
            refine start_ (n := 5) (S := fun w' => w'.cell? ⟨gb248, 0, none⟩ = some (.string t241) ∧ w'.cell? ⟨gb248, 1, none⟩ = some (.string t242) ∧ w'.cell? ⟨gb248, 2, none⟩ = some (.string t243) ∧ w'.cell? ⟨gb248, 3, none⟩ = some (.string t244) ∧ w'.cell? ⟨gb248, 4, none⟩ = some (.slice Ao24 t245.length co24) ∧ w'.cell? ⟨gb228, 0, none⟩ = some (.string a0_0) ∧ w'.cell? ⟨gb228, 1, none⟩ = some (.string a0_1) ∧ w'.cell? ⟨gb228, 2, none⟩ = some (.string a0_2) ∧ w'.cell? ⟨gb228, 3, none⟩ = some (.string a0_3) ∧ w'.cell? ⟨gb228, 4, none⟩ = some (.slice A0_4 l0_4.length c0_4)) (ds := []) #[false, false, false, false, false] (by kernel_rfl) rfl rfl ⟨(blk_cell BK248.out 0).trans rfl, (blk_cell BK248.out 1).trans rfl, (blk_cell BK248.out 2).trans rfl, (blk_cell BK248.out 3).trans rfl, (blk_cell BK248.out 4).trans rfl, (blk_cell BK228.out 0).trans rfl, (blk_cell BK228.out 1).trans rfl, (blk_cell BK228.out 2).trans rfl, (blk_cell BK228.out 3).trans rfl, (blk_cell BK228.out 4).trans rfl⟩ (fun hHeld => ?_)
            generalize wc.drew = w93 at HO_4 HO_7 HO_249004 BK228 BK248 HB hHeld ⊢
            refine take_ (i := 0) (N := some 41) (v := ?_) (a' := ?_) #[true, false, false, false, false] rfl rfl (by kernel_rfl) (fun _ _ _ h => h) (Or.inl ⟨by rfl, ?_⟩) hHeld ?_ ?_
            rotate_left
            · rintro w' ⟨s0, s1, s2, s3, s4, s5, s6, s7, s8, s9⟩
              go_simp
              with_reducible rfl
            rotate_left
            · simp only [Act.put, List.setIfInBounds_toArray, List.set_cons_zero, List.set_cons_succ, i64_w, i32_w]
              rfl
            refine take_ (i := 1) (N := some 42) (v := ?_) (a' := ?_) #[true, true, false, false, false] rfl rfl (by kernel_rfl) (fun _ _ _ h => h) (Or.inl ⟨by rfl, ?_⟩) hHeld ?_ ?_
            rotate_left
            · rintro w' ⟨s0, s1, s2, s3, s4, s5, s6, s7, s8, s9⟩
              go_simp
              with_reducible rfl
            rotate_left
            · simp only [Act.put, List.setIfInBounds_toArray, List.set_cons_zero, List.set_cons_succ, i64_w, i32_w]
              rfl
            refine one_ (i := 2) (N := some 43) #[true, true, true, false, false] rfl rfl (by kernel_rfl) (by decide) (fun K hK => ?_)
            refine goes_ Tryd.func23 (by kernel_rfl) rfl #[.agg #[.string a0_0, .string a0_1, .string a0_2, .string a0_3, .slice A0_4 l0_4.length c0_4]] (by rfl) rfl rfl (by (try simp only [List.map_toArray, List.map_cons, List.map_nil]); first | done | rfl | (simp only [List.length_drop, List.length_take]; rfl)) ?_
            with_reducible refine (laws_toRequest.calls kj10 a0_0 a0_1 a0_2 a0_3 _ _ l0_4 t254 t255 t256 t257 t258 _ ?side1 ?side2 A35.out).mono ?_
            (case side1 => repeat (first | exact (Kd.C_below HR0_4.out HB.out) | (with_reducible refine Kd.C_alloc ?_ _) | (with_reducible refine Kd.C_drewN ?_ _) | (with_reducible refine Kd.C_drew ?_)))
            (case side2 => exact HC0_4.out)
            rintro e w94 ⟨v259, rfl, ho0, hb⟩
            refine ⟨_, rfl, ?_⟩
            have n0_ := Aside0.mk (Kd.R_elder' (by (with_reducible repeat (first | apply Kd.R_alloc | apply Kd.R_drewN | apply Kd.R_drew)); exact HO_4.out) (Kd.R_base ho0) hb)
            have n1_ := Aside0.mk (Kd.R_elder' (by (with_reducible repeat (first | apply Kd.R_alloc | apply Kd.R_drewN | apply Kd.R_drew)); exact HO_7.out) (Kd.R_base ho0) hb)
            have n2_ := Aside0.mk (Kd.R_elder' (by (with_reducible repeat (first | apply Kd.R_alloc | apply Kd.R_drewN | apply Kd.R_drew)); exact HO_249004.out) (Kd.R_base ho0) hb)
            have n3_ := Aside0.mk (Kd.R_lower (Kd.R_new' (Kd.R_new' (Kd.R_new' ho0 (Kd.R_lt (by (with_reducible repeat (first | apply Kd.R_alloc | apply Kd.R_drewN | apply Kd.R_drew)); exact HO_4.out))) (Kd.R_lt (by (with_reducible repeat (first | apply Kd.R_alloc | apply Kd.R_drewN | apply Kd.R_drew)); exact HO_7.out))) (Kd.R_lt (by (with_reducible repeat (first | apply Kd.R_alloc | apply Kd.R_drewN | apply Kd.R_drew)); exact HO_249004.out))) (below_size (by repeat (first | (with_reducible first | exact HB.out | apply below_alloc | apply pw_below_drewN | apply below_drew1 | refine below_set ?_ GE228.out | refine below_set ?_ GE248.out) | exact HB.out))))
            have n4_ := Aside0.mk (blk_below (g := gb228) (o := .cells #[.string a0_0, .string a0_1, .string a0_2, .string a0_3, .slice A0_4 l0_4.length c0_4] 39 (0, 0)) (by (with_reducible repeat (first | refine blk_drewN ?_ _ | refine blk_drew ?_ | refine blk_alloc ?_ _)); exact BK228.out) hb)
            have n5_ := Aside0.mk (blk_below (g := gb248) (o := .cells #[.string t241, .string t242, .string t243, .string t244, .slice Ao24 t245.length co24] 44 (0, 0)) (by (with_reducible repeat (first | refine blk_drewN ?_ _ | refine blk_drew ?_ | refine blk_alloc ?_ _)); exact BK248.out) hb)
            have n6_ := Aside0.mk (below_step (by repeat (first | (with_reducible first | exact HB.out | apply below_alloc | apply pw_below_drewN | apply below_drew1 | refine below_set ?_ GE228.out | refine below_set ?_ GE248.out) | exact HB.out)) hb)
            clear HO_4
            clear HO_7
            clear HO_249004
            clear BK228
            clear BK248
            clear HB
            have HO_4 := n0_
            have HO_7 := n1_
            have HO_249004 := n2_
            have HO260 := n3_
            have BK228 := n4_
            have BK248 := n5_
            have HB := n6_
            clear n0_ n1_ n2_ n3_ n4_ n5_ n6_
            (try clear hb)
            (try clear hb2)
            (try clear hk)
            (try clear hi)
            (try clear ho0)
            obtain ⟨Ao95, co95, eo95⟩ := Kd.R_slice HO260.out
            (first | subst eo95 | (injection eo95 with f1_ f2_ f3_; have f4_ := f1_.symm; have f5_ := f3_.symm; clear f1_ f2_ f3_; subst f4_; subst f5_))
            refine hK.out _ _ ⟨(blk_cell BK248.out 0).trans rfl, (blk_cell BK248.out 1).trans rfl, (blk_cell BK248.out 2).trans rfl, (blk_cell BK248.out 3).trans rfl, (blk_cell BK248.out 4).trans rfl, (blk_cell BK228.out 0).trans rfl, (blk_cell BK228.out 1).trans rfl, (blk_cell BK228.out 2).trans rfl, (blk_cell BK228.out 3).trans rfl, (blk_cell BK228.out 4).trans rfl⟩ (fun hHeld => ?_)
            clear hK K
            refine norm_ (a' := ?_) ?_ ?_
            rotate_left
            · show Act.put _ (some 43) _ = _
              simp only [Act.put, List.setIfInBounds_toArray, List.set_cons_zero, List.set_cons_succ, i64_w, i32_w]
              rfl
            refine one_ (i := 3) (N := some 44) #[true, true, true, true, false] rfl rfl (by kernel_rfl) (by decide) (fun K hK => ?_)
            refine goes_ Tryd.func25 (by kernel_rfl) rfl #[.agg #[.string t241, .string t242, .string t243, .string t244, .slice Ao24 t245.length co24], .agg #[.string t254, .string t255, .string t256, .string t257, .slice Ao95 t258.length co95]] (by rfl) rfl rfl (by (try simp only [List.map_toArray, List.map_cons, List.map_nil]); first | done | rfl | (simp only [List.length_drop, List.length_take]; rfl)) ?_
            with_reducible refine (laws_eqRequest.calls kj10 t241 t242 t243 t244 _ _ t245 t254 t255 t256 t257 _ _ t258 false _ ?side1 ?side2 ?side3 ?side4 A36.out).mono ?_
            (case side1 => repeat (first | exact (Kd.R_reads' HO_249004.out).2.2 | (with_reducible refine Kd.C_alloc ?_ _) | (with_reducible refine Kd.C_drewN ?_ _) | (with_reducible refine Kd.C_drew ?_)))
            (case side2 => exact (Kd.R_reads' HO_249004.out).2.1)
            (case side3 => repeat (first | exact (Kd.R_reads' HO260.out).2.2 | (with_reducible refine Kd.C_alloc ?_ _) | (with_reducible refine Kd.C_drewN ?_ _) | (with_reducible refine Kd.C_drew ?_)))
            (case side4 => exact (Kd.R_reads' HO260.out).2.1)
            rintro e w96 ⟨rfl, hb⟩
            refine ⟨_, rfl, ?_⟩
            have n0_ := Aside0.mk (Kd.R_below (by (with_reducible repeat (first | apply Kd.R_alloc | apply Kd.R_drewN | apply Kd.R_drew)); exact HO_4.out) hb)
            have n1_ := Aside0.mk (Kd.R_below (by (with_reducible repeat (first | apply Kd.R_alloc | apply Kd.R_drewN | apply Kd.R_drew)); exact HO_7.out) hb)
            have n2_ := Aside0.mk (Kd.R_below (by (with_reducible repeat (first | apply Kd.R_alloc | apply Kd.R_drewN | apply Kd.R_drew)); exact HO_249004.out) hb)
            have n3_ := Aside0.mk (Kd.R_below (by (with_reducible repeat (first | apply Kd.R_alloc | apply Kd.R_drewN | apply Kd.R_drew)); exact HO260.out) hb)
            have n4_ := Aside0.mk (blk_below (g := gb228) (o := .cells #[.string a0_0, .string a0_1, .string a0_2, .string a0_3, .slice A0_4 l0_4.length c0_4] 39 (0, 0)) (by (with_reducible repeat (first | refine blk_drewN ?_ _ | refine blk_drew ?_ | refine blk_alloc ?_ _)); exact BK228.out) hb)
            have n5_ := Aside0.mk (blk_below (g := gb248) (o := .cells #[.string t241, .string t242, .string t243, .string t244, .slice Ao24 t245.length co24] 44 (0, 0)) (by (with_reducible repeat (first | refine blk_drewN ?_ _ | refine blk_drew ?_ | refine blk_alloc ?_ _)); exact BK248.out) hb)
            have n6_ := Aside0.mk (below_step (by repeat (first | (with_reducible first | exact HB.out | apply below_alloc | apply pw_below_drewN | apply below_drew1 | refine below_set ?_ GE228.out | refine below_set ?_ GE248.out) | exact HB.out)) hb)
            clear HO_4
            clear HO_7
            clear HO_249004
            clear HO260
            clear BK228
            clear BK248
            clear HB
            have HO_4 := n0_
            have HO_7 := n1_
            have HO_249004 := n2_
            have HO260 := n3_
            have BK228 := n4_
            have BK248 := n5_
            have HB := n6_
            clear n0_ n1_ n2_ n3_ n4_ n5_ n6_
            (try clear hb)
            (try clear hb2)
            (try clear hk)
            (try clear hi)
            refine hK.out _ _ ⟨(blk_cell BK248.out 0).trans rfl, (blk_cell BK248.out 1).trans rfl, (blk_cell BK248.out 2).trans rfl, (blk_cell BK248.out 3).trans rfl, (blk_cell BK248.out 4).trans rfl, (blk_cell BK228.out 0).trans rfl, (blk_cell BK228.out 1).trans rfl, (blk_cell BK228.out 2).trans rfl, (blk_cell BK228.out 3).trans rfl, (blk_cell BK228.out 4).trans rfl⟩ (fun hHeld => ?_)
            clear hK K
            refine norm_ (a' := ?_) ?_ ?_
            rotate_left
            · show Act.put _ (some 44) _ = _
              simp only [Act.put, List.setIfInBounds_toArray, List.set_cons_zero, List.set_cons_succ, i64_w, i32_w]
              rfl
            refine pure_ (i := 4) (N := some 45) (v := ?_) (a' := ?_) #[true, true, true, true, true] rfl rfl (by kernel_rfl) (fun _ _ _ h => h) (Or.inl ⟨by rfl, ?_⟩) ?_ ?_
            rotate_left
            · intro w'
              go_simp
              with_reducible rfl
            rotate_left
            · simp only [Act.put, List.setIfInBounds_toArray, List.set_cons_zero, List.set_cons_succ, i64_w, i32_w]
              rfl
            refine done_ (by kernel_rfl) ?_
            try go_wp2
            go_ret
            exact ⟨by first | rfl | (simp [errW_none, errW_some] <;> rfl) | (simp [*, errW_none, errW_some] <;> rfl), by repeat (first | (with_reducible first | exact HB.out | apply below_alloc | apply pw_below_drewN | apply below_drew1 | refine below_set ?_ GE228.out | refine below_set ?_ GE248.out) | exact HB.out)⟩

end Go.Proofs.YtkcimmlaoipdkaaDoor.PFnExactRequestFields
