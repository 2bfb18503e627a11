-- Written by a program of this repo (xprint.py) out of the translation; Lean checks it.
import Derived.Test.YtkloeccbhjngiaaPFnExactReadHyperx0
import Derived.Test.YtkloeccbhjngiaaPFnExactReadHyperx3
import Derived.Test.YtkloeccbhjngiaaPFnExactReadHyperx4
import Derived.Test.YtkloeccbhjngiaaPFnExactReadHyperx7
import Derived.Test.YtkloeccbhjngiaaPFnExactReadHyperx8
import Derived.Test.YtkloeccbhjngiaaPFnExactReadHyperx9
namespace Go.Proofs.Ytkloeccbhjngiaa.PFnExactReadHyper
open Go.RowKit Go.Proofs.YtkloeccbhjngiaaW.PrintWords Go.Proofs.YtkloeccbhjngiaaW.PrintLast Go.Proofs.YtkloeccbhjngiaaW.PrintMore
attribute [local go_sem] max2_int min2_int max_two min_two max_three min_three max_four min_four   -- for this text's walks alone
set_option linter.unusedVariables false
set_option linter.unusedSimpArgs false

/-! ### laws_FnExactReadHyper: function 3 -/
mutual
def laws_FnExactReadHyper.j0 : Nat → List Int → Int → Int → Int → List Int → Int → Int → Bool → Int → Int → List Int → List (S122) → Int → Int → List Int → List (S122) → Option (Bool)
  | 0, _, _, _, _, _, _, _, _, _, _, _, _, _, _, _, _ => none
  | k + 1, x0, x1, x6, x7, x8, x10, x11, x51, x189000, x189001, x189002, x189003, x203000, x203001, x203002, x203003 => if x51 = true then (some false) else ((laws_toByteS.f k x0).bind fun t204 => ((laws_eqByteS.f k x8 t204).bind fun t207 => (if t207 = true then ((laws_markByteS.f k x8 1).bind fun bt208 => (if bt208.1 < 0 then (laws_FnExactReadHyper.j1 k x0 x1 x6 x7 true x189000 x189001 x189002 x189003 x203000 x203001 x203002 x203003) else ((laws_eqHFrame.f k x203000 x203001 x203002 x203003 x189000 x189001 x189002 x189003).bind fun t210 => (if t210 = true then (if x10 = x6 then (laws_FnExactReadHyper.j1 k x0 x1 x6 x7 (x11 != x7) x189000 x189001 x189002 x189003 x203000 x203001 x203002 x203003) else (laws_FnExactReadHyper.j1 k x0 x1 x6 x7 true x189000 x189001 x189002 x189003 x203000 x203001 x203002 x203003)) else (laws_FnExactReadHyper.j1 k x0 x1 x6 x7 true x189000 x189001 x189002 x189003 x203000 x203001 x203002 x203003))))) else (some false))))
def laws_FnExactReadHyper.j1 : Nat → List Int → Int → Int → Int → Bool → Int → Int → List Int → List (S122) → Int → Int → List Int → List (S122) → Option (Bool)
  | 0, _, _, _, _, _, _, _, _, _, _, _, _, _ => none
  | k + 1, x0, x1, x6, x7, x77, x189000, x189001, x189002, x189003, x203000, x203001, x203002, x203003 => if x77 = true then (some false) else ((laws_markHFrame.f k x203000 x203001 x203002 x203003 1).bind fun bt211 => ((laws_heldHFrame.f k x203000 x203001 bt211.2.1 bt211.2.2 1).bind fun t214 => (if t214 < 0 then (some false) else (if t214 = bt211.1 then ((laws_toByteS.f k x0).bind fun t215 => ((impl_ReadHyper.f k t215 x1).bind fun bt218 => ((laws_eqHFrame.f k bt218.1 bt218.2.1 bt218.2.2.1 bt218.2.2.2.1 x189000 x189001 x189002 x189003).bind fun t229 => (if t229 = true then (if bt218.2.2.2.2.1 = x6 then (laws_FnExactReadHyper.j2 k bt211.1 (bt218.2.2.2.2.2 != x7) x203000 x203001 bt211.2.1 bt211.2.2) else (laws_FnExactReadHyper.j2 k bt211.1 true x203000 x203001 bt211.2.1 bt211.2.2)) else (laws_FnExactReadHyper.j2 k bt211.1 true x203000 x203001 bt211.2.1 bt211.2.2))))) else (some false)))))
def laws_FnExactReadHyper.j2 : Nat → Int → Bool → Int → Int → List Int → List (S122) → Option (Bool)
  | 0, _, _, _, _, _, _ => none
  | k + 1, x13, x110, x203000, x203001, x203002, x203003 => if x110 = true then (some false) else ((laws_heldHFrame.f k x203000 x203001 x203002 x203003 1).bind fun t230 => (if t230 < 0 then (some false) else (if t230 = x13 then (some true) else (some false))))
end
def laws_FnExactReadHyper.f (k : Nat) (l0 : List Int) (a1 : Int) : Option (Bool) := if (l0.length : Int) > 1048576 then (some true) else ((laws_toByteS.f k l0).bind fun t175 => ((spec_ReadHyper.f k t175 a1).bind fun bt178 => ((laws_toByteS.f k l0).bind fun t189 => ((impl_ReadHyper.f k t189 a1).bind fun bt192 => ((laws_eqHFrame.f k bt192.1 bt192.2.1 bt192.2.2.1 bt192.2.2.2.1 bt178.1 bt178.2.1 bt178.2.2.1 bt178.2.2.2.1).bind fun t203 => (if t203 = true then (if bt192.2.2.2.2.1 = bt178.2.2.2.2.1 then (laws_FnExactReadHyper.j0 k l0 a1 bt178.2.2.2.2.1 bt178.2.2.2.2.2 t189 bt192.2.2.2.2.1 bt192.2.2.2.2.2 (bt192.2.2.2.2.2 != bt178.2.2.2.2.2) bt178.1 bt178.2.1 bt178.2.2.1 bt178.2.2.2.1 bt192.1 bt192.2.1 bt192.2.2.1 bt192.2.2.2.1) else (laws_FnExactReadHyper.j0 k l0 a1 bt178.2.2.2.2.1 bt178.2.2.2.2.2 t189 bt192.2.2.2.2.1 bt192.2.2.2.2.2 true bt178.1 bt178.2.1 bt178.2.2.1 bt178.2.2.2.1 bt192.1 bt192.2.1 bt192.2.2.1 bt192.2.2.2.1)) else (laws_FnExactReadHyper.j0 k l0 a1 bt178.2.2.2.2.1 bt178.2.2.2.2.2 t189 bt192.2.2.2.2.1 bt192.2.2.2.2.2 true bt178.1 bt178.2.1 bt178.2.2.1 bt178.2.2.2.1 bt192.1 bt192.2.1 bt192.2.2.1 bt192.2.2.2.1)))))))
theorem laws_FnExactReadHyper.mono_l : ∀ k, (∀ y0 y1 y2 y3 y4 y5 y6 y7 y8 y9 y10 y11 y12 y13 y14 y15, LeO (laws_FnExactReadHyper.j0 k y0 y1 y2 y3 y4 y5 y6 y7 y8 y9 y10 y11 y12 y13 y14 y15) (laws_FnExactReadHyper.j0 (k + 1) y0 y1 y2 y3 y4 y5 y6 y7 y8 y9 y10 y11 y12 y13 y14 y15)) ∧ (∀ y0 y1 y2 y3 y4 y5 y6 y7 y8 y9 y10 y11 y12, LeO (laws_FnExactReadHyper.j1 k y0 y1 y2 y3 y4 y5 y6 y7 y8 y9 y10 y11 y12) (laws_FnExactReadHyper.j1 (k + 1) y0 y1 y2 y3 y4 y5 y6 y7 y8 y9 y10 y11 y12)) ∧ (∀ y0 y1 y2 y3 y4 y5, LeO (laws_FnExactReadHyper.j2 k y0 y1 y2 y3 y4 y5) (laws_FnExactReadHyper.j2 (k + 1) y0 y1 y2 y3 y4 y5))
  | 0 => ⟨fun _ _ _ _ _ _ _ _ _ _ _ _ _ _ _ _ r h => by simp [laws_FnExactReadHyper.j0] at h, fun _ _ _ _ _ _ _ _ _ _ _ _ _ r h => by simp [laws_FnExactReadHyper.j1] at h, fun _ _ _ _ _ _ r h => by simp [laws_FnExactReadHyper.j2] at h⟩
  | k + 1 => by
    obtain ⟨ih0, ih1, ih2⟩ := laws_FnExactReadHyper.mono_l k
    refine ⟨?_, ?_, ?_⟩
    · intro y0 y1 y2 y3 y4 y5 y6 y7 y8 y9 y10 y11 y12 y13 y14 y15
      unfold laws_FnExactReadHyper.j0
      repeat' first
      | (with_reducible exact ih0 _ _ _ _ _ _ _ _ _ _ _ _ _ _ _ _)
      | (with_reducible exact ih1 _ _ _ _ _ _ _ _ _ _ _ _ _)
      | (with_reducible exact ih2 _ _ _ _ _ _)
      | (with_reducible exact impl_ReadHyper.mono _ _ _)
      | (with_reducible exact laws_eqByteS.mono _ _ _)
      | (with_reducible exact laws_eqHFrame.mono _ _ _ _ _ _ _ _ _)
      | (with_reducible exact laws_heldHFrame.mono _ _ _ _ _ _)
      | (with_reducible exact laws_markByteS.mono _ _ _)
      | (with_reducible exact laws_markHFrame.mono _ _ _ _ _ _)
      | (with_reducible exact laws_toByteS.mono _ _)
      | (with_reducible exact spec_ReadHyper.mono _ _ _)
      | (with_reducible exact LeO.refl _)
      | (with_reducible exact LeO.none _)
      | (with_reducible refine LeO.ite ?_ ?_)
      | (with_reducible refine LeO.bind ?_ (fun _ => ?_))
      | exact ih0 _ _ _ _ _ _ _ _ _ _ _ _ _ _ _ _
      | exact ih1 _ _ _ _ _ _ _ _ _ _ _ _ _
      | exact ih2 _ _ _ _ _ _
      | exact impl_ReadHyper.mono _ _ _
      | exact laws_eqByteS.mono _ _ _
      | exact laws_eqHFrame.mono _ _ _ _ _ _ _ _ _
      | exact laws_heldHFrame.mono _ _ _ _ _ _
      | exact laws_markByteS.mono _ _ _
      | exact laws_markHFrame.mono _ _ _ _ _ _
      | exact laws_toByteS.mono _ _
      | exact spec_ReadHyper.mono _ _ _
      | exact LeO.none _
      | refine LeO.ite ?_ ?_
      | refine LeO.bind ?_ (fun _ => ?_)
    · intro y0 y1 y2 y3 y4 y5 y6 y7 y8 y9 y10 y11 y12
      unfold laws_FnExactReadHyper.j1
      repeat' first
      | (with_reducible exact ih0 _ _ _ _ _ _ _ _ _ _ _ _ _ _ _ _)
      | (with_reducible exact ih1 _ _ _ _ _ _ _ _ _ _ _ _ _)
      | (with_reducible exact ih2 _ _ _ _ _ _)
      | (with_reducible exact impl_ReadHyper.mono _ _ _)
      | (with_reducible exact laws_eqByteS.mono _ _ _)
      | (with_reducible exact laws_eqHFrame.mono _ _ _ _ _ _ _ _ _)
      | (with_reducible exact laws_heldHFrame.mono _ _ _ _ _ _)
      | (with_reducible exact laws_markByteS.mono _ _ _)
      | (with_reducible exact laws_markHFrame.mono _ _ _ _ _ _)
      | (with_reducible exact laws_toByteS.mono _ _)
      | (with_reducible exact spec_ReadHyper.mono _ _ _)
      | (with_reducible exact LeO.refl _)
      | (with_reducible exact LeO.none _)
      | (with_reducible refine LeO.ite ?_ ?_)
      | (with_reducible refine LeO.bind ?_ (fun _ => ?_))
      | exact ih0 _ _ _ _ _ _ _ _ _ _ _ _ _ _ _ _
      | exact ih1 _ _ _ _ _ _ _ _ _ _ _ _ _
      | exact ih2 _ _ _ _ _ _
      | exact impl_ReadHyper.mono _ _ _
      | exact laws_eqByteS.mono _ _ _
      | exact laws_eqHFrame.mono _ _ _ _ _ _ _ _ _
      | exact laws_heldHFrame.mono _ _ _ _ _ _
      | exact laws_markByteS.mono _ _ _
      | exact laws_markHFrame.mono _ _ _ _ _ _
      | exact laws_toByteS.mono _ _
      | exact spec_ReadHyper.mono _ _ _
      | exact LeO.none _
      | refine LeO.ite ?_ ?_
      | refine LeO.bind ?_ (fun _ => ?_)
    · intro y0 y1 y2 y3 y4 y5
      unfold laws_FnExactReadHyper.j2
      repeat' first
      | (with_reducible exact ih0 _ _ _ _ _ _ _ _ _ _ _ _ _ _ _ _)
      | (with_reducible exact ih1 _ _ _ _ _ _ _ _ _ _ _ _ _)
      | (with_reducible exact ih2 _ _ _ _ _ _)
      | (with_reducible exact impl_ReadHyper.mono _ _ _)
      | (with_reducible exact laws_eqByteS.mono _ _ _)
      | (with_reducible exact laws_eqHFrame.mono _ _ _ _ _ _ _ _ _)
      | (with_reducible exact laws_heldHFrame.mono _ _ _ _ _ _)
      | (with_reducible exact laws_markByteS.mono _ _ _)
      | (with_reducible exact laws_markHFrame.mono _ _ _ _ _ _)
      | (with_reducible exact laws_toByteS.mono _ _)
      | (with_reducible exact spec_ReadHyper.mono _ _ _)
      | (with_reducible exact LeO.refl _)
      | (with_reducible exact LeO.none _)
      | (with_reducible refine LeO.ite ?_ ?_)
      | (with_reducible refine LeO.bind ?_ (fun _ => ?_))
      | exact ih0 _ _ _ _ _ _ _ _ _ _ _ _ _ _ _ _
      | exact ih1 _ _ _ _ _ _ _ _ _ _ _ _ _
      | exact ih2 _ _ _ _ _ _
      | exact impl_ReadHyper.mono _ _ _
      | exact laws_eqByteS.mono _ _ _
      | exact laws_eqHFrame.mono _ _ _ _ _ _ _ _ _
      | exact laws_heldHFrame.mono _ _ _ _ _ _
      | exact laws_markByteS.mono _ _ _
      | exact laws_markHFrame.mono _ _ _ _ _ _
      | exact laws_toByteS.mono _ _
      | exact spec_ReadHyper.mono _ _ _
      | exact LeO.none _
      | refine LeO.ite ?_ ?_
      | refine LeO.bind ?_ (fun _ => ?_)
theorem laws_FnExactReadHyper.mono : ∀ a0 a1 k, LeO (laws_FnExactReadHyper.f k a0 a1) (laws_FnExactReadHyper.f (k + 1) a0 a1) := by
  intro a0 a1 k
  obtain ⟨ih0, ih1, ih2⟩ := laws_FnExactReadHyper.mono_l k
  unfold laws_FnExactReadHyper.f
  repeat' first
      | (with_reducible exact ih0 _ _ _ _ _ _ _ _ _ _ _ _ _ _ _ _)
      | (with_reducible exact ih1 _ _ _ _ _ _ _ _ _ _ _ _ _)
      | (with_reducible exact ih2 _ _ _ _ _ _)
      | (with_reducible exact impl_ReadHyper.mono _ _ _)
      | (with_reducible exact laws_eqByteS.mono _ _ _)
      | (with_reducible exact laws_eqHFrame.mono _ _ _ _ _ _ _ _ _)
      | (with_reducible exact laws_heldHFrame.mono _ _ _ _ _ _)
      | (with_reducible exact laws_markByteS.mono _ _ _)
      | (with_reducible exact laws_markHFrame.mono _ _ _ _ _ _)
      | (with_reducible exact laws_toByteS.mono _ _)
      | (with_reducible exact spec_ReadHyper.mono _ _ _)
      | (with_reducible exact LeO.refl _)
      | (with_reducible exact LeO.none _)
      | (with_reducible refine LeO.ite ?_ ?_)
      | (with_reducible refine LeO.bind ?_ (fun _ => ?_))
      | exact ih0 _ _ _ _ _ _ _ _ _ _ _ _ _ _ _ _
      | exact ih1 _ _ _ _ _ _ _ _ _ _ _ _ _
      | exact ih2 _ _ _ _ _ _
      | exact impl_ReadHyper.mono _ _ _
      | exact laws_eqByteS.mono _ _ _
      | exact laws_eqHFrame.mono _ _ _ _ _ _ _ _ _
      | exact laws_heldHFrame.mono _ _ _ _ _ _
      | exact laws_markByteS.mono _ _ _
      | exact laws_markHFrame.mono _ _ _ _ _ _
      | exact laws_toByteS.mono _ _
      | exact spec_ReadHyper.mono _ _ _
      | exact LeO.none _
      | refine LeO.ite ?_ ?_
      | refine LeO.bind ?_ (fun _ => ?_)
set_option maxHeartbeats 8000000 in
set_option maxRecDepth 100000 in
theorem laws_FnExactReadHyper.calls (k : Nat) (A0 : Option Addr) (c0 : Nat) (l0 : List Int) (a1 : Int) (r : Bool) (w : World) (hr0 : Kd.C (Kd.int .u8) w A0 l0.length l0) (hc0 : l0.length ≤ c0) (h : laws_FnExactReadHyper.f k l0 a1 = some r) :
    Calls Try.prog 3 #[.slice A0 l0.length c0, .int .i64 a1] w fun e w' => e = .returned (.bool r) ∧ Below w.heap.size w w' := by
  have hu25 := Try.underlying25
  have HR0 := Aside0.mk hr0
  have HC0 := Aside0.mk hc0
  clear hr0 hc0
  have HB := Aside0.mk (Below.refl w.heap.size w)
  have H : (if (l0.length : Int) > 1048576 then (some true) else ((laws_toByteS.f k l0).bind fun t175 => ((spec_ReadHyper.f k t175 a1).bind fun bt178 => ((laws_toByteS.f k l0).bind fun t189 => ((impl_ReadHyper.f k t189 a1).bind fun bt192 => ((laws_eqHFrame.f k bt192.1 bt192.2.1 bt192.2.2.1 bt192.2.2.2.1 bt178.1 bt178.2.1 bt178.2.2.1 bt178.2.2.2.1).bind fun t203 => (if t203 = true then (if bt192.2.2.2.2.1 = bt178.2.2.2.2.1 then (laws_FnExactReadHyper.j0 k l0 a1 bt178.2.2.2.2.1 bt178.2.2.2.2.2 t189 bt192.2.2.2.2.1 bt192.2.2.2.2.2 (bt192.2.2.2.2.2 != bt178.2.2.2.2.2) bt178.1 bt178.2.1 bt178.2.2.1 bt178.2.2.2.1 bt192.1 bt192.2.1 bt192.2.2.1 bt192.2.2.2.1) else (laws_FnExactReadHyper.j0 k l0 a1 bt178.2.2.2.2.1 bt178.2.2.2.2.2 t189 bt192.2.2.2.2.1 bt192.2.2.2.2.2 true bt178.1 bt178.2.1 bt178.2.2.1 bt178.2.2.2.1 bt192.1 bt192.2.1 bt192.2.2.1 bt192.2.2.2.1)) else (laws_FnExactReadHyper.j0 k l0 a1 bt178.2.2.2.2.1 bt178.2.2.2.2.2 t189 bt192.2.2.2.2.1 bt192.2.2.2.2.2 true bt178.1 bt178.2.1 bt178.2.2.1 bt178.2.2.2.1 bt192.1 bt192.2.1 bt192.2.2.1 bt192.2.2.2.1)))))))) = some r := h
  clear h
  by_cases c3 : (l0.length : Int) > 1048576
  · rw [if_pos c3] at H
    have c3b0 : decide (1048576 < (l0.length : Int)) = true := decide_eq_true c3
    have c3b1 : decide (1048576 < l0.length) = true := decide_eq_true (by omega)
    clear c3
    obtain rfl := Option.some.inj H
    go_enter Try.func3, Try.ntmps3
    go_wp2
    go_ret
    exact ⟨by first | rfl | (simp [errW_none, errW_some] <;> rfl) | (simp [*, errW_none, errW_some] <;> rfl), by repeat (first | (with_reducible first | exact HB.out | apply below_alloc | apply pw_below_drewN | apply below_drew1) | exact HB.out)⟩
  · rw [if_neg c3] at H
    have c3b0 : decide (1048576 < (l0.length : Int)) = false := decide_eq_false c3
    have c3b1 : decide (1048576 < l0.length) = false := decide_eq_false (by omega)
    clear c3
    replace H := Option.bind_eq_some_iff.mp H
    obtain ⟨t175, A40, H⟩ := H
    replace H : ((spec_ReadHyper.f k t175 a1).bind fun bt178 => ((laws_toByteS.f k l0).bind fun t189 => ((impl_ReadHyper.f k t189 a1).bind fun bt192 => ((laws_eqHFrame.f k bt192.1 bt192.2.1 bt192.2.2.1 bt192.2.2.2.1 bt178.1 bt178.2.1 bt178.2.2.1 bt178.2.2.2.1).bind fun t203 => (if t203 = true then (if bt192.2.2.2.2.1 = bt178.2.2.2.2.1 then (laws_FnExactReadHyper.j0 k l0 a1 bt178.2.2.2.2.1 bt178.2.2.2.2.2 t189 bt192.2.2.2.2.1 bt192.2.2.2.2.2 (bt192.2.2.2.2.2 != bt178.2.2.2.2.2) bt178.1 bt178.2.1 bt178.2.2.1 bt178.2.2.2.1 bt192.1 bt192.2.1 bt192.2.2.1 bt192.2.2.2.1) else (laws_FnExactReadHyper.j0 k l0 a1 bt178.2.2.2.2.1 bt178.2.2.2.2.2 t189 bt192.2.2.2.2.1 bt192.2.2.2.2.2 true bt178.1 bt178.2.1 bt178.2.2.1 bt178.2.2.2.1 bt192.1 bt192.2.1 bt192.2.2.1 bt192.2.2.2.1)) else (laws_FnExactReadHyper.j0 k l0 a1 bt178.2.2.2.2.1 bt178.2.2.2.2.2 t189 bt192.2.2.2.2.1 bt192.2.2.2.2.2 true bt178.1 bt178.2.1 bt178.2.2.1 bt178.2.2.2.1 bt192.1 bt192.2.1 bt192.2.2.1 bt192.2.2.2.1)))))) = some r := H
    have A4 := Aside0.mk A40
    clear A40
    replace H := Option.bind_eq_some_iff.mp H
    obtain ⟨⟨t178, t179, t180, t183, t186, t187⟩, A50, H⟩ := H
    replace H : ((laws_toByteS.f k l0).bind fun t189 => ((impl_ReadHyper.f k t189 a1).bind fun bt192 => ((laws_eqHFrame.f k bt192.1 bt192.2.1 bt192.2.2.1 bt192.2.2.2.1 t178 t179 t180 t183).bind fun t203 => (if t203 = true then (if bt192.2.2.2.2.1 = t186 then (laws_FnExactReadHyper.j0 k l0 a1 t186 t187 t189 bt192.2.2.2.2.1 bt192.2.2.2.2.2 (bt192.2.2.2.2.2 != t187) t178 t179 t180 t183 bt192.1 bt192.2.1 bt192.2.2.1 bt192.2.2.2.1) else (laws_FnExactReadHyper.j0 k l0 a1 t186 t187 t189 bt192.2.2.2.2.1 bt192.2.2.2.2.2 true t178 t179 t180 t183 bt192.1 bt192.2.1 bt192.2.2.1 bt192.2.2.2.1)) else (laws_FnExactReadHyper.j0 k l0 a1 t186 t187 t189 bt192.2.2.2.2.1 bt192.2.2.2.2.2 true t178 t179 t180 t183 bt192.1 bt192.2.1 bt192.2.2.1 bt192.2.2.2.1))))) = some r := H
    have A5 := Aside0.mk A50
    clear A50
    replace H := Option.bind_eq_some_iff.mp H
    obtain ⟨t189, A60, H⟩ := H
    replace H : ((impl_ReadHyper.f k t189 a1).bind fun bt192 => ((laws_eqHFrame.f k bt192.1 bt192.2.1 bt192.2.2.1 bt192.2.2.2.1 t178 t179 t180 t183).bind fun t203 => (if t203 = true then (if bt192.2.2.2.2.1 = t186 then (laws_FnExactReadHyper.j0 k l0 a1 t186 t187 t189 bt192.2.2.2.2.1 bt192.2.2.2.2.2 (bt192.2.2.2.2.2 != t187) t178 t179 t180 t183 bt192.1 bt192.2.1 bt192.2.2.1 bt192.2.2.2.1) else (laws_FnExactReadHyper.j0 k l0 a1 t186 t187 t189 bt192.2.2.2.2.1 bt192.2.2.2.2.2 true t178 t179 t180 t183 bt192.1 bt192.2.1 bt192.2.2.1 bt192.2.2.2.1)) else (laws_FnExactReadHyper.j0 k l0 a1 t186 t187 t189 bt192.2.2.2.2.1 bt192.2.2.2.2.2 true t178 t179 t180 t183 bt192.1 bt192.2.1 bt192.2.2.1 bt192.2.2.2.1)))) = some r := H
    have A6 := Aside0.mk A60
    clear A60
    replace H := Option.bind_eq_some_iff.mp H
    obtain ⟨⟨t192, t193, t194, t197, t200, t201⟩, A70, H⟩ := H
    replace H : ((laws_eqHFrame.f k t192 t193 t194 t197 t178 t179 t180 t183).bind fun t203 => (if t203 = true then (if t200 = t186 then (laws_FnExactReadHyper.j0 k l0 a1 t186 t187 t189 t200 t201 (t201 != t187) t178 t179 t180 t183 t192 t193 t194 t197) else (laws_FnExactReadHyper.j0 k l0 a1 t186 t187 t189 t200 t201 true t178 t179 t180 t183 t192 t193 t194 t197)) else (laws_FnExactReadHyper.j0 k l0 a1 t186 t187 t189 t200 t201 true t178 t179 t180 t183 t192 t193 t194 t197))) = some r := H
    have A7 := Aside0.mk A70
    clear A70
    have HC8 := Aside0.mk H
    clear H
    go_enter Try.func3, Try.ntmps3
    go_upto_region 6 with (first | ((with_reducible refine gate_callee (f := 14) rfl ?_); refine goesL_ (some 23) rfl rfl Try.func14 (by kernel_rfl) rfl #[.slice A0 l0.length c0] rfl (by (try simp only [List.map_toArray, List.map_cons, List.map_nil]); first | done | rfl | (simp only [List.length_drop, List.length_take]; rfl)) ?_; (with_reducible refine (laws_toByteS.calls k _ _ l0 t175 _ ?side1 ?side2 A4.out).mono ?_); (case side1 => repeat (first | exact HR0.out | (with_reducible refine Kd.C_alloc ?_ _) | (with_reducible refine Kd.C_drewN ?_ _) | (with_reducible refine Kd.C_drew ?_))); (case side2 => exact HC0.out); rintro e w9 ⟨v176, rfl, ho0, hb⟩; refine ⟨_, rfl, ?_⟩; have n0_ := Aside0.mk (Kd.R_lower ho0 (below_size (by repeat (first | (with_reducible first | exact HB.out | apply below_alloc | apply pw_below_drewN | apply below_drew1) | exact HB.out)))); have n1_ := Aside0.mk (below_step (by repeat (first | (with_reducible first | exact HB.out | apply below_alloc | apply pw_below_drewN | apply below_drew1) | exact HB.out)) hb); clear HB; have HO177 := n0_; have HB := n1_; clear n0_ n1_; (try clear hb); (try clear hb2); (try clear hk); (try clear hi); (try clear ho0); obtain ⟨Ao10, co10, eo10⟩ := Kd.R_slice HO177.out; subst eo10) | ((with_reducible refine gate_callee (f := 13) rfl ?_); refine goesL_ (some 25) rfl rfl Try.func13 (by kernel_rfl) rfl #[.slice Ao10 t175.length co10, .int .i64 a1] rfl (by (try simp only [List.map_toArray, List.map_cons, List.map_nil]); first | done | rfl | (simp only [List.length_drop, List.length_take]; rfl)) ?_; (with_reducible refine (spec_ReadHyper.calls k _ _ t175 a1 t178 t179 t180 t183 t186 t187 _ ?side1 ?side2 A5.out).mono ?_); (case side1 => repeat (first | exact (Kd.R_reads' HO177.out).2.2 | (with_reducible refine Kd.C_alloc ?_ _) | (with_reducible refine Kd.C_drewN ?_ _) | (with_reducible refine Kd.C_drew ?_))); (case side2 => exact (Kd.R_reads' HO177.out).2.1); rintro e w11 ⟨v181, v184, rfl, ho0, ho1, hb⟩; refine ⟨_, rfl, ?_⟩; have n0_ := Aside0.mk (Kd.R_elder' (by (with_reducible repeat (first | apply Kd.R_alloc | apply Kd.R_drewN | apply Kd.R_drew)); exact HO177.out) (Kd.R_base ho0) hb); have n1_ := Aside0.mk (Kd.R_lower (Kd.R_new' ho0 (Kd.R_lt (by (with_reducible repeat (first | apply Kd.R_alloc | apply Kd.R_drewN | apply Kd.R_drew)); exact HO177.out))) (below_size (by repeat (first | (with_reducible first | exact HB.out | apply below_alloc | apply pw_below_drewN | apply below_drew1) | exact HB.out)))); have n2_ := Aside0.mk (Kd.R_lower ho1 (below_size (by repeat (first | (with_reducible first | exact HB.out | apply below_alloc | apply pw_below_drewN | apply below_drew1) | exact HB.out)))); have n3_ := Aside0.mk (below_step (by repeat (first | (with_reducible first | exact HB.out | apply below_alloc | apply pw_below_drewN | apply below_drew1) | exact HB.out)) hb); clear HO177; clear HB; have HO177 := n0_; have HO182 := n1_; have HO185 := n2_; have HB := n3_; clear n0_ n1_ n2_ n3_; (try clear hb); (try clear hb2); (try clear hk); (try clear hi); (try clear ho0); (try clear ho1)) | ((with_reducible refine gate_dst (N := 5) rfl ?_); refine box_event ?hg (N := 5) ?hd (cs := #[.int .i64 0, .int .i64 0, .slice none 0 0, .slice none 0 0]) (t := 25) ?hr ?_; (case hd => rfl); (case hg => rfl); (case hr => first | (go_simp; done) | (go_simp; rfl)); intro gb188 hg w12 hbox hb; have n0_ := Aside0.mk (Kd.R_below (by (with_reducible repeat (first | apply Kd.R_alloc | apply Kd.R_drewN | apply Kd.R_drew)); exact HO177.out) hb); have n1_ := Aside0.mk (Kd.R_below (by (with_reducible repeat (first | apply Kd.R_alloc | apply Kd.R_drewN | apply Kd.R_drew)); exact HO182.out) hb); have n2_ := Aside0.mk (Kd.R_below (by (with_reducible repeat (first | apply Kd.R_alloc | apply Kd.R_drewN | apply Kd.R_drew)); exact HO185.out) hb); have n3_ := Aside0.mk (below_step (by repeat (first | (with_reducible first | exact HB.out | apply below_alloc | apply pw_below_drewN | apply below_drew1) | exact HB.out)) hb); have n4_ := Aside0.mk (hbox); have n5_ := Aside0.mk ((by rw [hg]; exact (below_size (by repeat (first | (with_reducible first | exact HB.out | apply below_alloc | apply pw_below_drewN | apply below_drew1) | exact HB.out))) : w.heap.size ≤ gb188)); have n6_ := Aside0.mk ((by rw [hg]; exact (below_size (by repeat (first | (with_reducible first | exact HB.out | apply below_alloc | apply pw_below_drewN | apply below_drew1) | exact HB.out))) : w.heap.size ≤ gb188)); clear HO177; clear HO182; clear HO185; clear HB; have HO177 := n0_; have HO182 := n1_; have HO185 := n2_; have HB := n3_; have BK188 := n4_; have GW188 := n5_; have GE188 := n6_; clear n0_ n1_ n2_ n3_ n4_ n5_ n6_; clear hb hbox hg; have hcz13_0 : w12.cell? ⟨gb188, 0, none⟩ = some (.int .i64 0) := (blk_cell BK188.out 0).trans rfl; have hcz13_1 : w12.cell? ⟨gb188, 1, none⟩ = some (.int .i64 0) := (blk_cell BK188.out 1).trans rfl; have hcz13_2 : w12.cell? ⟨gb188, 2, none⟩ = some (.slice none 0 0) := (blk_cell BK188.out 2).trans rfl; have hcz13_3 : w12.cell? ⟨gb188, 3, none⟩ = some (.slice none 0 0) := (blk_cell BK188.out 3).trans rfl; have hfz13_0 := blk_frozen BK188.out 0; have hfz13_1 := blk_frozen BK188.out 1; have hfz13_2 := blk_frozen BK188.out 2; have hfz13_3 := blk_frozen BK188.out 3; obtain ⟨Ao14, co14, eo14⟩ := Kd.R_slice HO182.out; subst eo14; obtain ⟨Ao15, co15, eo15⟩ := Kd.R_slice HO185.out; subst eo15) | ((with_reducible refine gate_callee (f := 14) rfl ?_); refine goesL_ (some 30) rfl rfl Try.func14 (by kernel_rfl) rfl #[.slice A0 l0.length c0] rfl (by (try simp only [List.map_toArray, List.map_cons, List.map_nil]); first | done | rfl | (simp only [List.length_drop, List.length_take]; rfl)) ?_; (with_reducible refine (laws_toByteS.calls k _ _ l0 t189 _ ?side1 ?side2 A6.out).mono ?_); (case side1 => exact Kd.C_below HR0.out (by repeat (first | (with_reducible first | exact HB.out | apply below_alloc | apply pw_below_drewN | apply below_drew1 | refine below_set ?_ GE188.out) | exact HB.out))); (case side2 => exact HC0.out); rintro e w16 ⟨v190, rfl, ho0, hb⟩; refine ⟨_, rfl, ?_⟩; have n0_ := Aside0.mk (Kd.R_elder' (by (with_reducible repeat (first | apply Kd.R_alloc | apply Kd.R_drewN | apply Kd.R_drew)); exact (Kd.R_mono (Kd.R_far (p := ⟨gb188, 3, none⟩) (Kd.R_far (p := ⟨gb188, 2, none⟩) (Kd.R_far (p := ⟨gb188, 1, none⟩) (Kd.R_far (p := ⟨gb188, 0, none⟩) (Kd.R_types HO177.out BK188.out (by decide)) (fun _ hk => hk.2) (.int .i64 t178)) (fun _ hk => hk.2) (.int .i64 t179)) (fun _ hk => hk.2) (.slice Ao14 t180.length co14)) (fun _ hk => hk.2) (.slice Ao15 t183.length co15)) (fun _ h_ => h_.1))) (Kd.R_base ho0) hb); have n1_ := Aside0.mk (Kd.R_elder' (by (with_reducible repeat (first | apply Kd.R_alloc | apply Kd.R_drewN | apply Kd.R_drew)); exact (Kd.R_mono (Kd.R_far (p := ⟨gb188, 3, none⟩) (Kd.R_far (p := ⟨gb188, 2, none⟩) (Kd.R_far (p := ⟨gb188, 1, none⟩) (Kd.R_far (p := ⟨gb188, 0, none⟩) (Kd.R_types HO182.out BK188.out (by decide)) (fun _ hk => hk.2) (.int .i64 t178)) (fun _ hk => hk.2) (.int .i64 t179)) (fun _ hk => hk.2) (.slice Ao14 t180.length co14)) (fun _ hk => hk.2) (.slice Ao15 t183.length co15)) (fun _ h_ => h_.1))) (Kd.R_base ho0) hb); have n2_ := Aside0.mk (Kd.R_below (by (with_reducible repeat (first | apply Kd.R_alloc | apply Kd.R_drewN | apply Kd.R_drew)); exact (Kd.R_mono (Kd.R_far (p := ⟨gb188, 3, none⟩) (Kd.R_far (p := ⟨gb188, 2, none⟩) (Kd.R_far (p := ⟨gb188, 1, none⟩) (Kd.R_far (p := ⟨gb188, 0, none⟩) (Kd.R_types HO185.out BK188.out (by decide)) (fun _ hk => hk.2) (.int .i64 t178)) (fun _ hk => hk.2) (.int .i64 t179)) (fun _ hk => hk.2) (.slice Ao14 t180.length co14)) (fun _ hk => hk.2) (.slice Ao15 t183.length co15)) (fun _ h_ => h_.1))) hb); have n3_ := Aside0.mk (Kd.R_lower (Kd.R_new' (Kd.R_new' ho0 (Kd.R_lt (by (with_reducible repeat (first | apply Kd.R_alloc | apply Kd.R_drewN | apply Kd.R_drew)); exact (Kd.R_mono (Kd.R_far (p := ⟨gb188, 3, none⟩) (Kd.R_far (p := ⟨gb188, 2, none⟩) (Kd.R_far (p := ⟨gb188, 1, none⟩) (Kd.R_far (p := ⟨gb188, 0, none⟩) (Kd.R_types HO177.out BK188.out (by decide)) (fun _ hk => hk.2) (.int .i64 t178)) (fun _ hk => hk.2) (.int .i64 t179)) (fun _ hk => hk.2) (.slice Ao14 t180.length co14)) (fun _ hk => hk.2) (.slice Ao15 t183.length co15)) (fun _ h_ => h_.1))))) (Kd.R_lt (by (with_reducible repeat (first | apply Kd.R_alloc | apply Kd.R_drewN | apply Kd.R_drew)); exact (Kd.R_mono (Kd.R_far (p := ⟨gb188, 3, none⟩) (Kd.R_far (p := ⟨gb188, 2, none⟩) (Kd.R_far (p := ⟨gb188, 1, none⟩) (Kd.R_far (p := ⟨gb188, 0, none⟩) (Kd.R_types HO182.out BK188.out (by decide)) (fun _ hk => hk.2) (.int .i64 t178)) (fun _ hk => hk.2) (.int .i64 t179)) (fun _ hk => hk.2) (.slice Ao14 t180.length co14)) (fun _ hk => hk.2) (.slice Ao15 t183.length co15)) (fun _ h_ => h_.1))))) (below_size (by repeat (first | (with_reducible first | exact HB.out | apply below_alloc | apply pw_below_drewN | apply below_drew1 | refine below_set ?_ GE188.out) | exact HB.out)))); have n4_ := Aside0.mk (blk_below (g := gb188) (o := .cells #[.int .i64 t178, .int .i64 t179, .slice Ao14 t180.length co14, .slice Ao15 t183.length co15] 25 (0, 0)) (by (with_reducible repeat (first | refine blk_drewN ?_ _ | refine blk_drew ?_ | refine blk_alloc ?_ _)); refine blk_put (cs := #[.int .i64 t178, .int .i64 t179, .slice Ao14 t180.length co14, .slice none 0 0]) ?_ 3 _ rfl; (with_reducible repeat (first | refine blk_drewN ?_ _ | refine blk_drew ?_ | refine blk_alloc ?_ _)); refine blk_put (cs := #[.int .i64 t178, .int .i64 t179, .slice none 0 0, .slice none 0 0]) ?_ 2 _ rfl; (with_reducible repeat (first | refine blk_drewN ?_ _ | refine blk_drew ?_ | refine blk_alloc ?_ _)); refine blk_put (cs := #[.int .i64 t178, .int .i64 0, .slice none 0 0, .slice none 0 0]) ?_ 1 _ rfl; (with_reducible repeat (first | refine blk_drewN ?_ _ | refine blk_drew ?_ | refine blk_alloc ?_ _)); refine blk_put (cs := #[.int .i64 0, .int .i64 0, .slice none 0 0, .slice none 0 0]) ?_ 0 _ rfl; (with_reducible repeat (first | refine blk_drewN ?_ _ | refine blk_drew ?_ | refine blk_alloc ?_ _)); exact BK188.out) hb); have n5_ := Aside0.mk (below_step (by repeat (first | (with_reducible first | exact HB.out | apply below_alloc | apply pw_below_drewN | apply below_drew1 | refine below_set ?_ GE188.out) | exact HB.out)) hb); clear HO177; clear HO182; clear HO185; clear BK188; clear HB; have HO177 := n0_; have HO182 := n1_; have HO185 := n2_; have HO191 := n3_; have BK188 := n4_; have HB := n5_; clear n0_ n1_ n2_ n3_ n4_ n5_; (try clear hb); (try clear hb2); (try clear hk); (try clear hi); (try clear ho0); obtain ⟨Ao17, co17, eo17⟩ := Kd.R_slice HO191.out; subst eo17) | ((with_reducible refine gate_callee (f := 15) rfl ?_); refine goesL_ (some 34) rfl rfl Try.func15 (by kernel_rfl) rfl #[.slice Ao17 t189.length co17, .int .i64 a1] rfl (by (try simp only [List.map_toArray, List.map_cons, List.map_nil]); first | done | rfl | (simp only [List.length_drop, List.length_take]; rfl)) ?_; (with_reducible refine (impl_ReadHyper.calls k _ _ t189 a1 t192 t193 t194 t197 t200 t201 _ ?side1 ?side2 A7.out).mono ?_); (case side1 => repeat (first | exact (Kd.R_reads' HO191.out).2.2 | (with_reducible refine Kd.C_alloc ?_ _) | (with_reducible refine Kd.C_drewN ?_ _) | (with_reducible refine Kd.C_drew ?_))); (case side2 => exact (Kd.R_reads' HO191.out).2.1); rintro e w18 ⟨v195, v198, rfl, ho0, ho1, hb⟩; refine ⟨_, rfl, ?_⟩; have n0_ := Aside0.mk (Kd.R_elder' (by (with_reducible repeat (first | apply Kd.R_alloc | apply Kd.R_drewN | apply Kd.R_drew)); exact HO177.out) (Kd.Q_base ho0) hb); have n1_ := Aside0.mk (Kd.R_elder' (by (with_reducible repeat (first | apply Kd.R_alloc | apply Kd.R_drewN | apply Kd.R_drew)); exact HO182.out) (Kd.Q_base ho0) hb); have n2_ := Aside0.mk (Kd.R_elder' (by (with_reducible repeat (first | apply Kd.R_alloc | apply Kd.R_drewN | apply Kd.R_drew)); exact HO185.out) (Kd.R_base ho1) hb); have n3_ := Aside0.mk (Kd.R_elder' (by (with_reducible repeat (first | apply Kd.R_alloc | apply Kd.R_drewN | apply Kd.R_drew)); exact HO191.out) (Kd.Q_base ho0) hb); have n4_ := Aside0.mk (Kd.Q_lower (Kd.Q_new' (Kd.Q_new' (Kd.Q_new' ho0 (Kd.R_lt (by (with_reducible repeat (first | apply Kd.R_alloc | apply Kd.R_drewN | apply Kd.R_drew)); exact HO177.out))) (Kd.R_lt (by (with_reducible repeat (first | apply Kd.R_alloc | apply Kd.R_drewN | apply Kd.R_drew)); exact HO182.out))) (Kd.R_lt (by (with_reducible repeat (first | apply Kd.R_alloc | apply Kd.R_drewN | apply Kd.R_drew)); exact HO191.out))) (below_size (by repeat (first | (with_reducible first | exact HB.out | apply below_alloc | apply pw_below_drewN | apply below_drew1 | refine below_set ?_ GE188.out) | exact HB.out)))); have n5_ := Aside0.mk (Kd.R_lower (Kd.R_new' ho1 (Kd.R_lt (by (with_reducible repeat (first | apply Kd.R_alloc | apply Kd.R_drewN | apply Kd.R_drew)); exact HO185.out))) (below_size (by repeat (first | (with_reducible first | exact HB.out | apply below_alloc | apply pw_below_drewN | apply below_drew1 | refine below_set ?_ GE188.out) | exact HB.out)))); have n6_ := Aside0.mk (blk_below (g := gb188) (o := .cells #[.int .i64 t178, .int .i64 t179, .slice Ao14 t180.length co14, .slice Ao15 t183.length co15] 25 (0, 0)) (by (with_reducible repeat (first | refine blk_drewN ?_ _ | refine blk_drew ?_ | refine blk_alloc ?_ _)); exact BK188.out) hb); have n7_ := Aside0.mk (below_step (by repeat (first | (with_reducible first | exact HB.out | apply below_alloc | apply pw_below_drewN | apply below_drew1 | refine below_set ?_ GE188.out) | exact HB.out)) hb); clear HO177; clear HO182; clear HO185; clear HO191; clear BK188; clear HB; have HO177 := n0_; have HO182 := n1_; have HO185 := n2_; have HO191 := n3_; have HO196 := n4_; have HO199 := n5_; have BK188 := n6_; have HB := n7_; clear n0_ n1_ n2_ n3_ n4_ n5_ n6_ n7_; (try clear hb); (try clear hb2); (try clear hk); (try clear hi); (try clear ho0); (try clear ho1)) | ((with_reducible refine gate_dst (N := 9) rfl ?_); refine box_event ?hg (N := 9) ?hd (cs := #[.int .i64 0, .int .i64 0, .slice none 0 0, .slice none 0 0]) (t := 25) ?hr ?_; (case hd => rfl); (case hg => rfl); (case hr => first | (go_simp; done) | (go_simp; rfl)); intro gb202 hg w19 hbox hb; have n0_ := Aside0.mk (Kd.R_below (by (with_reducible repeat (first | apply Kd.R_alloc | apply Kd.R_drewN | apply Kd.R_drew)); exact HO177.out) hb); have n1_ := Aside0.mk (Kd.R_below (by (with_reducible repeat (first | apply Kd.R_alloc | apply Kd.R_drewN | apply Kd.R_drew)); exact HO182.out) hb); have n2_ := Aside0.mk (Kd.R_below (by (with_reducible repeat (first | apply Kd.R_alloc | apply Kd.R_drewN | apply Kd.R_drew)); exact HO185.out) hb); have n3_ := Aside0.mk (Kd.R_below (by (with_reducible repeat (first | apply Kd.R_alloc | apply Kd.R_drewN | apply Kd.R_drew)); exact HO191.out) hb); have n4_ := Aside0.mk (Kd.Q_below (by (with_reducible repeat (first | apply Kd.Q_alloc | apply Kd.Q_drewN | apply Kd.Q_drew)); exact HO196.out) hb); have n5_ := Aside0.mk (Kd.R_below (by (with_reducible repeat (first | apply Kd.R_alloc | apply Kd.R_drewN | apply Kd.R_drew)); exact HO199.out) hb); have n6_ := Aside0.mk (blk_below (g := gb188) (o := .cells #[.int .i64 t178, .int .i64 t179, .slice Ao14 t180.length co14, .slice Ao15 t183.length co15] 25 (0, 0)) (by (with_reducible repeat (first | refine blk_drewN ?_ _ | refine blk_drew ?_ | refine blk_alloc ?_ _)); exact BK188.out) hb); have n7_ := Aside0.mk (below_step (by repeat (first | (with_reducible first | exact HB.out | apply below_alloc | apply pw_below_drewN | apply below_drew1 | refine below_set ?_ GE188.out) | exact HB.out)) hb); have n8_ := Aside0.mk (hbox); have n9_ := Aside0.mk ((by rw [hg]; exact (below_size (by repeat (first | (with_reducible first | exact HB.out | apply below_alloc | apply pw_below_drewN | apply below_drew1 | refine below_set ?_ GE188.out) | exact HB.out))) : w.heap.size ≤ gb202)); have n10_ := Aside0.mk ((by rw [hg]; exact (below_size (by repeat (first | (with_reducible first | exact HB.out | apply below_alloc | apply pw_below_drewN | apply below_drew1 | refine below_set ?_ GE188.out) | exact HB.out))) : w.heap.size ≤ gb202)); have n11_ := Aside0.mk ((by rw [hg]; exact Nat.ne_of_lt (blk_lt (g := gb188) (o := .cells #[.int .i64 t178, .int .i64 t179, .slice Ao14 t180.length co14, .slice Ao15 t183.length co15] 25 (0, 0)) (by (with_reducible repeat (first | refine blk_drewN ?_ _ | refine blk_drew ?_ | refine blk_alloc ?_ _)); exact BK188.out)) : gb188 ≠ gb202)); have n12_ := Aside0.mk ((by rw [hg]; exact Nat.ne_of_gt (blk_lt (g := gb188) (o := .cells #[.int .i64 t178, .int .i64 t179, .slice Ao14 t180.length co14, .slice Ao15 t183.length co15] 25 (0, 0)) (by (with_reducible repeat (first | refine blk_drewN ?_ _ | refine blk_drew ?_ | refine blk_alloc ?_ _)); exact BK188.out)) : gb202 ≠ gb188)); clear HO177; clear HO182; clear HO185; clear HO191; clear HO196; clear HO199; clear BK188; clear HB; have HO177 := n0_; have HO182 := n1_; have HO185 := n2_; have HO191 := n3_; have HO196 := n4_; have HO199 := n5_; have BK188 := n6_; have HB := n7_; have BK202 := n8_; have GW202 := n9_; have GE202 := n10_; have NB188_202 := n11_; have NB202_188 := n12_; clear n0_ n1_ n2_ n3_ n4_ n5_ n6_ n7_ n8_ n9_ n10_ n11_ n12_; clear hb hbox hg; have hnb20 := NB202_188.out; have hnc20 := NB188_202.out; have hcz21_0 : w19.cell? ⟨gb202, 0, none⟩ = some (.int .i64 0) := (blk_cell BK202.out 0).trans rfl; have hcz21_1 : w19.cell? ⟨gb202, 1, none⟩ = some (.int .i64 0) := (blk_cell BK202.out 1).trans rfl; have hcz21_2 : w19.cell? ⟨gb202, 2, none⟩ = some (.slice none 0 0) := (blk_cell BK202.out 2).trans rfl; have hcz21_3 : w19.cell? ⟨gb202, 3, none⟩ = some (.slice none 0 0) := (blk_cell BK202.out 3).trans rfl; have hfz21_0 := blk_frozen BK202.out 0; have hfz21_1 := blk_frozen BK202.out 1; have hfz21_2 := blk_frozen BK202.out 2; have hfz21_3 := blk_frozen BK202.out 3; obtain ⟨Ao22, co22, eo22, _⟩ := Kd.Q_slice HO196.out; subst eo22; obtain ⟨Ao23, co23, eo23⟩ := Kd.R_slice HO199.out; subst eo23))
    (try simp only [Act.put, List.setIfInBounds_toArray, List.set_cons_zero, List.set_cons_succ])
    go_cut [51] (fun v51 wc => ∃ (kq : Nat) (x51_7 : Bool), v51 = .bool x51_7 ∧ Aside0 (laws_FnExactReadHyper.j0 kq l0 a1 t186 t187 t189 t200 t201 x51_7 t178 t179 t180 t183 t192 t193 t194 t197 = some r) ∧ Aside0 (kq ≤ k) ∧ Aside0 (Kd.R (Kd.int .u8) 5 wc w.heap.size (fun k_ => some k_ ≠ ((.slice Ao14 t180.length co14) : Value).ownBlock ∧ some k_ ≠ ((.slice Ao22 t194.length co22) : Value).ownBlock) (.slice Ao17 t189.length co17) t189) ∧ Aside0 (Kd.Q (Kd.int .u8) 5 wc w.heap.size (fun k_ => some k_ ≠ ((.slice Ao17 t189.length co17) : Value).ownBlock ∧ some k_ ≠ ((.slice Ao22 t194.length co22) : Value).ownBlock) (.slice Ao14 t180.length co14) t180) ∧ Aside0 (Kd.R k122 122 wc w.heap.size (fun k_ => some k_ ≠ ((.slice Ao23 t197.length co23) : Value).ownBlock) (.slice Ao15 t183.length co15) t183) ∧ Aside0 (Kd.Q (Kd.int .u8) 5 wc w.heap.size (fun k_ => some k_ ≠ ((.slice Ao17 t189.length co17) : Value).ownBlock ∧ some k_ ≠ ((.slice Ao14 t180.length co14) : Value).ownBlock) (.slice Ao22 t194.length co22) t194) ∧ Aside0 (Kd.R k122 122 wc w.heap.size (fun k_ => some k_ ≠ ((.slice Ao15 t183.length co15) : Value).ownBlock) (.slice Ao23 t197.length co23) t197) ∧ Aside0 (wc.heap[gb188]? = some (.cells #[.int .i64 t178, .int .i64 t179, (.slice Ao14 t180.length co14), (.slice Ao15 t183.length co15)] 25 (0, 0))) ∧ Aside0 (wc.heap[gb202]? = some (.cells #[.int .i64 t192, .int .i64 t193, (.slice Ao22 t194.length co22), (.slice Ao23 t197.length co23)] 25 (0, 0))) ∧ Aside0 (Below w.heap.size w wc))
    case first =>
      have H := HC8.out
      clear HC8
      replace H := Option.bind_eq_some_iff.mp H
      obtain ⟨t203, A240, H⟩ := H
      replace H : (if t203 = true then (if t200 = t186 then (laws_FnExactReadHyper.j0 k l0 a1 t186 t187 t189 t200 t201 (t201 != t187) t178 t179 t180 t183 t192 t193 t194 t197) else (laws_FnExactReadHyper.j0 k l0 a1 t186 t187 t189 t200 t201 true t178 t179 t180 t183 t192 t193 t194 t197)) else (laws_FnExactReadHyper.j0 k l0 a1 t186 t187 t189 t200 t201 true t178 t179 t180 t183 t192 t193 t194 t197)) = some r := H
      have A24 := Aside0.mk A240
      clear A240
      by_cases c25 : t203 = true
      · subst c25
        have H1 : (if t200 = t186 then (laws_FnExactReadHyper.j0 k l0 a1 t186 t187 t189 t200 t201 (t201 != t187) t178 t179 t180 t183 t192 t193 t194 t197) else (laws_FnExactReadHyper.j0 k l0 a1 t186 t187 t189 t200 t201 true t178 t179 t180 t183 t192 t193 t194 t197)) = some r := by rw [if_pos rfl] at H; exact H
        clear H
        have H := H1
        clear H1
        by_cases c26 : t200 = t186
        · rw [if_pos c26] at H
          have c26b0 : (t200 == t186) = true := beq_iff_eq.mpr c26
          have c26b1 : (t200 != t186) = false := bne_eq_false_iff_eq.mpr c26
          clear c26
          (first | rw [c26b0] | (simp only [i64_w, i32_w]; rw [c26b0]) | skip)
          have H' := Aside0.mk H
          clear H
          have hnb27 := NB202_188.out
          have hnc27 := NB188_202.out
          have hcz28_0 : w19.cell? ⟨gb202, 0, none⟩ = some (.int .i64 0) := (blk_cell BK202.out 0).trans rfl
          have hcz28_1 : w19.cell? ⟨gb202, 1, none⟩ = some (.int .i64 0) := (blk_cell BK202.out 1).trans rfl
          have hcz28_2 : w19.cell? ⟨gb202, 2, none⟩ = some (.slice none 0 0) := (blk_cell BK202.out 2).trans rfl
          have hcz28_3 : w19.cell? ⟨gb202, 3, none⟩ = some (.slice none 0 0) := (blk_cell BK202.out 3).trans rfl
          have hfz28_0 := blk_frozen BK202.out 0
          have hfz28_1 := blk_frozen BK202.out 1
          have hfz28_2 := blk_frozen BK202.out 2
          have hfz28_3 := blk_frozen BK202.out 3
          have hcz29_0 : w19.cell? ⟨gb188, 0, none⟩ = some (.int .i64 t178) := (blk_cell BK188.out 0).trans rfl
          have hcz29_1 : w19.cell? ⟨gb188, 1, none⟩ = some (.int .i64 t179) := (blk_cell BK188.out 1).trans rfl
          have hcz29_2 : w19.cell? ⟨gb188, 2, none⟩ = some (.slice Ao14 t180.length co14) := (blk_cell BK188.out 2).trans rfl
          have hcz29_3 : w19.cell? ⟨gb188, 3, none⟩ = some (.slice Ao15 t183.length co15) := (blk_cell BK188.out 3).trans rfl
          have hfz29_0 := blk_frozen BK188.out 0
          have hfz29_1 := blk_frozen BK188.out 1
          have hfz29_2 := blk_frozen BK188.out 2
          have hfz29_3 := blk_frozen BK188.out 3
          go_wp2_with (first | ((with_reducible refine gate_callee (f := 16) rfl ?_); refine goesL_ (some 40) rfl rfl Try.func16 (by kernel_rfl) rfl #[.agg #[.int .i64 t192, .int .i64 t193, .slice Ao22 t194.length co22, .slice Ao23 t197.length co23], .agg #[.int .i64 t178, .int .i64 t179, .slice Ao14 t180.length co14, .slice Ao15 t183.length co15]] rfl (by (try simp only [List.map_toArray, List.map_cons, List.map_nil]); first | done | rfl | (simp only [List.length_drop, List.length_take]; rfl)) ?_; (with_reducible refine (laws_eqHFrame.calls k t192 t193 _ _ t194 _ _ t197 t178 t179 _ _ t180 _ _ t183 true _ ?side1 ?side2 ?side3 ?side4 ?side5 ?side6 ?side7 ?side8 A24.out).mono ?_); (case side1 => refine (Kd.Q_reads' (e := 5) (base := w.heap.size) (ok := fun k_ => (((True ∧ some k_ ≠ (.slice Ao10 t175.length co10 : Value).ownBlock) ∧ some k_ ≠ (.slice Ao14 t180.length co14 : Value).ownBlock) ∧ some k_ ≠ (.slice Ao17 t189.length co17 : Value).ownBlock)) (n := t194.length) (c := co22) ?_).2.2; exact (by (with_reducible repeat (first | apply Kd.Q_alloc | apply Kd.Q_drewN | apply Kd.Q_drew)); exact (Kd.Q_mono (Kd.Q_far (p := ⟨gb202, 3, none⟩) (Kd.Q_far (p := ⟨gb202, 2, none⟩) (Kd.Q_far (p := ⟨gb202, 1, none⟩) (Kd.Q_far (p := ⟨gb202, 0, none⟩) (Kd.Q_types HO196.out BK202.out (by decide)) (fun _ hk => hk.2) (.int .i64 t192)) (fun _ hk => hk.2) (.int .i64 t193)) (fun _ hk => hk.2) (.slice Ao22 t194.length co22)) (fun _ hk => hk.2) (.slice Ao23 t197.length co23)) (fun _ h_ => h_.1)))); (case side2 => exact (Kd.Q_reads' HO196.out).2.1); (case side3 => refine (Kd.R_reads' (e := 122) (base := w.heap.size) (ok := fun k_ => (True ∧ some k_ ≠ (.slice Ao15 t183.length co15 : Value).ownBlock)) (n := t197.length) (c := co23) ?_).2.2; exact (by (with_reducible repeat (first | apply Kd.R_alloc | apply Kd.R_drewN | apply Kd.R_drew)); exact (Kd.R_mono (Kd.R_far (p := ⟨gb202, 3, none⟩) (Kd.R_far (p := ⟨gb202, 2, none⟩) (Kd.R_far (p := ⟨gb202, 1, none⟩) (Kd.R_far (p := ⟨gb202, 0, none⟩) (Kd.R_types HO199.out BK202.out (by decide)) (fun _ hk => hk.2) (.int .i64 t192)) (fun _ hk => hk.2) (.int .i64 t193)) (fun _ hk => hk.2) (.slice Ao22 t194.length co22)) (fun _ hk => hk.2) (.slice Ao23 t197.length co23)) (fun _ h_ => h_.1)))); (case side4 => exact (Kd.R_reads' HO199.out).2.1); (case side5 => refine (Kd.R_reads' (e := 5) (base := w.heap.size) (ok := fun k_ => (((True ∧ some k_ ≠ (.slice Ao10 t175.length co10 : Value).ownBlock) ∧ some k_ ≠ (.slice Ao17 t189.length co17 : Value).ownBlock) ∧ some k_ ≠ (.slice Ao22 t194.length co22 : Value).ownBlock)) (n := t180.length) (c := co14) ?_).2.2; exact (by (with_reducible repeat (first | apply Kd.R_alloc | apply Kd.R_drewN | apply Kd.R_drew)); exact (Kd.R_mono (Kd.R_far (p := ⟨gb202, 3, none⟩) (Kd.R_far (p := ⟨gb202, 2, none⟩) (Kd.R_far (p := ⟨gb202, 1, none⟩) (Kd.R_far (p := ⟨gb202, 0, none⟩) (Kd.R_types HO182.out BK202.out (by decide)) (fun _ hk => hk.2) (.int .i64 t192)) (fun _ hk => hk.2) (.int .i64 t193)) (fun _ hk => hk.2) (.slice Ao22 t194.length co22)) (fun _ hk => hk.2) (.slice Ao23 t197.length co23)) (fun _ h_ => h_.1)))); (case side6 => exact (Kd.R_reads' HO182.out).2.1); (case side7 => refine (Kd.R_reads' (e := 122) (base := w.heap.size) (ok := fun k_ => (True ∧ some k_ ≠ (.slice Ao23 t197.length co23 : Value).ownBlock)) (n := t183.length) (c := co15) ?_).2.2; exact (by (with_reducible repeat (first | apply Kd.R_alloc | apply Kd.R_drewN | apply Kd.R_drew)); exact (Kd.R_mono (Kd.R_far (p := ⟨gb202, 3, none⟩) (Kd.R_far (p := ⟨gb202, 2, none⟩) (Kd.R_far (p := ⟨gb202, 1, none⟩) (Kd.R_far (p := ⟨gb202, 0, none⟩) (Kd.R_types HO185.out BK202.out (by decide)) (fun _ hk => hk.2) (.int .i64 t192)) (fun _ hk => hk.2) (.int .i64 t193)) (fun _ hk => hk.2) (.slice Ao22 t194.length co22)) (fun _ hk => hk.2) (.slice Ao23 t197.length co23)) (fun _ h_ => h_.1)))); (case side8 => exact (Kd.R_reads' HO185.out).2.1); rintro e w30 ⟨rfl, hb⟩; refine ⟨_, rfl, ?_⟩; have n0_ := Aside0.mk (Kd.R_below (by (with_reducible repeat (first | apply Kd.R_alloc | apply Kd.R_drewN | apply Kd.R_drew)); exact (Kd.R_mono (Kd.R_far (p := ⟨gb202, 3, none⟩) (Kd.R_far (p := ⟨gb202, 2, none⟩) (Kd.R_far (p := ⟨gb202, 1, none⟩) (Kd.R_far (p := ⟨gb202, 0, none⟩) (Kd.R_types HO177.out BK202.out (by decide)) (fun _ hk => hk.2) (.int .i64 t192)) (fun _ hk => hk.2) (.int .i64 t193)) (fun _ hk => hk.2) (.slice Ao22 t194.length co22)) (fun _ hk => hk.2) (.slice Ao23 t197.length co23)) (fun _ h_ => h_.1))) hb); have n1_ := Aside0.mk (Kd.R_below (by (with_reducible repeat (first | apply Kd.R_alloc | apply Kd.R_drewN | apply Kd.R_drew)); exact (Kd.R_mono (Kd.R_far (p := ⟨gb202, 3, none⟩) (Kd.R_far (p := ⟨gb202, 2, none⟩) (Kd.R_far (p := ⟨gb202, 1, none⟩) (Kd.R_far (p := ⟨gb202, 0, none⟩) (Kd.R_types HO182.out BK202.out (by decide)) (fun _ hk => hk.2) (.int .i64 t192)) (fun _ hk => hk.2) (.int .i64 t193)) (fun _ hk => hk.2) (.slice Ao22 t194.length co22)) (fun _ hk => hk.2) (.slice Ao23 t197.length co23)) (fun _ h_ => h_.1))) hb); have n2_ := Aside0.mk (Kd.R_below (by (with_reducible repeat (first | apply Kd.R_alloc | apply Kd.R_drewN | apply Kd.R_drew)); exact (Kd.R_mono (Kd.R_far (p := ⟨gb202, 3, none⟩) (Kd.R_far (p := ⟨gb202, 2, none⟩) (Kd.R_far (p := ⟨gb202, 1, none⟩) (Kd.R_far (p := ⟨gb202, 0, none⟩) (Kd.R_types HO185.out BK202.out (by decide)) (fun _ hk => hk.2) (.int .i64 t192)) (fun _ hk => hk.2) (.int .i64 t193)) (fun _ hk => hk.2) (.slice Ao22 t194.length co22)) (fun _ hk => hk.2) (.slice Ao23 t197.length co23)) (fun _ h_ => h_.1))) hb); have n3_ := Aside0.mk (Kd.R_below (by (with_reducible repeat (first | apply Kd.R_alloc | apply Kd.R_drewN | apply Kd.R_drew)); exact (Kd.R_mono (Kd.R_far (p := ⟨gb202, 3, none⟩) (Kd.R_far (p := ⟨gb202, 2, none⟩) (Kd.R_far (p := ⟨gb202, 1, none⟩) (Kd.R_far (p := ⟨gb202, 0, none⟩) (Kd.R_types HO191.out BK202.out (by decide)) (fun _ hk => hk.2) (.int .i64 t192)) (fun _ hk => hk.2) (.int .i64 t193)) (fun _ hk => hk.2) (.slice Ao22 t194.length co22)) (fun _ hk => hk.2) (.slice Ao23 t197.length co23)) (fun _ h_ => h_.1))) hb); have n4_ := Aside0.mk (Kd.Q_below (by (with_reducible repeat (first | apply Kd.Q_alloc | apply Kd.Q_drewN | apply Kd.Q_drew)); exact (Kd.Q_mono (Kd.Q_far (p := ⟨gb202, 3, none⟩) (Kd.Q_far (p := ⟨gb202, 2, none⟩) (Kd.Q_far (p := ⟨gb202, 1, none⟩) (Kd.Q_far (p := ⟨gb202, 0, none⟩) (Kd.Q_types HO196.out BK202.out (by decide)) (fun _ hk => hk.2) (.int .i64 t192)) (fun _ hk => hk.2) (.int .i64 t193)) (fun _ hk => hk.2) (.slice Ao22 t194.length co22)) (fun _ hk => hk.2) (.slice Ao23 t197.length co23)) (fun _ h_ => h_.1))) hb); have n5_ := Aside0.mk (Kd.R_below (by (with_reducible repeat (first | apply Kd.R_alloc | apply Kd.R_drewN | apply Kd.R_drew)); exact (Kd.R_mono (Kd.R_far (p := ⟨gb202, 3, none⟩) (Kd.R_far (p := ⟨gb202, 2, none⟩) (Kd.R_far (p := ⟨gb202, 1, none⟩) (Kd.R_far (p := ⟨gb202, 0, none⟩) (Kd.R_types HO199.out BK202.out (by decide)) (fun _ hk => hk.2) (.int .i64 t192)) (fun _ hk => hk.2) (.int .i64 t193)) (fun _ hk => hk.2) (.slice Ao22 t194.length co22)) (fun _ hk => hk.2) (.slice Ao23 t197.length co23)) (fun _ h_ => h_.1))) hb); have n6_ := Aside0.mk (blk_below (g := gb188) (o := .cells #[.int .i64 t178, .int .i64 t179, .slice Ao14 t180.length co14, .slice Ao15 t183.length co15] 25 (0, 0)) (by (with_reducible repeat (first | refine blk_drewN ?_ _ | refine blk_drew ?_ | refine blk_alloc ?_ _)); refine blk_far ?_ NB188_202.out _; (with_reducible repeat (first | refine blk_drewN ?_ _ | refine blk_drew ?_ | refine blk_alloc ?_ _)); refine blk_far ?_ NB188_202.out _; (with_reducible repeat (first | refine blk_drewN ?_ _ | refine blk_drew ?_ | refine blk_alloc ?_ _)); refine blk_far ?_ NB188_202.out _; (with_reducible repeat (first | refine blk_drewN ?_ _ | refine blk_drew ?_ | refine blk_alloc ?_ _)); refine blk_far ?_ NB188_202.out _; (with_reducible repeat (first | refine blk_drewN ?_ _ | refine blk_drew ?_ | refine blk_alloc ?_ _)); exact BK188.out) hb); have n7_ := Aside0.mk (blk_below (g := gb202) (o := .cells #[.int .i64 t192, .int .i64 t193, .slice Ao22 t194.length co22, .slice Ao23 t197.length co23] 25 (0, 0)) (by (with_reducible repeat (first | refine blk_drewN ?_ _ | refine blk_drew ?_ | refine blk_alloc ?_ _)); refine blk_put (cs := #[.int .i64 t192, .int .i64 t193, .slice Ao22 t194.length co22, .slice none 0 0]) ?_ 3 _ rfl; (with_reducible repeat (first | refine blk_drewN ?_ _ | refine blk_drew ?_ | refine blk_alloc ?_ _)); refine blk_put (cs := #[.int .i64 t192, .int .i64 t193, .slice none 0 0, .slice none 0 0]) ?_ 2 _ rfl; (with_reducible repeat (first | refine blk_drewN ?_ _ | refine blk_drew ?_ | refine blk_alloc ?_ _)); refine blk_put (cs := #[.int .i64 t192, .int .i64 0, .slice none 0 0, .slice none 0 0]) ?_ 1 _ rfl; (with_reducible repeat (first | refine blk_drewN ?_ _ | refine blk_drew ?_ | refine blk_alloc ?_ _)); refine blk_put (cs := #[.int .i64 0, .int .i64 0, .slice none 0 0, .slice none 0 0]) ?_ 0 _ rfl; (with_reducible repeat (first | refine blk_drewN ?_ _ | refine blk_drew ?_ | refine blk_alloc ?_ _)); exact BK202.out) hb); have n8_ := Aside0.mk (below_step (by repeat (first | (with_reducible first | exact HB.out | apply below_alloc | apply pw_below_drewN | apply below_drew1 | refine below_set ?_ GE188.out | refine below_set ?_ GE202.out) | exact HB.out)) hb); clear HO177; clear HO182; clear HO185; clear HO191; clear HO196; clear HO199; clear BK188; clear BK202; clear HB; have HO177 := n0_; have HO182 := n1_; have HO185 := n2_; have HO191 := n3_; have HO196 := n4_; have HO199 := n5_; have BK188 := n6_; have BK202 := n7_; have HB := n8_; clear n0_ n1_ n2_ n3_ n4_ n5_ n6_ n7_ n8_; (try clear hb); (try clear hb2); (try clear hk); (try clear hi)))
          go_meet
          case rel => exact ⟨_, ((t201 != t187)), (by first | rfl | (simp; done) | (simp [*]; done)), H', ⟨by first | omega | exact Nat.le_refl _⟩, ⟨by (with_reducible repeat (first | apply Kd.R_alloc | apply Kd.R_drewN | apply Kd.R_drew)); exact Kd.R_mono HO191.out (fun _ hk => ⟨hk.1.2, hk.2⟩)⟩, ⟨Kd.Q_of_R (by (with_reducible repeat (first | apply Kd.R_alloc | apply Kd.R_drewN | apply Kd.R_drew)); exact Kd.R_mono HO182.out (fun _ hk => ⟨hk.1.2, hk.2⟩))⟩, ⟨by (with_reducible repeat (first | apply Kd.R_alloc | apply Kd.R_drewN | apply Kd.R_drew)); exact Kd.R_mono HO185.out (fun _ hk => hk.2)⟩, ⟨by (with_reducible repeat (first | apply Kd.Q_alloc | apply Kd.Q_drewN | apply Kd.Q_drew)); exact Kd.Q_mono HO196.out (fun _ hk => ⟨hk.2, hk.1.2⟩)⟩, ⟨by (with_reducible repeat (first | apply Kd.R_alloc | apply Kd.R_drewN | apply Kd.R_drew)); exact Kd.R_mono HO199.out (fun _ hk => hk.2)⟩, ⟨by (with_reducible repeat (first | refine blk_drewN ?_ _ | refine blk_drew ?_ | refine blk_alloc ?_ _)); exact BK188.out⟩, ⟨by (with_reducible repeat (first | refine blk_drewN ?_ _ | refine blk_drew ?_ | refine blk_alloc ?_ _)); exact BK202.out⟩, ⟨by repeat (first | (with_reducible first | exact HB.out | apply below_alloc | apply pw_below_drewN | apply below_drew1 | refine below_set ?_ GE188.out | refine below_set ?_ GE202.out) | exact HB.out)⟩⟩
        · rw [if_neg c26] at H
          have c26b0 : (t200 == t186) = false := beq_eq_false_iff_ne.mpr c26
          have c26b1 : (t200 != t186) = true := bne_iff_ne.mpr c26
          (first | rw [c26b0] | (simp only [i64_w, i32_w]; rw [c26b0]) | skip)
          have H' := Aside0.mk H
          clear H
          have hnb31 := NB202_188.out
          have hnc31 := NB188_202.out
          have hcz32_0 : w19.cell? ⟨gb202, 0, none⟩ = some (.int .i64 0) := (blk_cell BK202.out 0).trans rfl
          have hcz32_1 : w19.cell? ⟨gb202, 1, none⟩ = some (.int .i64 0) := (blk_cell BK202.out 1).trans rfl
          have hcz32_2 : w19.cell? ⟨gb202, 2, none⟩ = some (.slice none 0 0) := (blk_cell BK202.out 2).trans rfl
          have hcz32_3 : w19.cell? ⟨gb202, 3, none⟩ = some (.slice none 0 0) := (blk_cell BK202.out 3).trans rfl
          have hfz32_0 := blk_frozen BK202.out 0
          have hfz32_1 := blk_frozen BK202.out 1
          have hfz32_2 := blk_frozen BK202.out 2
          have hfz32_3 := blk_frozen BK202.out 3
          have hcz33_0 : w19.cell? ⟨gb188, 0, none⟩ = some (.int .i64 t178) := (blk_cell BK188.out 0).trans rfl
          have hcz33_1 : w19.cell? ⟨gb188, 1, none⟩ = some (.int .i64 t179) := (blk_cell BK188.out 1).trans rfl
          have hcz33_2 : w19.cell? ⟨gb188, 2, none⟩ = some (.slice Ao14 t180.length co14) := (blk_cell BK188.out 2).trans rfl
          have hcz33_3 : w19.cell? ⟨gb188, 3, none⟩ = some (.slice Ao15 t183.length co15) := (blk_cell BK188.out 3).trans rfl
          have hfz33_0 := blk_frozen BK188.out 0
          have hfz33_1 := blk_frozen BK188.out 1
          have hfz33_2 := blk_frozen BK188.out 2
          have hfz33_3 := blk_frozen BK188.out 3
          go_wp2_with (first | ((with_reducible refine gate_callee (f := 16) rfl ?_); refine goesL_ (some 40) rfl rfl Try.func16 (by kernel_rfl) rfl #[.agg #[.int .i64 t192, .int .i64 t193, .slice Ao22 t194.length co22, .slice Ao23 t197.length co23], .agg #[.int .i64 t178, .int .i64 t179, .slice Ao14 t180.length co14, .slice Ao15 t183.length co15]] rfl (by (try simp only [List.map_toArray, List.map_cons, List.map_nil]); first | done | rfl | (simp only [List.length_drop, List.length_take]; rfl)) ?_; (with_reducible refine (laws_eqHFrame.calls k t192 t193 _ _ t194 _ _ t197 t178 t179 _ _ t180 _ _ t183 true _ ?side1 ?side2 ?side3 ?side4 ?side5 ?side6 ?side7 ?side8 A24.out).mono ?_); (case side1 => refine (Kd.Q_reads' (e := 5) (base := w.heap.size) (ok := fun k_ => (((True ∧ some k_ ≠ (.slice Ao10 t175.length co10 : Value).ownBlock) ∧ some k_ ≠ (.slice Ao14 t180.length co14 : Value).ownBlock) ∧ some k_ ≠ (.slice Ao17 t189.length co17 : Value).ownBlock)) (n := t194.length) (c := co22) ?_).2.2; exact (by (with_reducible repeat (first | apply Kd.Q_alloc | apply Kd.Q_drewN | apply Kd.Q_drew)); exact (Kd.Q_mono (Kd.Q_far (p := ⟨gb202, 3, none⟩) (Kd.Q_far (p := ⟨gb202, 2, none⟩) (Kd.Q_far (p := ⟨gb202, 1, none⟩) (Kd.Q_far (p := ⟨gb202, 0, none⟩) (Kd.Q_types HO196.out BK202.out (by decide)) (fun _ hk => hk.2) (.int .i64 t192)) (fun _ hk => hk.2) (.int .i64 t193)) (fun _ hk => hk.2) (.slice Ao22 t194.length co22)) (fun _ hk => hk.2) (.slice Ao23 t197.length co23)) (fun _ h_ => h_.1)))); (case side2 => exact (Kd.Q_reads' HO196.out).2.1); (case side3 => refine (Kd.R_reads' (e := 122) (base := w.heap.size) (ok := fun k_ => (True ∧ some k_ ≠ (.slice Ao15 t183.length co15 : Value).ownBlock)) (n := t197.length) (c := co23) ?_).2.2; exact (by (with_reducible repeat (first | apply Kd.R_alloc | apply Kd.R_drewN | apply Kd.R_drew)); exact (Kd.R_mono (Kd.R_far (p := ⟨gb202, 3, none⟩) (Kd.R_far (p := ⟨gb202, 2, none⟩) (Kd.R_far (p := ⟨gb202, 1, none⟩) (Kd.R_far (p := ⟨gb202, 0, none⟩) (Kd.R_types HO199.out BK202.out (by decide)) (fun _ hk => hk.2) (.int .i64 t192)) (fun _ hk => hk.2) (.int .i64 t193)) (fun _ hk => hk.2) (.slice Ao22 t194.length co22)) (fun _ hk => hk.2) (.slice Ao23 t197.length co23)) (fun _ h_ => h_.1)))); (case side4 => exact (Kd.R_reads' HO199.out).2.1); (case side5 => refine (Kd.R_reads' (e := 5) (base := w.heap.size) (ok := fun k_ => (((True ∧ some k_ ≠ (.slice Ao10 t175.length co10 : Value).ownBlock) ∧ some k_ ≠ (.slice Ao17 t189.length co17 : Value).ownBlock) ∧ some k_ ≠ (.slice Ao22 t194.length co22 : Value).ownBlock)) (n := t180.length) (c := co14) ?_).2.2; exact (by (with_reducible repeat (first | apply Kd.R_alloc | apply Kd.R_drewN | apply Kd.R_drew)); exact (Kd.R_mono (Kd.R_far (p := ⟨gb202, 3, none⟩) (Kd.R_far (p := ⟨gb202, 2, none⟩) (Kd.R_far (p := ⟨gb202, 1, none⟩) (Kd.R_far (p := ⟨gb202, 0, none⟩) (Kd.R_types HO182.out BK202.out (by decide)) (fun _ hk => hk.2) (.int .i64 t192)) (fun _ hk => hk.2) (.int .i64 t193)) (fun _ hk => hk.2) (.slice Ao22 t194.length co22)) (fun _ hk => hk.2) (.slice Ao23 t197.length co23)) (fun _ h_ => h_.1)))); (case side6 => exact (Kd.R_reads' HO182.out).2.1); (case side7 => refine (Kd.R_reads' (e := 122) (base := w.heap.size) (ok := fun k_ => (True ∧ some k_ ≠ (.slice Ao23 t197.length co23 : Value).ownBlock)) (n := t183.length) (c := co15) ?_).2.2; exact (by (with_reducible repeat (first | apply Kd.R_alloc | apply Kd.R_drewN | apply Kd.R_drew)); exact (Kd.R_mono (Kd.R_far (p := ⟨gb202, 3, none⟩) (Kd.R_far (p := ⟨gb202, 2, none⟩) (Kd.R_far (p := ⟨gb202, 1, none⟩) (Kd.R_far (p := ⟨gb202, 0, none⟩) (Kd.R_types HO185.out BK202.out (by decide)) (fun _ hk => hk.2) (.int .i64 t192)) (fun _ hk => hk.2) (.int .i64 t193)) (fun _ hk => hk.2) (.slice Ao22 t194.length co22)) (fun _ hk => hk.2) (.slice Ao23 t197.length co23)) (fun _ h_ => h_.1)))); (case side8 => exact (Kd.R_reads' HO185.out).2.1); rintro e w34 ⟨rfl, hb⟩; refine ⟨_, rfl, ?_⟩; have n0_ := Aside0.mk (Kd.R_below (by (with_reducible repeat (first | apply Kd.R_alloc | apply Kd.R_drewN | apply Kd.R_drew)); exact (Kd.R_mono (Kd.R_far (p := ⟨gb202, 3, none⟩) (Kd.R_far (p := ⟨gb202, 2, none⟩) (Kd.R_far (p := ⟨gb202, 1, none⟩) (Kd.R_far (p := ⟨gb202, 0, none⟩) (Kd.R_types HO177.out BK202.out (by decide)) (fun _ hk => hk.2) (.int .i64 t192)) (fun _ hk => hk.2) (.int .i64 t193)) (fun _ hk => hk.2) (.slice Ao22 t194.length co22)) (fun _ hk => hk.2) (.slice Ao23 t197.length co23)) (fun _ h_ => h_.1))) hb); have n1_ := Aside0.mk (Kd.R_below (by (with_reducible repeat (first | apply Kd.R_alloc | apply Kd.R_drewN | apply Kd.R_drew)); exact (Kd.R_mono (Kd.R_far (p := ⟨gb202, 3, none⟩) (Kd.R_far (p := ⟨gb202, 2, none⟩) (Kd.R_far (p := ⟨gb202, 1, none⟩) (Kd.R_far (p := ⟨gb202, 0, none⟩) (Kd.R_types HO182.out BK202.out (by decide)) (fun _ hk => hk.2) (.int .i64 t192)) (fun _ hk => hk.2) (.int .i64 t193)) (fun _ hk => hk.2) (.slice Ao22 t194.length co22)) (fun _ hk => hk.2) (.slice Ao23 t197.length co23)) (fun _ h_ => h_.1))) hb); have n2_ := Aside0.mk (Kd.R_below (by (with_reducible repeat (first | apply Kd.R_alloc | apply Kd.R_drewN | apply Kd.R_drew)); exact (Kd.R_mono (Kd.R_far (p := ⟨gb202, 3, none⟩) (Kd.R_far (p := ⟨gb202, 2, none⟩) (Kd.R_far (p := ⟨gb202, 1, none⟩) (Kd.R_far (p := ⟨gb202, 0, none⟩) (Kd.R_types HO185.out BK202.out (by decide)) (fun _ hk => hk.2) (.int .i64 t192)) (fun _ hk => hk.2) (.int .i64 t193)) (fun _ hk => hk.2) (.slice Ao22 t194.length co22)) (fun _ hk => hk.2) (.slice Ao23 t197.length co23)) (fun _ h_ => h_.1))) hb); have n3_ := Aside0.mk (Kd.R_below (by (with_reducible repeat (first | apply Kd.R_alloc | apply Kd.R_drewN | apply Kd.R_drew)); exact (Kd.R_mono (Kd.R_far (p := ⟨gb202, 3, none⟩) (Kd.R_far (p := ⟨gb202, 2, none⟩) (Kd.R_far (p := ⟨gb202, 1, none⟩) (Kd.R_far (p := ⟨gb202, 0, none⟩) (Kd.R_types HO191.out BK202.out (by decide)) (fun _ hk => hk.2) (.int .i64 t192)) (fun _ hk => hk.2) (.int .i64 t193)) (fun _ hk => hk.2) (.slice Ao22 t194.length co22)) (fun _ hk => hk.2) (.slice Ao23 t197.length co23)) (fun _ h_ => h_.1))) hb); have n4_ := Aside0.mk (Kd.Q_below (by (with_reducible repeat (first | apply Kd.Q_alloc | apply Kd.Q_drewN | apply Kd.Q_drew)); exact (Kd.Q_mono (Kd.Q_far (p := ⟨gb202, 3, none⟩) (Kd.Q_far (p := ⟨gb202, 2, none⟩) (Kd.Q_far (p := ⟨gb202, 1, none⟩) (Kd.Q_far (p := ⟨gb202, 0, none⟩) (Kd.Q_types HO196.out BK202.out (by decide)) (fun _ hk => hk.2) (.int .i64 t192)) (fun _ hk => hk.2) (.int .i64 t193)) (fun _ hk => hk.2) (.slice Ao22 t194.length co22)) (fun _ hk => hk.2) (.slice Ao23 t197.length co23)) (fun _ h_ => h_.1))) hb); have n5_ := Aside0.mk (Kd.R_below (by (with_reducible repeat (first | apply Kd.R_alloc | apply Kd.R_drewN | apply Kd.R_drew)); exact (Kd.R_mono (Kd.R_far (p := ⟨gb202, 3, none⟩) (Kd.R_far (p := ⟨gb202, 2, none⟩) (Kd.R_far (p := ⟨gb202, 1, none⟩) (Kd.R_far (p := ⟨gb202, 0, none⟩) (Kd.R_types HO199.out BK202.out (by decide)) (fun _ hk => hk.2) (.int .i64 t192)) (fun _ hk => hk.2) (.int .i64 t193)) (fun _ hk => hk.2) (.slice Ao22 t194.length co22)) (fun _ hk => hk.2) (.slice Ao23 t197.length co23)) (fun _ h_ => h_.1))) hb); have n6_ := Aside0.mk (blk_below (g := gb188) (o := .cells #[.int .i64 t178, .int .i64 t179, .slice Ao14 t180.length co14, .slice Ao15 t183.length co15] 25 (0, 0)) (by (with_reducible repeat (first | refine blk_drewN ?_ _ | refine blk_drew ?_ | refine blk_alloc ?_ _)); refine blk_far ?_ NB188_202.out _; (with_reducible repeat (first | refine blk_drewN ?_ _ | refine blk_drew ?_ | refine blk_alloc ?_ _)); refine blk_far ?_ NB188_202.out _; (with_reducible repeat (first | refine blk_drewN ?_ _ | refine blk_drew ?_ | refine blk_alloc ?_ _)); refine blk_far ?_ NB188_202.out _; (with_reducible repeat (first | refine blk_drewN ?_ _ | refine blk_drew ?_ | refine blk_alloc ?_ _)); refine blk_far ?_ NB188_202.out _; (with_reducible repeat (first | refine blk_drewN ?_ _ | refine blk_drew ?_ | refine blk_alloc ?_ _)); exact BK188.out) hb); have n7_ := Aside0.mk (blk_below (g := gb202) (o := .cells #[.int .i64 t192, .int .i64 t193, .slice Ao22 t194.length co22, .slice Ao23 t197.length co23] 25 (0, 0)) (by (with_reducible repeat (first | refine blk_drewN ?_ _ | refine blk_drew ?_ | refine blk_alloc ?_ _)); refine blk_put (cs := #[.int .i64 t192, .int .i64 t193, .slice Ao22 t194.length co22, .slice none 0 0]) ?_ 3 _ rfl; (with_reducible repeat (first | refine blk_drewN ?_ _ | refine blk_drew ?_ | refine blk_alloc ?_ _)); refine blk_put (cs := #[.int .i64 t192, .int .i64 t193, .slice none 0 0, .slice none 0 0]) ?_ 2 _ rfl; (with_reducible repeat (first | refine blk_drewN ?_ _ | refine blk_drew ?_ | refine blk_alloc ?_ _)); refine blk_put (cs := #[.int .i64 t192, .int .i64 0, .slice none 0 0, .slice none 0 0]) ?_ 1 _ rfl; (with_reducible repeat (first | refine blk_drewN ?_ _ | refine blk_drew ?_ | refine blk_alloc ?_ _)); refine blk_put (cs := #[.int .i64 0, .int .i64 0, .slice none 0 0, .slice none 0 0]) ?_ 0 _ rfl; (with_reducible repeat (first | refine blk_drewN ?_ _ | refine blk_drew ?_ | refine blk_alloc ?_ _)); exact BK202.out) hb); have n8_ := Aside0.mk (below_step (by repeat (first | (with_reducible first | exact HB.out | apply below_alloc | apply pw_below_drewN | apply below_drew1 | refine below_set ?_ GE188.out | refine below_set ?_ GE202.out) | exact HB.out)) hb); clear HO177; clear HO182; clear HO185; clear HO191; clear HO196; clear HO199; clear BK188; clear BK202; clear HB; have HO177 := n0_; have HO182 := n1_; have HO185 := n2_; have HO191 := n3_; have HO196 := n4_; have HO199 := n5_; have BK188 := n6_; have BK202 := n7_; have HB := n8_; clear n0_ n1_ n2_ n3_ n4_ n5_ n6_ n7_ n8_; (try clear hb); (try clear hb2); (try clear hk); (try clear hi)))
          go_meet
          case rel => exact ⟨_, (true), (by first | rfl | (simp; done) | (simp [*]; done)), H', ⟨by first | omega | exact Nat.le_refl _⟩, ⟨by (with_reducible repeat (first | apply Kd.R_alloc | apply Kd.R_drewN | apply Kd.R_drew)); exact Kd.R_mono HO191.out (fun _ hk => ⟨hk.1.2, hk.2⟩)⟩, ⟨Kd.Q_of_R (by (with_reducible repeat (first | apply Kd.R_alloc | apply Kd.R_drewN | apply Kd.R_drew)); exact Kd.R_mono HO182.out (fun _ hk => ⟨hk.1.2, hk.2⟩))⟩, ⟨by (with_reducible repeat (first | apply Kd.R_alloc | apply Kd.R_drewN | apply Kd.R_drew)); exact Kd.R_mono HO185.out (fun _ hk => hk.2)⟩, ⟨by (with_reducible repeat (first | apply Kd.Q_alloc | apply Kd.Q_drewN | apply Kd.Q_drew)); exact Kd.Q_mono HO196.out (fun _ hk => ⟨hk.2, hk.1.2⟩)⟩, ⟨by (with_reducible repeat (first | apply Kd.R_alloc | apply Kd.R_drewN | apply Kd.R_drew)); exact Kd.R_mono HO199.out (fun _ hk => hk.2)⟩, ⟨by (with_reducible repeat (first | refine blk_drewN ?_ _ | refine blk_drew ?_ | refine blk_alloc ?_ _)); exact BK188.out⟩, ⟨by (with_reducible repeat (first | refine blk_drewN ?_ _ | refine blk_drew ?_ | refine blk_alloc ?_ _)); exact BK202.out⟩, ⟨by repeat (first | (with_reducible first | exact HB.out | apply below_alloc | apply pw_below_drewN | apply below_drew1 | refine below_set ?_ GE188.out | refine below_set ?_ GE202.out) | exact HB.out)⟩⟩
      · replace c25 := Bool.eq_false_iff.mpr c25
        subst c25
        have H1 : (laws_FnExactReadHyper.j0 k l0 a1 t186 t187 t189 t200 t201 true t178 t179 t180 t183 t192 t193 t194 t197) = some r := by rw [if_neg (show ¬ (false = true) by decide)] at H; exact H
        clear H
        have H := H1
        clear H1
        have H' := Aside0.mk H
        clear H
        have hnb35 := NB202_188.out
        have hnc35 := NB188_202.out
        have hcz36_0 : w19.cell? ⟨gb202, 0, none⟩ = some (.int .i64 0) := (blk_cell BK202.out 0).trans rfl
        have hcz36_1 : w19.cell? ⟨gb202, 1, none⟩ = some (.int .i64 0) := (blk_cell BK202.out 1).trans rfl
        have hcz36_2 : w19.cell? ⟨gb202, 2, none⟩ = some (.slice none 0 0) := (blk_cell BK202.out 2).trans rfl
        have hcz36_3 : w19.cell? ⟨gb202, 3, none⟩ = some (.slice none 0 0) := (blk_cell BK202.out 3).trans rfl
        have hfz36_0 := blk_frozen BK202.out 0
        have hfz36_1 := blk_frozen BK202.out 1
        have hfz36_2 := blk_frozen BK202.out 2
        have hfz36_3 := blk_frozen BK202.out 3
        have hcz37_0 : w19.cell? ⟨gb188, 0, none⟩ = some (.int .i64 t178) := (blk_cell BK188.out 0).trans rfl
        have hcz37_1 : w19.cell? ⟨gb188, 1, none⟩ = some (.int .i64 t179) := (blk_cell BK188.out 1).trans rfl
        have hcz37_2 : w19.cell? ⟨gb188, 2, none⟩ = some (.slice Ao14 t180.length co14) := (blk_cell BK188.out 2).trans rfl
        have hcz37_3 : w19.cell? ⟨gb188, 3, none⟩ = some (.slice Ao15 t183.length co15) := (blk_cell BK188.out 3).trans rfl
        have hfz37_0 := blk_frozen BK188.out 0
        have hfz37_1 := blk_frozen BK188.out 1
        have hfz37_2 := blk_frozen BK188.out 2
        have hfz37_3 := blk_frozen BK188.out 3
        go_wp2_with (first | ((with_reducible refine gate_callee (f := 16) rfl ?_); refine goesL_ (some 40) rfl rfl Try.func16 (by kernel_rfl) rfl #[.agg #[.int .i64 t192, .int .i64 t193, .slice Ao22 t194.length co22, .slice Ao23 t197.length co23], .agg #[.int .i64 t178, .int .i64 t179, .slice Ao14 t180.length co14, .slice Ao15 t183.length co15]] rfl (by (try simp only [List.map_toArray, List.map_cons, List.map_nil]); first | done | rfl | (simp only [List.length_drop, List.length_take]; rfl)) ?_; (with_reducible refine (laws_eqHFrame.calls k t192 t193 _ _ t194 _ _ t197 t178 t179 _ _ t180 _ _ t183 false _ ?side1 ?side2 ?side3 ?side4 ?side5 ?side6 ?side7 ?side8 A24.out).mono ?_); (case side1 => refine (Kd.Q_reads' (e := 5) (base := w.heap.size) (ok := fun k_ => (((True ∧ some k_ ≠ (.slice Ao10 t175.length co10 : Value).ownBlock) ∧ some k_ ≠ (.slice Ao14 t180.length co14 : Value).ownBlock) ∧ some k_ ≠ (.slice Ao17 t189.length co17 : Value).ownBlock)) (n := t194.length) (c := co22) ?_).2.2; exact (by (with_reducible repeat (first | apply Kd.Q_alloc | apply Kd.Q_drewN | apply Kd.Q_drew)); exact (Kd.Q_mono (Kd.Q_far (p := ⟨gb202, 3, none⟩) (Kd.Q_far (p := ⟨gb202, 2, none⟩) (Kd.Q_far (p := ⟨gb202, 1, none⟩) (Kd.Q_far (p := ⟨gb202, 0, none⟩) (Kd.Q_types HO196.out BK202.out (by decide)) (fun _ hk => hk.2) (.int .i64 t192)) (fun _ hk => hk.2) (.int .i64 t193)) (fun _ hk => hk.2) (.slice Ao22 t194.length co22)) (fun _ hk => hk.2) (.slice Ao23 t197.length co23)) (fun _ h_ => h_.1)))); (case side2 => exact (Kd.Q_reads' HO196.out).2.1); (case side3 => refine (Kd.R_reads' (e := 122) (base := w.heap.size) (ok := fun k_ => (True ∧ some k_ ≠ (.slice Ao15 t183.length co15 : Value).ownBlock)) (n := t197.length) (c := co23) ?_).2.2; exact (by (with_reducible repeat (first | apply Kd.R_alloc | apply Kd.R_drewN | apply Kd.R_drew)); exact (Kd.R_mono (Kd.R_far (p := ⟨gb202, 3, none⟩) (Kd.R_far (p := ⟨gb202, 2, none⟩) (Kd.R_far (p := ⟨gb202, 1, none⟩) (Kd.R_far (p := ⟨gb202, 0, none⟩) (Kd.R_types HO199.out BK202.out (by decide)) (fun _ hk => hk.2) (.int .i64 t192)) (fun _ hk => hk.2) (.int .i64 t193)) (fun _ hk => hk.2) (.slice Ao22 t194.length co22)) (fun _ hk => hk.2) (.slice Ao23 t197.length co23)) (fun _ h_ => h_.1)))); (case side4 => exact (Kd.R_reads' HO199.out).2.1); (case side5 => refine (Kd.R_reads' (e := 5) (base := w.heap.size) (ok := fun k_ => (((True ∧ some k_ ≠ (.slice Ao10 t175.length co10 : Value).ownBlock) ∧ some k_ ≠ (.slice Ao17 t189.length co17 : Value).ownBlock) ∧ some k_ ≠ (.slice Ao22 t194.length co22 : Value).ownBlock)) (n := t180.length) (c := co14) ?_).2.2; exact (by (with_reducible repeat (first | apply Kd.R_alloc | apply Kd.R_drewN | apply Kd.R_drew)); exact (Kd.R_mono (Kd.R_far (p := ⟨gb202, 3, none⟩) (Kd.R_far (p := ⟨gb202, 2, none⟩) (Kd.R_far (p := ⟨gb202, 1, none⟩) (Kd.R_far (p := ⟨gb202, 0, none⟩) (Kd.R_types HO182.out BK202.out (by decide)) (fun _ hk => hk.2) (.int .i64 t192)) (fun _ hk => hk.2) (.int .i64 t193)) (fun _ hk => hk.2) (.slice Ao22 t194.length co22)) (fun _ hk => hk.2) (.slice Ao23 t197.length co23)) (fun _ h_ => h_.1)))); (case side6 => exact (Kd.R_reads' HO182.out).2.1); (case side7 => refine (Kd.R_reads' (e := 122) (base := w.heap.size) (ok := fun k_ => (True ∧ some k_ ≠ (.slice Ao23 t197.length co23 : Value).ownBlock)) (n := t183.length) (c := co15) ?_).2.2; exact (by (with_reducible repeat (first | apply Kd.R_alloc | apply Kd.R_drewN | apply Kd.R_drew)); exact (Kd.R_mono (Kd.R_far (p := ⟨gb202, 3, none⟩) (Kd.R_far (p := ⟨gb202, 2, none⟩) (Kd.R_far (p := ⟨gb202, 1, none⟩) (Kd.R_far (p := ⟨gb202, 0, none⟩) (Kd.R_types HO185.out BK202.out (by decide)) (fun _ hk => hk.2) (.int .i64 t192)) (fun _ hk => hk.2) (.int .i64 t193)) (fun _ hk => hk.2) (.slice Ao22 t194.length co22)) (fun _ hk => hk.2) (.slice Ao23 t197.length co23)) (fun _ h_ => h_.1)))); (case side8 => exact (Kd.R_reads' HO185.out).2.1); rintro e w38 ⟨rfl, hb⟩; refine ⟨_, rfl, ?_⟩; have n0_ := Aside0.mk (Kd.R_below (by (with_reducible repeat (first | apply Kd.R_alloc | apply Kd.R_drewN | apply Kd.R_drew)); exact (Kd.R_mono (Kd.R_far (p := ⟨gb202, 3, none⟩) (Kd.R_far (p := ⟨gb202, 2, none⟩) (Kd.R_far (p := ⟨gb202, 1, none⟩) (Kd.R_far (p := ⟨gb202, 0, none⟩) (Kd.R_types HO177.out BK202.out (by decide)) (fun _ hk => hk.2) (.int .i64 t192)) (fun _ hk => hk.2) (.int .i64 t193)) (fun _ hk => hk.2) (.slice Ao22 t194.length co22)) (fun _ hk => hk.2) (.slice Ao23 t197.length co23)) (fun _ h_ => h_.1))) hb); have n1_ := Aside0.mk (Kd.R_below (by (with_reducible repeat (first | apply Kd.R_alloc | apply Kd.R_drewN | apply Kd.R_drew)); exact (Kd.R_mono (Kd.R_far (p := ⟨gb202, 3, none⟩) (Kd.R_far (p := ⟨gb202, 2, none⟩) (Kd.R_far (p := ⟨gb202, 1, none⟩) (Kd.R_far (p := ⟨gb202, 0, none⟩) (Kd.R_types HO182.out BK202.out (by decide)) (fun _ hk => hk.2) (.int .i64 t192)) (fun _ hk => hk.2) (.int .i64 t193)) (fun _ hk => hk.2) (.slice Ao22 t194.length co22)) (fun _ hk => hk.2) (.slice Ao23 t197.length co23)) (fun _ h_ => h_.1))) hb); have n2_ := Aside0.mk (Kd.R_below (by (with_reducible repeat (first | apply Kd.R_alloc | apply Kd.R_drewN | apply Kd.R_drew)); exact (Kd.R_mono (Kd.R_far (p := ⟨gb202, 3, none⟩) (Kd.R_far (p := ⟨gb202, 2, none⟩) (Kd.R_far (p := ⟨gb202, 1, none⟩) (Kd.R_far (p := ⟨gb202, 0, none⟩) (Kd.R_types HO185.out BK202.out (by decide)) (fun _ hk => hk.2) (.int .i64 t192)) (fun _ hk => hk.2) (.int .i64 t193)) (fun _ hk => hk.2) (.slice Ao22 t194.length co22)) (fun _ hk => hk.2) (.slice Ao23 t197.length co23)) (fun _ h_ => h_.1))) hb); have n3_ := Aside0.mk (Kd.R_below (by (with_reducible repeat (first | apply Kd.R_alloc | apply Kd.R_drewN | apply Kd.R_drew)); exact (Kd.R_mono (Kd.R_far (p := ⟨gb202, 3, none⟩) (Kd.R_far (p := ⟨gb202, 2, none⟩) (Kd.R_far (p := ⟨gb202, 1, none⟩) (Kd.R_far (p := ⟨gb202, 0, none⟩) (Kd.R_types HO191.out BK202.out (by decide)) (fun _ hk => hk.2) (.int .i64 t192)) (fun _ hk => hk.2) (.int .i64 t193)) (fun _ hk => hk.2) (.slice Ao22 t194.length co22)) (fun _ hk => hk.2) (.slice Ao23 t197.length co23)) (fun _ h_ => h_.1))) hb); have n4_ := Aside0.mk (Kd.Q_below (by (with_reducible repeat (first | apply Kd.Q_alloc | apply Kd.Q_drewN | apply Kd.Q_drew)); exact (Kd.Q_mono (Kd.Q_far (p := ⟨gb202, 3, none⟩) (Kd.Q_far (p := ⟨gb202, 2, none⟩) (Kd.Q_far (p := ⟨gb202, 1, none⟩) (Kd.Q_far (p := ⟨gb202, 0, none⟩) (Kd.Q_types HO196.out BK202.out (by decide)) (fun _ hk => hk.2) (.int .i64 t192)) (fun _ hk => hk.2) (.int .i64 t193)) (fun _ hk => hk.2) (.slice Ao22 t194.length co22)) (fun _ hk => hk.2) (.slice Ao23 t197.length co23)) (fun _ h_ => h_.1))) hb); have n5_ := Aside0.mk (Kd.R_below (by (with_reducible repeat (first | apply Kd.R_alloc | apply Kd.R_drewN | apply Kd.R_drew)); exact (Kd.R_mono (Kd.R_far (p := ⟨gb202, 3, none⟩) (Kd.R_far (p := ⟨gb202, 2, none⟩) (Kd.R_far (p := ⟨gb202, 1, none⟩) (Kd.R_far (p := ⟨gb202, 0, none⟩) (Kd.R_types HO199.out BK202.out (by decide)) (fun _ hk => hk.2) (.int .i64 t192)) (fun _ hk => hk.2) (.int .i64 t193)) (fun _ hk => hk.2) (.slice Ao22 t194.length co22)) (fun _ hk => hk.2) (.slice Ao23 t197.length co23)) (fun _ h_ => h_.1))) hb); have n6_ := Aside0.mk (blk_below (g := gb188) (o := .cells #[.int .i64 t178, .int .i64 t179, .slice Ao14 t180.length co14, .slice Ao15 t183.length co15] 25 (0, 0)) (by (with_reducible repeat (first | refine blk_drewN ?_ _ | refine blk_drew ?_ | refine blk_alloc ?_ _)); refine blk_far ?_ NB188_202.out _; (with_reducible repeat (first | refine blk_drewN ?_ _ | refine blk_drew ?_ | refine blk_alloc ?_ _)); refine blk_far ?_ NB188_202.out _; (with_reducible repeat (first | refine blk_drewN ?_ _ | refine blk_drew ?_ | refine blk_alloc ?_ _)); refine blk_far ?_ NB188_202.out _; (with_reducible repeat (first | refine blk_drewN ?_ _ | refine blk_drew ?_ | refine blk_alloc ?_ _)); refine blk_far ?_ NB188_202.out _; (with_reducible repeat (first | refine blk_drewN ?_ _ | refine blk_drew ?_ | refine blk_alloc ?_ _)); exact BK188.out) hb); have n7_ := Aside0.mk (blk_below (g := gb202) (o := .cells #[.int .i64 t192, .int .i64 t193, .slice Ao22 t194.length co22, .slice Ao23 t197.length co23] 25 (0, 0)) (by (with_reducible repeat (first | refine blk_drewN ?_ _ | refine blk_drew ?_ | refine blk_alloc ?_ _)); refine blk_put (cs := #[.int .i64 t192, .int .i64 t193, .slice Ao22 t194.length co22, .slice none 0 0]) ?_ 3 _ rfl; (with_reducible repeat (first | refine blk_drewN ?_ _ | refine blk_drew ?_ | refine blk_alloc ?_ _)); refine blk_put (cs := #[.int .i64 t192, .int .i64 t193, .slice none 0 0, .slice none 0 0]) ?_ 2 _ rfl; (with_reducible repeat (first | refine blk_drewN ?_ _ | refine blk_drew ?_ | refine blk_alloc ?_ _)); refine blk_put (cs := #[.int .i64 t192, .int .i64 0, .slice none 0 0, .slice none 0 0]) ?_ 1 _ rfl; (with_reducible repeat (first | refine blk_drewN ?_ _ | refine blk_drew ?_ | refine blk_alloc ?_ _)); refine blk_put (cs := #[.int .i64 0, .int .i64 0, .slice none 0 0, .slice none 0 0]) ?_ 0 _ rfl; (with_reducible repeat (first | refine blk_drewN ?_ _ | refine blk_drew ?_ | refine blk_alloc ?_ _)); exact BK202.out) hb); have n8_ := Aside0.mk (below_step (by repeat (first | (with_reducible first | exact HB.out | apply below_alloc | apply pw_below_drewN | apply below_drew1 | refine below_set ?_ GE188.out | refine below_set ?_ GE202.out) | exact HB.out)) hb); clear HO177; clear HO182; clear HO185; clear HO191; clear HO196; clear HO199; clear BK188; clear BK202; clear HB; have HO177 := n0_; have HO182 := n1_; have HO185 := n2_; have HO191 := n3_; have HO196 := n4_; have HO199 := n5_; have BK188 := n6_; have BK202 := n7_; have HB := n8_; clear n0_ n1_ n2_ n3_ n4_ n5_ n6_ n7_ n8_; (try clear hb); (try clear hb2); (try clear hk); (try clear hi)))
        go_meet
        case rel => exact ⟨_, (true), (by first | rfl | (simp; done) | (simp [*]; done)), H', ⟨by first | omega | exact Nat.le_refl _⟩, ⟨by (with_reducible repeat (first | apply Kd.R_alloc | apply Kd.R_drewN | apply Kd.R_drew)); exact Kd.R_mono HO191.out (fun _ hk => ⟨hk.1.2, hk.2⟩)⟩, ⟨Kd.Q_of_R (by (with_reducible repeat (first | apply Kd.R_alloc | apply Kd.R_drewN | apply Kd.R_drew)); exact Kd.R_mono HO182.out (fun _ hk => ⟨hk.1.2, hk.2⟩))⟩, ⟨by (with_reducible repeat (first | apply Kd.R_alloc | apply Kd.R_drewN | apply Kd.R_drew)); exact Kd.R_mono HO185.out (fun _ hk => hk.2)⟩, ⟨by (with_reducible repeat (first | apply Kd.Q_alloc | apply Kd.Q_drewN | apply Kd.Q_drew)); exact Kd.Q_mono HO196.out (fun _ hk => ⟨hk.2, hk.1.2⟩)⟩, ⟨by (with_reducible repeat (first | apply Kd.R_alloc | apply Kd.R_drewN | apply Kd.R_drew)); exact Kd.R_mono HO199.out (fun _ hk => hk.2)⟩, ⟨by (with_reducible repeat (first | refine blk_drewN ?_ _ | refine blk_drew ?_ | refine blk_alloc ?_ _)); exact BK188.out⟩, ⟨by (with_reducible repeat (first | refine blk_drewN ?_ _ | refine blk_drew ?_ | refine blk_alloc ?_ _)); exact BK202.out⟩, ⟨by repeat (first | (with_reducible first | exact HB.out | apply below_alloc | apply pw_below_drewN | apply below_drew1 | refine below_set ?_ GE188.out | refine below_set ?_ GE202.out) | exact HB.out)⟩⟩
    case rest =>
      clear HC8
      try clear c1
      try clear c2
      try clear p2
      try clear c3
      try clear c3b0
      try clear c3b1
      try clear c13
      try clear c14
      try clear c15
      try clear c16
      try clear c20
      try clear c25
      try clear c26
      try clear c26b0
      try clear c26b1
      try clear c27
      try clear c31
      try clear c35
      try clear hcz13_0
      try clear hcz13_1
      try clear hcz13_2
      try clear hcz13_3
      try clear hcz21_0
      try clear hcz21_1
      try clear hcz21_2
      try clear hcz21_3
      try clear hcz28_0
      try clear hcz28_1
      try clear hcz28_2
      try clear hcz28_3
      try clear hcz29_0
      try clear hcz29_1
      try clear hcz29_2
      try clear hcz29_3
      try clear hcz32_0
      try clear hcz32_1
      try clear hcz32_2
      try clear hcz32_3
      try clear hcz33_0
      try clear hcz33_1
      try clear hcz33_2
      try clear hcz33_3
      try clear hcz36_0
      try clear hcz36_1
      try clear hcz36_2
      try clear hcz36_3
      try clear hcz37_0
      try clear hcz37_1
      try clear hcz37_2
      try clear hcz37_3
      try clear hfz13_0
      try clear hfz13_1
      try clear hfz13_2
      try clear hfz13_3
      try clear hfz21_0
      try clear hfz21_1
      try clear hfz21_2
      try clear hfz21_3
      try clear hfz28_0
      try clear hfz28_1
      try clear hfz28_2
      try clear hfz28_3
      try clear hfz29_0
      try clear hfz29_1
      try clear hfz29_2
      try clear hfz29_3
      try clear hfz32_0
      try clear hfz32_1
      try clear hfz32_2
      try clear hfz32_3
      try clear hfz33_0
      try clear hfz33_1
      try clear hfz33_2
      try clear hfz33_3
      try clear hfz36_0
      try clear hfz36_1
      try clear hfz36_2
      try clear hfz36_3
      try clear hfz37_0
      try clear hfz37_1
      try clear hfz37_2
      try clear hfz37_3
      obtain ⟨kq, x51_7, rfl, HA, HJ7, HO_8, HO_189002, HO_189003, HO_203002, HO_203003, BK188, BK202, HB⟩ := hcut
      cases kq with
      | zero => exact absurd HA.out (by simp [laws_FnExactReadHyper.j0])
      | succ kj7 =>
        have H := HA.out
        clear HA
        simp only [laws_FnExactReadHyper.j0] at H
        by_cases c39 : x51_7 = true
        · subst c39
          have H1 : (some false) = some r := by rw [if_pos rfl] at H; exact H
          clear H
          have H := H1
          clear H1
          obtain rfl := Option.some.inj H
          go_wp2
          go_ret
          exact ⟨by first | rfl | (simp [errW_none, errW_some] <;> rfl) | (simp [*, errW_none, errW_some] <;> rfl), by repeat (first | (with_reducible first | exact HB.out | apply below_alloc | apply pw_below_drewN | apply below_drew1 | refine below_set ?_ GE188.out | refine below_set ?_ GE202.out) | exact HB.out)⟩
        · replace c39 := Bool.eq_false_iff.mpr c39
          subst c39
          have H1 : ((laws_toByteS.f kj7 l0).bind fun t204 => ((laws_eqByteS.f kj7 t189 t204).bind fun t207 => (if t207 = true then ((laws_markByteS.f kj7 t189 1).bind fun bt208 => (if bt208.1 < 0 then (laws_FnExactReadHyper.j1 kj7 l0 a1 t186 t187 true t178 t179 t180 t183 t192 t193 t194 t197) else ((laws_eqHFrame.f kj7 t192 t193 t194 t197 t178 t179 t180 t183).bind fun t210 => (if t210 = true then (if t200 = t186 then (laws_FnExactReadHyper.j1 kj7 l0 a1 t186 t187 (t201 != t187) t178 t179 t180 t183 t192 t193 t194 t197) else (laws_FnExactReadHyper.j1 kj7 l0 a1 t186 t187 true t178 t179 t180 t183 t192 t193 t194 t197)) else (laws_FnExactReadHyper.j1 kj7 l0 a1 t186 t187 true t178 t179 t180 t183 t192 t193 t194 t197))))) else (some false)))) = some r := by rw [if_neg (show ¬ (false = true) by decide)] at H; exact H
          clear H
          have H := H1
          clear H1
          replace H := Option.bind_eq_some_iff.mp H
          obtain ⟨t204, A400, H⟩ := H
          replace H : ((laws_eqByteS.f kj7 t189 t204).bind fun t207 => (if t207 = true then ((laws_markByteS.f kj7 t189 1).bind fun bt208 => (if bt208.1 < 0 then (laws_FnExactReadHyper.j1 kj7 l0 a1 t186 t187 true t178 t179 t180 t183 t192 t193 t194 t197) else ((laws_eqHFrame.f kj7 t192 t193 t194 t197 t178 t179 t180 t183).bind fun t210 => (if t210 = true then (if t200 = t186 then (laws_FnExactReadHyper.j1 kj7 l0 a1 t186 t187 (t201 != t187) t178 t179 t180 t183 t192 t193 t194 t197) else (laws_FnExactReadHyper.j1 kj7 l0 a1 t186 t187 true t178 t179 t180 t183 t192 t193 t194 t197)) else (laws_FnExactReadHyper.j1 kj7 l0 a1 t186 t187 true t178 t179 t180 t183 t192 t193 t194 t197))))) else (some false))) = some r := H
          have A40 := Aside0.mk A400
          clear A400
          replace H := Option.bind_eq_some_iff.mp H
          obtain ⟨t207, A410, H⟩ := H
          replace H : (if t207 = true then ((laws_markByteS.f kj7 t189 1).bind fun bt208 => (if bt208.1 < 0 then (laws_FnExactReadHyper.j1 kj7 l0 a1 t186 t187 true t178 t179 t180 t183 t192 t193 t194 t197) else ((laws_eqHFrame.f kj7 t192 t193 t194 t197 t178 t179 t180 t183).bind fun t210 => (if t210 = true then (if t200 = t186 then (laws_FnExactReadHyper.j1 kj7 l0 a1 t186 t187 (t201 != t187) t178 t179 t180 t183 t192 t193 t194 t197) else (laws_FnExactReadHyper.j1 kj7 l0 a1 t186 t187 true t178 t179 t180 t183 t192 t193 t194 t197)) else (laws_FnExactReadHyper.j1 kj7 l0 a1 t186 t187 true t178 t179 t180 t183 t192 t193 t194 t197))))) else (some false)) = some r := H
          have A41 := Aside0.mk A410
          clear A410
          by_cases c42 : t207 = true
          · subst c42
            have H1 : ((laws_markByteS.f kj7 t189 1).bind fun bt208 => (if bt208.1 < 0 then (laws_FnExactReadHyper.j1 kj7 l0 a1 t186 t187 true t178 t179 t180 t183 t192 t193 t194 t197) else ((laws_eqHFrame.f kj7 t192 t193 t194 t197 t178 t179 t180 t183).bind fun t210 => (if t210 = true then (if t200 = t186 then (laws_FnExactReadHyper.j1 kj7 l0 a1 t186 t187 (t201 != t187) t178 t179 t180 t183 t192 t193 t194 t197) else (laws_FnExactReadHyper.j1 kj7 l0 a1 t186 t187 true t178 t179 t180 t183 t192 t193 t194 t197)) else (laws_FnExactReadHyper.j1 kj7 l0 a1 t186 t187 true t178 t179 t180 t183 t192 t193 t194 t197))))) = some r := by rw [if_pos rfl] at H; exact H
            clear H
            have H := H1
            clear H1
            replace H := Option.bind_eq_some_iff.mp H
            obtain ⟨⟨t208, t209⟩, A430, H⟩ := H
            replace H : (if t208 < 0 then (laws_FnExactReadHyper.j1 kj7 l0 a1 t186 t187 true t178 t179 t180 t183 t192 t193 t194 t197) else ((laws_eqHFrame.f kj7 t192 t193 t194 t197 t178 t179 t180 t183).bind fun t210 => (if t210 = true then (if t200 = t186 then (laws_FnExactReadHyper.j1 kj7 l0 a1 t186 t187 (t201 != t187) t178 t179 t180 t183 t192 t193 t194 t197) else (laws_FnExactReadHyper.j1 kj7 l0 a1 t186 t187 true t178 t179 t180 t183 t192 t193 t194 t197)) else (laws_FnExactReadHyper.j1 kj7 l0 a1 t186 t187 true t178 t179 t180 t183 t192 t193 t194 t197)))) = some r := H
            have A43 := Aside0.mk A430
            clear A430
            have HC44 := Aside0.mk H
            clear H
            go_upto_region 12 with (first | ((with_reducible refine gate_callee (f := 14) rfl ?_); refine goesL_ (some 54) rfl rfl Try.func14 (by kernel_rfl) rfl #[.slice A0 l0.length c0] rfl (by (try simp only [List.map_toArray, List.map_cons, List.map_nil]); first | done | rfl | (simp only [List.length_drop, List.length_take]; rfl)) ?_; (with_reducible refine (laws_toByteS.calls kj7 _ _ l0 t204 _ ?side1 ?side2 A40.out).mono ?_); (case side1 => repeat (first | exact (Kd.C_below HR0.out HB.out) | (with_reducible refine Kd.C_alloc ?_ _) | (with_reducible refine Kd.C_drewN ?_ _) | (with_reducible refine Kd.C_drew ?_))); (case side2 => exact HC0.out); rintro e w45 ⟨v205, rfl, ho0, hb⟩; refine ⟨_, rfl, ?_⟩; have n0_ := Aside0.mk (Kd.R_elder' (by (with_reducible repeat (first | apply Kd.R_alloc | apply Kd.R_drewN | apply Kd.R_drew)); exact HO_8.out) (Kd.R_base ho0) hb); have n1_ := Aside0.mk (Kd.Q_elder' (by (with_reducible repeat (first | apply Kd.Q_alloc | apply Kd.Q_drewN | apply Kd.Q_drew)); exact HO_189002.out) (Kd.R_base ho0) hb); have n2_ := Aside0.mk (Kd.R_below (by (with_reducible repeat (first | apply Kd.R_alloc | apply Kd.R_drewN | apply Kd.R_drew)); exact HO_189003.out) hb); have n3_ := Aside0.mk (Kd.Q_elder' (by (with_reducible repeat (first | apply Kd.Q_alloc | apply Kd.Q_drewN | apply Kd.Q_drew)); exact HO_203002.out) (Kd.R_base ho0) hb); have n4_ := Aside0.mk (Kd.R_below (by (with_reducible repeat (first | apply Kd.R_alloc | apply Kd.R_drewN | apply Kd.R_drew)); exact HO_203003.out) hb); have n5_ := Aside0.mk (Kd.R_lower (Kd.R_new' (Kd.R_new' (Kd.R_new' ho0 (Kd.R_lt (by (with_reducible repeat (first | apply Kd.R_alloc | apply Kd.R_drewN | apply Kd.R_drew)); exact HO_8.out))) (Kd.Q_lt (by (with_reducible repeat (first | apply Kd.Q_alloc | apply Kd.Q_drewN | apply Kd.Q_drew)); exact HO_189002.out))) (Kd.Q_lt (by (with_reducible repeat (first | apply Kd.Q_alloc | apply Kd.Q_drewN | apply Kd.Q_drew)); exact HO_203002.out))) (below_size (by repeat (first | (with_reducible first | exact HB.out | apply below_alloc | apply pw_below_drewN | apply below_drew1 | refine below_set ?_ GE188.out | refine below_set ?_ GE202.out) | exact HB.out)))); have n6_ := Aside0.mk (blk_below (g := gb188) (o := .cells #[.int .i64 t178, .int .i64 t179, .slice Ao14 t180.length co14, .slice Ao15 t183.length co15] 25 (0, 0)) (by (with_reducible repeat (first | refine blk_drewN ?_ _ | refine blk_drew ?_ | refine blk_alloc ?_ _)); exact BK188.out) hb); have n7_ := Aside0.mk (blk_below (g := gb202) (o := .cells #[.int .i64 t192, .int .i64 t193, .slice Ao22 t194.length co22, .slice Ao23 t197.length co23] 25 (0, 0)) (by (with_reducible repeat (first | refine blk_drewN ?_ _ | refine blk_drew ?_ | refine blk_alloc ?_ _)); exact BK202.out) hb); have n8_ := Aside0.mk (below_step (by repeat (first | (with_reducible first | exact HB.out | apply below_alloc | apply pw_below_drewN | apply below_drew1 | refine below_set ?_ GE188.out | refine below_set ?_ GE202.out) | exact HB.out)) hb); clear HO_8; clear HO_189002; clear HO_189003; clear HO_203002; clear HO_203003; clear BK188; clear BK202; clear HB; have HO_8 := n0_; have HO_189002 := n1_; have HO_189003 := n2_; have HO_203002 := n3_; have HO_203003 := n4_; have HO206 := n5_; have BK188 := n6_; have BK202 := n7_; have HB := n8_; clear n0_ n1_ n2_ n3_ n4_ n5_ n6_ n7_ n8_; (try clear hb); (try clear hb2); (try clear hk); (try clear hi); (try clear ho0); obtain ⟨Ao46, co46, eo46⟩ := Kd.R_slice HO206.out; subst eo46) | ((with_reducible refine gate_callee (f := 17) rfl ?_); refine goesL_ (some 55) rfl rfl Try.func17 (by kernel_rfl) rfl #[.slice Ao17 t189.length co17, .slice Ao46 t204.length co46] rfl (by (try simp only [List.map_toArray, List.map_cons, List.map_nil]); first | done | rfl | (simp only [List.length_drop, List.length_take]; rfl)) ?_; (with_reducible refine (laws_eqByteS.calls kj7 _ _ t189 _ _ t204 true _ ?side1 ?side2 ?side3 ?side4 A41.out).mono ?_); (case side1 => repeat (first | exact (Kd.R_reads' HO_8.out).2.2 | (with_reducible refine Kd.C_alloc ?_ _) | (with_reducible refine Kd.C_drewN ?_ _) | (with_reducible refine Kd.C_drew ?_))); (case side2 => exact (Kd.R_reads' HO_8.out).2.1); (case side3 => repeat (first | exact (Kd.R_reads' HO206.out).2.2 | (with_reducible refine Kd.C_alloc ?_ _) | (with_reducible refine Kd.C_drewN ?_ _) | (with_reducible refine Kd.C_drew ?_))); (case side4 => exact (Kd.R_reads' HO206.out).2.1); rintro e w' ⟨rfl, ⟨nd, rfl⟩⟩; refine ⟨_, rfl, ?_⟩) | ((with_reducible refine gate_callee (f := 18) rfl ?_); refine goesL_ (some 59) rfl rfl Try.func18 (by kernel_rfl) rfl #[.slice Ao17 t189.length co17, .int .i64 1] rfl (by (try simp only [List.map_toArray, List.map_cons, List.map_nil]); first | done | rfl | (simp only [List.length_drop, List.length_take]; rfl)) ?_; (with_reducible refine (laws_markByteS.calls kj7 (fun k_ => some k_ = (.slice Ao17 t189.length co17 : Value).ownBlock) (.slice Ao17 t189.length co17) t189 1 t208 t209 w _ ?side1 ?side2 A43.out).mono ?_); (case side1 => repeat (first | (with_reducible first | exact HB.out | apply below_alloc | apply pw_below_drewN | apply below_drew1 | refine below_set ?_ GE188.out | refine below_set ?_ GE202.out) | exact HB.out)); (case side2 => exact Kd.Q_tight rfl (Kd.Q_of_R HO_8.out)); rintro e w47 ⟨rfl, hy0, hb, hkp⟩; refine ⟨_, rfl, ?_⟩; have n0_ := Aside0.mk (Kd.Q_mono (Kd.Q_tight rfl hy0) (fun k_ e_ => HO_8.out.1 k_ e_.symm)); have n1_ := Aside0.mk (Kd.Q_mono (ok' := fun k_ => some k_ ≠ (.slice Ao17 t189.length co17 : Value).ownBlock ∧ some k_ ≠ (.slice Ao22 t194.length co22 : Value).ownBlock ∧ some k_ ≠ (.slice Ao46 t204.length co46 : Value).ownBlock) (Kd.Q_keptB (HO_189002.out) hkp (fun k_ hk_ hs_ => (hk_.1.1) hs_)) (fun k_ hk_ => ⟨hk_.1.1.1, hk_.1.1.2, hk_.1.2⟩)); have n2_ := Aside0.mk (Kd.R_mono (ok' := fun k_ => some k_ ≠ (.slice Ao23 t197.length co23 : Value).ownBlock) (Kd.R_keptB ((Kd.R_apart' HO_189003.out (Kd.R_typed HO_8.out) (by decide))) hkp (fun k_ hk_ hs_ => (hk_.2) hs_)) (fun k_ hk_ => hk_.1.1)); have n3_ := Aside0.mk (Kd.Q_mono (ok' := fun k_ => some k_ ≠ (.slice Ao17 t189.length co17 : Value).ownBlock ∧ some k_ ≠ (.slice Ao14 t180.length co14 : Value).ownBlock ∧ some k_ ≠ (.slice Ao46 t204.length co46 : Value).ownBlock) (Kd.Q_keptB (HO_203002.out) hkp (fun k_ hk_ hs_ => (hk_.1.1) hs_)) (fun k_ hk_ => ⟨hk_.1.1.1, hk_.1.1.2, hk_.1.2⟩)); have n4_ := Aside0.mk (Kd.R_mono (ok' := fun k_ => some k_ ≠ (.slice Ao15 t183.length co15 : Value).ownBlock) (Kd.R_keptB ((Kd.R_apart' HO_203003.out (Kd.R_typed HO_8.out) (by decide))) hkp (fun k_ hk_ hs_ => (hk_.2) hs_)) (fun k_ hk_ => hk_.1.1)); have n5_ := Aside0.mk (blk_kept (by (with_reducible repeat (first | refine blk_drewN ?_ _ | refine blk_drew ?_ | refine blk_alloc ?_ _)); exact BK188.out) hkp (fun hs_ => (fun e_ => (Kd.R_ne HO_8.out BK188.out (by decide)) e_) hs_)); have n6_ := Aside0.mk (blk_kept (by (with_reducible repeat (first | refine blk_drewN ?_ _ | refine blk_drew ?_ | refine blk_alloc ?_ _)); exact BK202.out) hkp (fun hs_ => (fun e_ => (Kd.R_ne HO_8.out BK202.out (by decide)) e_) hs_)); have n7_ := Aside0.mk (Kd.R_mono (ok' := fun k_ => some k_ ≠ (.slice Ao17 t189.length co17 : Value).ownBlock ∧ some k_ ≠ (.slice Ao14 t180.length co14 : Value).ownBlock ∧ some k_ ≠ (.slice Ao22 t194.length co22 : Value).ownBlock) (Kd.R_keptB (HO206.out) hkp (fun k_ hk_ hs_ => (hk_.1.1.2) hs_)) (fun k_ hk_ => ⟨hk_.1.1.1.2, hk_.1.1.2, hk_.1.2⟩)); have n8_ := Aside0.mk (hb); clear HO_8; clear HO_189002; clear HO_189003; clear HO_203002; clear HO_203003; clear BK188; clear BK202; clear HO206; clear HB; have HO_8 := n0_; have HO_189002 := n1_; have HO_189003 := n2_; have HO_203002 := n3_; have HO_203003 := n4_; have BK188 := n5_; have BK202 := n6_; have HO206 := n7_; have HB := n8_; clear n0_ n1_ n2_ n3_ n4_ n5_ n6_ n7_ n8_; (try clear hb); (try clear hkp); (try clear hy0)))
            (try simp only [Act.put, List.setIfInBounds_toArray, List.set_cons_zero, List.set_cons_succ])
            go_cut [77] (fun v77 wc => ∃ (kq : Nat) (x77_43 : Bool), v77 = .bool x77_43 ∧ Aside0 (laws_FnExactReadHyper.j1 kq l0 a1 t186 t187 x77_43 t178 t179 t180 t183 t192 t193 t194 t197 = some r) ∧ Aside0 (kq ≤ kj7) ∧ Aside0 (Kd.Q (Kd.int .u8) 5 wc w.heap.size (fun k_ => some k_ ≠ ((.slice Ao22 t194.length co22) : Value).ownBlock) (.slice Ao14 t180.length co14) t180) ∧ Aside0 (Kd.R k122 122 wc w.heap.size (fun k_ => some k_ ≠ ((.slice Ao23 t197.length co23) : Value).ownBlock) (.slice Ao15 t183.length co15) t183) ∧ Aside0 (Kd.Q (Kd.int .u8) 5 wc w.heap.size (fun k_ => some k_ ≠ ((.slice Ao14 t180.length co14) : Value).ownBlock) (.slice Ao22 t194.length co22) t194) ∧ Aside0 (Kd.R k122 122 wc w.heap.size (fun k_ => some k_ ≠ ((.slice Ao15 t183.length co15) : Value).ownBlock) (.slice Ao23 t197.length co23) t197) ∧ Aside0 (wc.heap[gb188]? = some (.cells #[.int .i64 t178, .int .i64 t179, (.slice Ao14 t180.length co14), (.slice Ao15 t183.length co15)] 25 (0, 0))) ∧ Aside0 (wc.heap[gb202]? = some (.cells #[.int .i64 t192, .int .i64 t193, (.slice Ao22 t194.length co22), (.slice Ao23 t197.length co23)] 25 (0, 0))) ∧ Aside0 (Below w.heap.size w wc))
            case first =>
              have H := HC44.out
              clear HC44
              by_cases c48 : t208 < 0
              · rw [if_pos c48] at H
                have c48b0 : decide (t208 < 0) = true := decide_eq_true c48
                clear c48
                (first | rw [c48b0] | (simp only [i64_w, i32_w]; rw [c48b0]) | skip)
                have H' := Aside0.mk H
                clear H
                go_wp2
                go_meet
                case rel => exact ⟨_, (true), (by first | rfl | (simp; done) | (simp [*]; done)), H', ⟨by have := HJ7.out; first | omega | exact Nat.le_refl _⟩, ⟨by (with_reducible repeat (first | apply Kd.Q_alloc | apply Kd.Q_drewN | apply Kd.Q_drew)); exact Kd.Q_mono HO_189002.out (fun _ hk => hk.2.1)⟩, ⟨by (with_reducible repeat (first | apply Kd.R_alloc | apply Kd.R_drewN | apply Kd.R_drew)); exact HO_189003.out⟩, ⟨by (with_reducible repeat (first | apply Kd.Q_alloc | apply Kd.Q_drewN | apply Kd.Q_drew)); exact Kd.Q_mono HO_203002.out (fun _ hk => hk.2.1)⟩, ⟨by (with_reducible repeat (first | apply Kd.R_alloc | apply Kd.R_drewN | apply Kd.R_drew)); exact HO_203003.out⟩, ⟨by (with_reducible repeat (first | refine blk_drewN ?_ _ | refine blk_drew ?_ | refine blk_alloc ?_ _)); exact BK188.out⟩, ⟨by (with_reducible repeat (first | refine blk_drewN ?_ _ | refine blk_drew ?_ | refine blk_alloc ?_ _)); exact BK202.out⟩, ⟨by repeat (first | (with_reducible first | exact HB.out | apply below_alloc | apply pw_below_drewN | apply below_drew1 | refine below_set ?_ GE188.out | refine below_set ?_ GE202.out) | exact HB.out)⟩⟩
              · rw [if_neg c48] at H
                have c48b0 : decide (t208 < 0) = false := decide_eq_false c48
                clear c48
                (first | rw [c48b0] | (simp only [i64_w, i32_w]; rw [c48b0]) | skip)
                replace H := Option.bind_eq_some_iff.mp H
                obtain ⟨t210, A490, H⟩ := H
                replace H : (if t210 = true then (if t200 = t186 then (laws_FnExactReadHyper.j1 kj7 l0 a1 t186 t187 (t201 != t187) t178 t179 t180 t183 t192 t193 t194 t197) else (laws_FnExactReadHyper.j1 kj7 l0 a1 t186 t187 true t178 t179 t180 t183 t192 t193 t194 t197)) else (laws_FnExactReadHyper.j1 kj7 l0 a1 t186 t187 true t178 t179 t180 t183 t192 t193 t194 t197)) = some r := H
                have A49 := Aside0.mk A490
                clear A490
                by_cases c50 : t210 = true
                · subst c50
                  have H1 : (if t200 = t186 then (laws_FnExactReadHyper.j1 kj7 l0 a1 t186 t187 (t201 != t187) t178 t179 t180 t183 t192 t193 t194 t197) else (laws_FnExactReadHyper.j1 kj7 l0 a1 t186 t187 true t178 t179 t180 t183 t192 t193 t194 t197)) = some r := by rw [if_pos rfl] at H; exact H
                  clear H
                  have H := H1
                  clear H1
                  by_cases c51 : t200 = t186
                  · rw [if_pos c51] at H
                    have c51b0 : (t200 == t186) = true := beq_iff_eq.mpr c51
                    have c51b1 : (t200 != t186) = false := bne_eq_false_iff_eq.mpr c51
                    clear c51
                    have H' := Aside0.mk H
                    clear H
                    have hnb52 := NB202_188.out
                    have hnc52 := NB188_202.out
                    have hcz53_0 : w47.cell? ⟨gb202, 0, none⟩ = some (.int .i64 t192) := (blk_cell BK202.out 0).trans rfl
                    have hcz53_1 : w47.cell? ⟨gb202, 1, none⟩ = some (.int .i64 t193) := (blk_cell BK202.out 1).trans rfl
                    have hcz53_2 : w47.cell? ⟨gb202, 2, none⟩ = some (.slice Ao22 t194.length co22) := (blk_cell BK202.out 2).trans rfl
                    have hcz53_3 : w47.cell? ⟨gb202, 3, none⟩ = some (.slice Ao23 t197.length co23) := (blk_cell BK202.out 3).trans rfl
                    have hfz53_0 := blk_frozen BK202.out 0
                    have hfz53_1 := blk_frozen BK202.out 1
                    have hfz53_2 := blk_frozen BK202.out 2
                    have hfz53_3 := blk_frozen BK202.out 3
                    have hcz54_0 : w47.cell? ⟨gb188, 0, none⟩ = some (.int .i64 t178) := (blk_cell BK188.out 0).trans rfl
                    have hcz54_1 : w47.cell? ⟨gb188, 1, none⟩ = some (.int .i64 t179) := (blk_cell BK188.out 1).trans rfl
                    have hcz54_2 : w47.cell? ⟨gb188, 2, none⟩ = some (.slice Ao14 t180.length co14) := (blk_cell BK188.out 2).trans rfl
                    have hcz54_3 : w47.cell? ⟨gb188, 3, none⟩ = some (.slice Ao15 t183.length co15) := (blk_cell BK188.out 3).trans rfl
                    have hfz54_0 := blk_frozen BK188.out 0
                    have hfz54_1 := blk_frozen BK188.out 1
                    have hfz54_2 := blk_frozen BK188.out 2
                    have hfz54_3 := blk_frozen BK188.out 3
                    go_wp2_with (first | (go_at_call 16; (with_reducible refine (laws_eqHFrame.calls kj7 t192 t193 _ _ t194 _ _ t197 t178 t179 _ _ t180 _ _ t183 true _ ?side1 ?side2 ?side3 ?side4 ?side5 ?side6 ?side7 ?side8 A49.out).mono ?_); (case side1 => repeat (first | exact (Kd.Q_reads' HO_203002.out).2.2 | (with_reducible refine Kd.C_alloc ?_ _) | (with_reducible refine Kd.C_drewN ?_ _) | (with_reducible refine Kd.C_drew ?_))); (case side2 => exact (Kd.Q_reads' HO_203002.out).2.1); (case side3 => repeat (first | exact (Kd.R_reads' HO_203003.out).2.2 | (with_reducible refine Kd.C_alloc ?_ _) | (with_reducible refine Kd.C_drewN ?_ _) | (with_reducible refine Kd.C_drew ?_))); (case side4 => exact (Kd.R_reads' HO_203003.out).2.1); (case side5 => repeat (first | exact (Kd.Q_reads' HO_189002.out).2.2 | (with_reducible refine Kd.C_alloc ?_ _) | (with_reducible refine Kd.C_drewN ?_ _) | (with_reducible refine Kd.C_drew ?_))); (case side6 => exact (Kd.Q_reads' HO_189002.out).2.1); (case side7 => repeat (first | exact (Kd.R_reads' HO_189003.out).2.2 | (with_reducible refine Kd.C_alloc ?_ _) | (with_reducible refine Kd.C_drewN ?_ _) | (with_reducible refine Kd.C_drew ?_))); (case side8 => exact (Kd.R_reads' HO_189003.out).2.1); rintro e w55 ⟨rfl, hb⟩; have n0_ := Aside0.mk (Kd.Q_below (by (with_reducible repeat (first | apply Kd.Q_alloc | apply Kd.Q_drewN | apply Kd.Q_drew)); exact HO_8.out) hb); have n1_ := Aside0.mk (Kd.Q_below (by (with_reducible repeat (first | apply Kd.Q_alloc | apply Kd.Q_drewN | apply Kd.Q_drew)); exact HO_189002.out) hb); have n2_ := Aside0.mk (Kd.R_below (by (with_reducible repeat (first | apply Kd.R_alloc | apply Kd.R_drewN | apply Kd.R_drew)); exact HO_189003.out) hb); have n3_ := Aside0.mk (Kd.Q_below (by (with_reducible repeat (first | apply Kd.Q_alloc | apply Kd.Q_drewN | apply Kd.Q_drew)); exact HO_203002.out) hb); have n4_ := Aside0.mk (Kd.R_below (by (with_reducible repeat (first | apply Kd.R_alloc | apply Kd.R_drewN | apply Kd.R_drew)); exact HO_203003.out) hb); have n5_ := Aside0.mk (Kd.R_below (by (with_reducible repeat (first | apply Kd.R_alloc | apply Kd.R_drewN | apply Kd.R_drew)); exact HO206.out) hb); have n6_ := Aside0.mk (blk_below (g := gb188) (o := .cells #[.int .i64 t178, .int .i64 t179, .slice Ao14 t180.length co14, .slice Ao15 t183.length co15] 25 (0, 0)) (by (with_reducible repeat (first | refine blk_drewN ?_ _ | refine blk_drew ?_ | refine blk_alloc ?_ _)); exact BK188.out) hb); have n7_ := Aside0.mk (blk_below (g := gb202) (o := .cells #[.int .i64 t192, .int .i64 t193, .slice Ao22 t194.length co22, .slice Ao23 t197.length co23] 25 (0, 0)) (by (with_reducible repeat (first | refine blk_drewN ?_ _ | refine blk_drew ?_ | refine blk_alloc ?_ _)); exact BK202.out) hb); have n8_ := Aside0.mk (below_step (by repeat (first | (with_reducible first | exact HB.out | apply below_alloc | apply pw_below_drewN | apply below_drew1 | refine below_set ?_ GE188.out | refine below_set ?_ GE202.out) | exact HB.out)) hb); clear HO_8; clear HO_189002; clear HO_189003; clear HO_203002; clear HO_203003; clear HO206; clear BK188; clear BK202; clear HB; have HO_8 := n0_; have HO_189002 := n1_; have HO_189003 := n2_; have HO_203002 := n3_; have HO_203003 := n4_; have HO206 := n5_; have BK188 := n6_; have BK202 := n7_; have HB := n8_; clear n0_ n1_ n2_ n3_ n4_ n5_ n6_ n7_ n8_; (try clear hb); (try clear hb2); (try clear hk); (try clear hi)))
                    go_meet
                    case rel => exact ⟨_, ((t201 != t187)), (by first | rfl | (simp; done) | (simp [*]; done)), H', ⟨by have := HJ7.out; first | omega | exact Nat.le_refl _⟩, ⟨by (with_reducible repeat (first | apply Kd.Q_alloc | apply Kd.Q_drewN | apply Kd.Q_drew)); exact Kd.Q_mono HO_189002.out (fun _ hk => hk.2.1)⟩, ⟨by (with_reducible repeat (first | apply Kd.R_alloc | apply Kd.R_drewN | apply Kd.R_drew)); exact HO_189003.out⟩, ⟨by (with_reducible repeat (first | apply Kd.Q_alloc | apply Kd.Q_drewN | apply Kd.Q_drew)); exact Kd.Q_mono HO_203002.out (fun _ hk => hk.2.1)⟩, ⟨by (with_reducible repeat (first | apply Kd.R_alloc | apply Kd.R_drewN | apply Kd.R_drew)); exact HO_203003.out⟩, ⟨by (with_reducible repeat (first | refine blk_drewN ?_ _ | refine blk_drew ?_ | refine blk_alloc ?_ _)); exact BK188.out⟩, ⟨by (with_reducible repeat (first | refine blk_drewN ?_ _ | refine blk_drew ?_ | refine blk_alloc ?_ _)); exact BK202.out⟩, ⟨by repeat (first | (with_reducible first | exact HB.out | apply below_alloc | apply pw_below_drewN | apply below_drew1 | refine below_set ?_ GE188.out | refine below_set ?_ GE202.out) | exact HB.out)⟩⟩
                  · rw [if_neg c51] at H
                    have c51b0 : (t200 == t186) = false := beq_eq_false_iff_ne.mpr c51
                    have c51b1 : (t200 != t186) = true := bne_iff_ne.mpr c51
                    have H' := Aside0.mk H
                    clear H
                    have hnb56 := NB202_188.out
                    have hnc56 := NB188_202.out
                    have hcz57_0 : w47.cell? ⟨gb202, 0, none⟩ = some (.int .i64 t192) := (blk_cell BK202.out 0).trans rfl
                    have hcz57_1 : w47.cell? ⟨gb202, 1, none⟩ = some (.int .i64 t193) := (blk_cell BK202.out 1).trans rfl
                    have hcz57_2 : w47.cell? ⟨gb202, 2, none⟩ = some (.slice Ao22 t194.length co22) := (blk_cell BK202.out 2).trans rfl
                    have hcz57_3 : w47.cell? ⟨gb202, 3, none⟩ = some (.slice Ao23 t197.length co23) := (blk_cell BK202.out 3).trans rfl
                    have hfz57_0 := blk_frozen BK202.out 0
                    have hfz57_1 := blk_frozen BK202.out 1
                    have hfz57_2 := blk_frozen BK202.out 2
                    have hfz57_3 := blk_frozen BK202.out 3
                    have hcz58_0 : w47.cell? ⟨gb188, 0, none⟩ = some (.int .i64 t178) := (blk_cell BK188.out 0).trans rfl
                    have hcz58_1 : w47.cell? ⟨gb188, 1, none⟩ = some (.int .i64 t179) := (blk_cell BK188.out 1).trans rfl
                    have hcz58_2 : w47.cell? ⟨gb188, 2, none⟩ = some (.slice Ao14 t180.length co14) := (blk_cell BK188.out 2).trans rfl
                    have hcz58_3 : w47.cell? ⟨gb188, 3, none⟩ = some (.slice Ao15 t183.length co15) := (blk_cell BK188.out 3).trans rfl
                    have hfz58_0 := blk_frozen BK188.out 0
                    have hfz58_1 := blk_frozen BK188.out 1
                    have hfz58_2 := blk_frozen BK188.out 2
                    have hfz58_3 := blk_frozen BK188.out 3
                    go_wp2_with (first | (go_at_call 16; (with_reducible refine (laws_eqHFrame.calls kj7 t192 t193 _ _ t194 _ _ t197 t178 t179 _ _ t180 _ _ t183 true _ ?side1 ?side2 ?side3 ?side4 ?side5 ?side6 ?side7 ?side8 A49.out).mono ?_); (case side1 => repeat (first | exact (Kd.Q_reads' HO_203002.out).2.2 | (with_reducible refine Kd.C_alloc ?_ _) | (with_reducible refine Kd.C_drewN ?_ _) | (with_reducible refine Kd.C_drew ?_))); (case side2 => exact (Kd.Q_reads' HO_203002.out).2.1); (case side3 => repeat (first | exact (Kd.R_reads' HO_203003.out).2.2 | (with_reducible refine Kd.C_alloc ?_ _) | (with_reducible refine Kd.C_drewN ?_ _) | (with_reducible refine Kd.C_drew ?_))); (case side4 => exact (Kd.R_reads' HO_203003.out).2.1); (case side5 => repeat (first | exact (Kd.Q_reads' HO_189002.out).2.2 | (with_reducible refine Kd.C_alloc ?_ _) | (with_reducible refine Kd.C_drewN ?_ _) | (with_reducible refine Kd.C_drew ?_))); (case side6 => exact (Kd.Q_reads' HO_189002.out).2.1); (case side7 => repeat (first | exact (Kd.R_reads' HO_189003.out).2.2 | (with_reducible refine Kd.C_alloc ?_ _) | (with_reducible refine Kd.C_drewN ?_ _) | (with_reducible refine Kd.C_drew ?_))); (case side8 => exact (Kd.R_reads' HO_189003.out).2.1); rintro e w59 ⟨rfl, hb⟩; have n0_ := Aside0.mk (Kd.Q_below (by (with_reducible repeat (first | apply Kd.Q_alloc | apply Kd.Q_drewN | apply Kd.Q_drew)); exact HO_8.out) hb); have n1_ := Aside0.mk (Kd.Q_below (by (with_reducible repeat (first | apply Kd.Q_alloc | apply Kd.Q_drewN | apply Kd.Q_drew)); exact HO_189002.out) hb); have n2_ := Aside0.mk (Kd.R_below (by (with_reducible repeat (first | apply Kd.R_alloc | apply Kd.R_drewN | apply Kd.R_drew)); exact HO_189003.out) hb); have n3_ := Aside0.mk (Kd.Q_below (by (with_reducible repeat (first | apply Kd.Q_alloc | apply Kd.Q_drewN | apply Kd.Q_drew)); exact HO_203002.out) hb); have n4_ := Aside0.mk (Kd.R_below (by (with_reducible repeat (first | apply Kd.R_alloc | apply Kd.R_drewN | apply Kd.R_drew)); exact HO_203003.out) hb); have n5_ := Aside0.mk (Kd.R_below (by (with_reducible repeat (first | apply Kd.R_alloc | apply Kd.R_drewN | apply Kd.R_drew)); exact HO206.out) hb); have n6_ := Aside0.mk (blk_below (g := gb188) (o := .cells #[.int .i64 t178, .int .i64 t179, .slice Ao14 t180.length co14, .slice Ao15 t183.length co15] 25 (0, 0)) (by (with_reducible repeat (first | refine blk_drewN ?_ _ | refine blk_drew ?_ | refine blk_alloc ?_ _)); exact BK188.out) hb); have n7_ := Aside0.mk (blk_below (g := gb202) (o := .cells #[.int .i64 t192, .int .i64 t193, .slice Ao22 t194.length co22, .slice Ao23 t197.length co23] 25 (0, 0)) (by (with_reducible repeat (first | refine blk_drewN ?_ _ | refine blk_drew ?_ | refine blk_alloc ?_ _)); exact BK202.out) hb); have n8_ := Aside0.mk (below_step (by repeat (first | (with_reducible first | exact HB.out | apply below_alloc | apply pw_below_drewN | apply below_drew1 | refine below_set ?_ GE188.out | refine below_set ?_ GE202.out) | exact HB.out)) hb); clear HO_8; clear HO_189002; clear HO_189003; clear HO_203002; clear HO_203003; clear HO206; clear BK188; clear BK202; clear HB; have HO_8 := n0_; have HO_189002 := n1_; have HO_189003 := n2_; have HO_203002 := n3_; have HO_203003 := n4_; have HO206 := n5_; have BK188 := n6_; have BK202 := n7_; have HB := n8_; clear n0_ n1_ n2_ n3_ n4_ n5_ n6_ n7_ n8_; (try clear hb); (try clear hb2); (try clear hk); (try clear hi)))
                    go_meet
                    case rel => exact ⟨_, (true), (by first | rfl | (simp; done) | (simp [*]; done)), H', ⟨by have := HJ7.out; first | omega | exact Nat.le_refl _⟩, ⟨by (with_reducible repeat (first | apply Kd.Q_alloc | apply Kd.Q_drewN | apply Kd.Q_drew)); exact Kd.Q_mono HO_189002.out (fun _ hk => hk.2.1)⟩, ⟨by (with_reducible repeat (first | apply Kd.R_alloc | apply Kd.R_drewN | apply Kd.R_drew)); exact HO_189003.out⟩, ⟨by (with_reducible repeat (first | apply Kd.Q_alloc | apply Kd.Q_drewN | apply Kd.Q_drew)); exact Kd.Q_mono HO_203002.out (fun _ hk => hk.2.1)⟩, ⟨by (with_reducible repeat (first | apply Kd.R_alloc | apply Kd.R_drewN | apply Kd.R_drew)); exact HO_203003.out⟩, ⟨by (with_reducible repeat (first | refine blk_drewN ?_ _ | refine blk_drew ?_ | refine blk_alloc ?_ _)); exact BK188.out⟩, ⟨by (with_reducible repeat (first | refine blk_drewN ?_ _ | refine blk_drew ?_ | refine blk_alloc ?_ _)); exact BK202.out⟩, ⟨by repeat (first | (with_reducible first | exact HB.out | apply below_alloc | apply pw_below_drewN | apply below_drew1 | refine below_set ?_ GE188.out | refine below_set ?_ GE202.out) | exact HB.out)⟩⟩
                · replace c50 := Bool.eq_false_iff.mpr c50
                  subst c50
                  have H1 : (laws_FnExactReadHyper.j1 kj7 l0 a1 t186 t187 true t178 t179 t180 t183 t192 t193 t194 t197) = some r := by rw [if_neg (show ¬ (false = true) by decide)] at H; exact H
                  clear H
                  have H := H1
                  clear H1
                  have H' := Aside0.mk H
                  clear H
                  have hnb60 := NB202_188.out
                  have hnc60 := NB188_202.out
                  have hcz61_0 : w47.cell? ⟨gb202, 0, none⟩ = some (.int .i64 t192) := (blk_cell BK202.out 0).trans rfl
                  have hcz61_1 : w47.cell? ⟨gb202, 1, none⟩ = some (.int .i64 t193) := (blk_cell BK202.out 1).trans rfl
                  have hcz61_2 : w47.cell? ⟨gb202, 2, none⟩ = some (.slice Ao22 t194.length co22) := (blk_cell BK202.out 2).trans rfl
                  have hcz61_3 : w47.cell? ⟨gb202, 3, none⟩ = some (.slice Ao23 t197.length co23) := (blk_cell BK202.out 3).trans rfl
                  have hfz61_0 := blk_frozen BK202.out 0
                  have hfz61_1 := blk_frozen BK202.out 1
                  have hfz61_2 := blk_frozen BK202.out 2
                  have hfz61_3 := blk_frozen BK202.out 3
                  have hcz62_0 : w47.cell? ⟨gb188, 0, none⟩ = some (.int .i64 t178) := (blk_cell BK188.out 0).trans rfl
                  have hcz62_1 : w47.cell? ⟨gb188, 1, none⟩ = some (.int .i64 t179) := (blk_cell BK188.out 1).trans rfl
                  have hcz62_2 : w47.cell? ⟨gb188, 2, none⟩ = some (.slice Ao14 t180.length co14) := (blk_cell BK188.out 2).trans rfl
                  have hcz62_3 : w47.cell? ⟨gb188, 3, none⟩ = some (.slice Ao15 t183.length co15) := (blk_cell BK188.out 3).trans rfl
                  have hfz62_0 := blk_frozen BK188.out 0
                  have hfz62_1 := blk_frozen BK188.out 1
                  have hfz62_2 := blk_frozen BK188.out 2
                  have hfz62_3 := blk_frozen BK188.out 3
                  go_wp2_with (first | (go_at_call 16; (with_reducible refine (laws_eqHFrame.calls kj7 t192 t193 _ _ t194 _ _ t197 t178 t179 _ _ t180 _ _ t183 false _ ?side1 ?side2 ?side3 ?side4 ?side5 ?side6 ?side7 ?side8 A49.out).mono ?_); (case side1 => repeat (first | exact (Kd.Q_reads' HO_203002.out).2.2 | (with_reducible refine Kd.C_alloc ?_ _) | (with_reducible refine Kd.C_drewN ?_ _) | (with_reducible refine Kd.C_drew ?_))); (case side2 => exact (Kd.Q_reads' HO_203002.out).2.1); (case side3 => repeat (first | exact (Kd.R_reads' HO_203003.out).2.2 | (with_reducible refine Kd.C_alloc ?_ _) | (with_reducible refine Kd.C_drewN ?_ _) | (with_reducible refine Kd.C_drew ?_))); (case side4 => exact (Kd.R_reads' HO_203003.out).2.1); (case side5 => repeat (first | exact (Kd.Q_reads' HO_189002.out).2.2 | (with_reducible refine Kd.C_alloc ?_ _) | (with_reducible refine Kd.C_drewN ?_ _) | (with_reducible refine Kd.C_drew ?_))); (case side6 => exact (Kd.Q_reads' HO_189002.out).2.1); (case side7 => repeat (first | exact (Kd.R_reads' HO_189003.out).2.2 | (with_reducible refine Kd.C_alloc ?_ _) | (with_reducible refine Kd.C_drewN ?_ _) | (with_reducible refine Kd.C_drew ?_))); (case side8 => exact (Kd.R_reads' HO_189003.out).2.1); rintro e w63 ⟨rfl, hb⟩; have n0_ := Aside0.mk (Kd.Q_below (by (with_reducible repeat (first | apply Kd.Q_alloc | apply Kd.Q_drewN | apply Kd.Q_drew)); exact HO_8.out) hb); have n1_ := Aside0.mk (Kd.Q_below (by (with_reducible repeat (first | apply Kd.Q_alloc | apply Kd.Q_drewN | apply Kd.Q_drew)); exact HO_189002.out) hb); have n2_ := Aside0.mk (Kd.R_below (by (with_reducible repeat (first | apply Kd.R_alloc | apply Kd.R_drewN | apply Kd.R_drew)); exact HO_189003.out) hb); have n3_ := Aside0.mk (Kd.Q_below (by (with_reducible repeat (first | apply Kd.Q_alloc | apply Kd.Q_drewN | apply Kd.Q_drew)); exact HO_203002.out) hb); have n4_ := Aside0.mk (Kd.R_below (by (with_reducible repeat (first | apply Kd.R_alloc | apply Kd.R_drewN | apply Kd.R_drew)); exact HO_203003.out) hb); have n5_ := Aside0.mk (Kd.R_below (by (with_reducible repeat (first | apply Kd.R_alloc | apply Kd.R_drewN | apply Kd.R_drew)); exact HO206.out) hb); have n6_ := Aside0.mk (blk_below (g := gb188) (o := .cells #[.int .i64 t178, .int .i64 t179, .slice Ao14 t180.length co14, .slice Ao15 t183.length co15] 25 (0, 0)) (by (with_reducible repeat (first | refine blk_drewN ?_ _ | refine blk_drew ?_ | refine blk_alloc ?_ _)); exact BK188.out) hb); have n7_ := Aside0.mk (blk_below (g := gb202) (o := .cells #[.int .i64 t192, .int .i64 t193, .slice Ao22 t194.length co22, .slice Ao23 t197.length co23] 25 (0, 0)) (by (with_reducible repeat (first | refine blk_drewN ?_ _ | refine blk_drew ?_ | refine blk_alloc ?_ _)); exact BK202.out) hb); have n8_ := Aside0.mk (below_step (by repeat (first | (with_reducible first | exact HB.out | apply below_alloc | apply pw_below_drewN | apply below_drew1 | refine below_set ?_ GE188.out | refine below_set ?_ GE202.out) | exact HB.out)) hb); clear HO_8; clear HO_189002; clear HO_189003; clear HO_203002; clear HO_203003; clear HO206; clear BK188; clear BK202; clear HB; have HO_8 := n0_; have HO_189002 := n1_; have HO_189003 := n2_; have HO_203002 := n3_; have HO_203003 := n4_; have HO206 := n5_; have BK188 := n6_; have BK202 := n7_; have HB := n8_; clear n0_ n1_ n2_ n3_ n4_ n5_ n6_ n7_ n8_; (try clear hb); (try clear hb2); (try clear hk); (try clear hi)))
                  go_meet
                  case rel => exact ⟨_, (true), (by first | rfl | (simp; done) | (simp [*]; done)), H', ⟨by have := HJ7.out; first | omega | exact Nat.le_refl _⟩, ⟨by (with_reducible repeat (first | apply Kd.Q_alloc | apply Kd.Q_drewN | apply Kd.Q_drew)); exact Kd.Q_mono HO_189002.out (fun _ hk => hk.2.1)⟩, ⟨by (with_reducible repeat (first | apply Kd.R_alloc | apply Kd.R_drewN | apply Kd.R_drew)); exact HO_189003.out⟩, ⟨by (with_reducible repeat (first | apply Kd.Q_alloc | apply Kd.Q_drewN | apply Kd.Q_drew)); exact Kd.Q_mono HO_203002.out (fun _ hk => hk.2.1)⟩, ⟨by (with_reducible repeat (first | apply Kd.R_alloc | apply Kd.R_drewN | apply Kd.R_drew)); exact HO_203003.out⟩, ⟨by (with_reducible repeat (first | refine blk_drewN ?_ _ | refine blk_drew ?_ | refine blk_alloc ?_ _)); exact BK188.out⟩, ⟨by (with_reducible repeat (first | refine blk_drewN ?_ _ | refine blk_drew ?_ | refine blk_alloc ?_ _)); exact BK202.out⟩, ⟨by repeat (first | (with_reducible first | exact HB.out | apply below_alloc | apply pw_below_drewN | apply below_drew1 | refine below_set ?_ GE188.out | refine below_set ?_ GE202.out) | exact HB.out)⟩⟩
            case rest =>
              clear HC44
              try clear c1
              try clear c2
              try clear p2
              try clear c3
              try clear c3b0
              try clear c3b1
              try clear c4
              try clear c5
              try clear c6
              try clear c13
              try clear c14
              try clear c15
              try clear c16
              try clear c17
              try clear c18
              try clear c20
              try clear c25
              try clear c26
              try clear c26b0
              try clear c26b1
              try clear c27
              try clear c31
              try clear c35
              try clear c39
              try clear c42
              try clear c48
              try clear c48b0
              try clear c50
              try clear c51
              try clear c51b0
              try clear c51b1
              try clear c52
              try clear c56
              try clear c60
              try clear hcz13_0
              try clear hcz13_1
              try clear hcz13_2
              try clear hcz13_3
              try clear hcz21_0
              try clear hcz21_1
              try clear hcz21_2
              try clear hcz21_3
              try clear hcz28_0
              try clear hcz28_1
              try clear hcz28_2
              try clear hcz28_3
              try clear hcz29_0
              try clear hcz29_1
              try clear hcz29_2
              try clear hcz29_3
              try clear hcz32_0
              try clear hcz32_1
              try clear hcz32_2
              try clear hcz32_3
              try clear hcz33_0
              try clear hcz33_1
              try clear hcz33_2
              try clear hcz33_3
              try clear hcz36_0
              try clear hcz36_1
              try clear hcz36_2
              try clear hcz36_3
              try clear hcz37_0
              try clear hcz37_1
              try clear hcz37_2
              try clear hcz37_3
              try clear hcz53_0
              try clear hcz53_1
              try clear hcz53_2
              try clear hcz53_3
              try clear hcz54_0
              try clear hcz54_1
              try clear hcz54_2
              try clear hcz54_3
              try clear hcz57_0
              try clear hcz57_1
              try clear hcz57_2
              try clear hcz57_3
              try clear hcz58_0
              try clear hcz58_1
              try clear hcz58_2
              try clear hcz58_3
              try clear hcz61_0
              try clear hcz61_1
              try clear hcz61_2
              try clear hcz61_3
              try clear hcz62_0
              try clear hcz62_1
              try clear hcz62_2
              try clear hcz62_3
              try clear hfz13_0
              try clear hfz13_1
              try clear hfz13_2
              try clear hfz13_3
              try clear hfz21_0
              try clear hfz21_1
              try clear hfz21_2
              try clear hfz21_3
              try clear hfz28_0
              try clear hfz28_1
              try clear hfz28_2
              try clear hfz28_3
              try clear hfz29_0
              try clear hfz29_1
              try clear hfz29_2
              try clear hfz29_3
              try clear hfz32_0
              try clear hfz32_1
              try clear hfz32_2
              try clear hfz32_3
              try clear hfz33_0
              try clear hfz33_1
              try clear hfz33_2
              try clear hfz33_3
              try clear hfz36_0
              try clear hfz36_1
              try clear hfz36_2
              try clear hfz36_3
              try clear hfz37_0
              try clear hfz37_1
              try clear hfz37_2
              try clear hfz37_3
              try clear hfz53_0
              try clear hfz53_1
              try clear hfz53_2
              try clear hfz53_3
              try clear hfz54_0
              try clear hfz54_1
              try clear hfz54_2
              try clear hfz54_3
              try clear hfz57_0
              try clear hfz57_1
              try clear hfz57_2
              try clear hfz57_3
              try clear hfz58_0
              try clear hfz58_1
              try clear hfz58_2
              try clear hfz58_3
              try clear hfz61_0
              try clear hfz61_1
              try clear hfz61_2
              try clear hfz61_3
              try clear hfz62_0
              try clear hfz62_1
              try clear hfz62_2
              try clear hfz62_3
              try clear p2
              obtain ⟨kq, x77_43, rfl, HA, HJ43, HO_189002, HO_189003, HO_203002, HO_203003, BK188, BK202, HB⟩ := hcut
              cases kq with
              | zero => exact absurd HA.out (by simp [laws_FnExactReadHyper.j1])
              | succ kj43 =>
                have H := HA.out
                clear HA
                simp only [laws_FnExactReadHyper.j1] at H
                by_cases c64 : x77_43 = true
                · subst c64
                  have H1 : (some false) = some r := by rw [if_pos rfl] at H; exact H
                  clear H
                  have H := H1
                  clear H1
                  obtain rfl := Option.some.inj H
                  go_wp2
                  go_ret
                  exact ⟨by first | rfl | (simp [errW_none, errW_some] <;> rfl) | (simp [*, errW_none, errW_some] <;> rfl), by repeat (first | (with_reducible first | exact HB.out | apply below_alloc | apply pw_below_drewN | apply below_drew1 | refine below_set ?_ GE188.out | refine below_set ?_ GE202.out) | exact HB.out)⟩
                · replace c64 := Bool.eq_false_iff.mpr c64
                  subst c64
                  have H1 : ((laws_markHFrame.f kj43 t192 t193 t194 t197 1).bind fun bt211 => ((laws_heldHFrame.f kj43 t192 t193 bt211.2.1 bt211.2.2 1).bind fun t214 => (if t214 < 0 then (some false) else (if t214 = bt211.1 then ((laws_toByteS.f kj43 l0).bind fun t215 => ((impl_ReadHyper.f kj43 t215 a1).bind fun bt218 => ((laws_eqHFrame.f kj43 bt218.1 bt218.2.1 bt218.2.2.1 bt218.2.2.2.1 t178 t179 t180 t183).bind fun t229 => (if t229 = true then (if bt218.2.2.2.2.1 = t186 then (laws_FnExactReadHyper.j2 kj43 bt211.1 (bt218.2.2.2.2.2 != t187) t192 t193 bt211.2.1 bt211.2.2) else (laws_FnExactReadHyper.j2 kj43 bt211.1 true t192 t193 bt211.2.1 bt211.2.2)) else (laws_FnExactReadHyper.j2 kj43 bt211.1 true t192 t193 bt211.2.1 bt211.2.2))))) else (some false))))) = some r := by rw [if_neg (show ¬ (false = true) by decide)] at H; exact H
                  clear H
                  have H := H1
                  clear H1
                  replace H := Option.bind_eq_some_iff.mp H
                  obtain ⟨⟨t211, t212, t213⟩, A650, H⟩ := H
                  replace H : ((laws_heldHFrame.f kj43 t192 t193 t212 t213 1).bind fun t214 => (if t214 < 0 then (some false) else (if t214 = t211 then ((laws_toByteS.f kj43 l0).bind fun t215 => ((impl_ReadHyper.f kj43 t215 a1).bind fun bt218 => ((laws_eqHFrame.f kj43 bt218.1 bt218.2.1 bt218.2.2.1 bt218.2.2.2.1 t178 t179 t180 t183).bind fun t229 => (if t229 = true then (if bt218.2.2.2.2.1 = t186 then (laws_FnExactReadHyper.j2 kj43 t211 (bt218.2.2.2.2.2 != t187) t192 t193 t212 t213) else (laws_FnExactReadHyper.j2 kj43 t211 true t192 t193 t212 t213)) else (laws_FnExactReadHyper.j2 kj43 t211 true t192 t193 t212 t213))))) else (some false)))) = some r := H
                  have A65 := Aside0.mk A650
                  clear A650
                  replace H := Option.bind_eq_some_iff.mp H
                  obtain ⟨t214, A660, H⟩ := H
                  replace H : (if t214 < 0 then (some false) else (if t214 = t211 then ((laws_toByteS.f kj43 l0).bind fun t215 => ((impl_ReadHyper.f kj43 t215 a1).bind fun bt218 => ((laws_eqHFrame.f kj43 bt218.1 bt218.2.1 bt218.2.2.1 bt218.2.2.2.1 t178 t179 t180 t183).bind fun t229 => (if t229 = true then (if bt218.2.2.2.2.1 = t186 then (laws_FnExactReadHyper.j2 kj43 t211 (bt218.2.2.2.2.2 != t187) t192 t193 t212 t213) else (laws_FnExactReadHyper.j2 kj43 t211 true t192 t193 t212 t213)) else (laws_FnExactReadHyper.j2 kj43 t211 true t192 t193 t212 t213))))) else (some false))) = some r := H
                  have A66 := Aside0.mk A660
                  clear A660
                  by_cases c67 : t214 < 0
                  · rw [if_pos c67] at H
                    have c67b0 : decide (t214 < 0) = true := decide_eq_true c67
                    clear c67
                    obtain rfl := Option.some.inj H
                    have hnb68 := NB202_188.out
                    have hnc68 := NB188_202.out
                    have hcz69_0 : wc.cell? ⟨gb202, 0, none⟩ = some (.int .i64 t192) := (blk_cell BK202.out 0).trans rfl
                    have hcz69_1 : wc.cell? ⟨gb202, 1, none⟩ = some (.int .i64 t193) := (blk_cell BK202.out 1).trans rfl
                    have hcz69_2 : wc.cell? ⟨gb202, 2, none⟩ = some (.slice Ao22 t194.length co22) := (blk_cell BK202.out 2).trans rfl
                    have hcz69_3 : wc.cell? ⟨gb202, 3, none⟩ = some (.slice Ao23 t197.length co23) := (blk_cell BK202.out 3).trans rfl
                    have hfz69_0 := blk_frozen BK202.out 0
                    have hfz69_1 := blk_frozen BK202.out 1
                    have hfz69_2 := blk_frozen BK202.out 2
                    have hfz69_3 := blk_frozen BK202.out 3
                    go_wp2_with (first | ((with_reducible refine gate_callee (f := 19) rfl ?_); refine goesL_ (some 80) rfl rfl Try.func19 (by kernel_rfl) rfl #[.agg #[.int .i64 t192, .int .i64 t193, .slice Ao22 t194.length co22, .slice Ao23 t197.length co23], .int .i64 1] rfl (by (try simp only [List.map_toArray, List.map_cons, List.map_nil]); first | done | rfl | (simp only [List.length_drop, List.length_take]; rfl)) ?_; (with_reducible refine (laws_markHFrame.calls kj43 t192 t193 (fun k_ => some k_ = (.slice Ao22 t194.length co22 : Value).ownBlock) (.slice Ao22 t194.length co22) t194 (fun k_ => some k_ = (.slice Ao23 t197.length co23 : Value).ownBlock) (.slice Ao23 t197.length co23) t197 1 t211 t212 t213 w _ ?side1 ?side2 ?side3 A65.out).mono ?_); (case side1 => repeat (first | (with_reducible first | exact HB.out | apply below_alloc | apply pw_below_drewN | apply below_drew1 | refine below_set ?_ GE188.out | refine below_set ?_ GE202.out) | exact HB.out)); (case side2 => exact Kd.Q_tight rfl HO_203002.out); (case side3 => exact Kd.R_tight rfl HO_203003.out); rintro e w70 ⟨rfl, hy0, hy1, hb, hkp⟩; refine ⟨_, rfl, ?_⟩; have n0_ := Aside0.mk (Kd.Q_mono (ok' := fun k_ => some k_ ≠ (.slice Ao22 t194.length co22 : Value).ownBlock) (Kd.Q_keptB ((Kd.Q_apart' HO_189002.out (Kd.R_typed HO_203003.out) (by decide))) hkp (fun k_ hk_ hs_ => Or.elim hs_ (fun e_ => (hk_.1) e_) (fun e_ => (hk_.2) e_))) (fun k_ hk_ => hk_.1.1)); have n1_ := Aside0.mk (Kd.R_mono (ok' := fun k_ => some k_ ≠ (.slice Ao23 t197.length co23 : Value).ownBlock) (Kd.R_keptB ((Kd.R_apart' HO_189003.out (Kd.Q_typed HO_203002.out) (by decide))) hkp (fun k_ hk_ hs_ => Or.elim hs_ (fun e_ => (hk_.2) e_) (fun e_ => (hk_.1) e_))) (fun k_ hk_ => hk_.1.1)); have n2_ := Aside0.mk (Kd.Q_mono (Kd.Q_tight rfl hy0) (fun k_ e_ => HO_203002.out.1 k_ e_.symm)); have n3_ := Aside0.mk (Kd.R_reok rfl hy1 (fun k_ e_ => HO_203003.out.1 k_ e_)); have n4_ := Aside0.mk (blk_kept (by (with_reducible repeat (first | refine blk_drewN ?_ _ | refine blk_drew ?_ | refine blk_alloc ?_ _)); exact BK188.out) hkp (fun hs_ => Or.elim hs_ (fun e_ => (fun e_ => (Kd.Q_ne HO_203002.out BK188.out (by decide)) e_) e_) (fun e_ => (fun e_ => (Kd.R_ne HO_203003.out BK188.out (by decide)) e_) e_))); have n5_ := Aside0.mk (blk_kept (by (with_reducible repeat (first | refine blk_drewN ?_ _ | refine blk_drew ?_ | refine blk_alloc ?_ _)); exact BK202.out) hkp (fun hs_ => Or.elim hs_ (fun e_ => (fun e_ => (Kd.Q_ne HO_203002.out BK202.out (by decide)) e_) e_) (fun e_ => (fun e_ => (Kd.R_ne HO_203003.out BK202.out (by decide)) e_) e_))); have n6_ := Aside0.mk (hb); clear HO_189002; clear HO_189003; clear HO_203002; clear HO_203003; clear BK188; clear BK202; clear HB; have HO_189002 := n0_; have HO_189003 := n1_; have HO_203002 := n2_; have HO_203003 := n3_; have BK188 := n4_; have BK202 := n5_; have HB := n6_; clear n0_ n1_ n2_ n3_ n4_ n5_ n6_; (try clear hb); (try clear hkp); (try clear hy0); (try clear hy1); have hcz71_0 : w70.cell? ⟨gb202, 0, none⟩ = some (.int .i64 t192) := (blk_cell BK202.out 0).trans rfl; have hcz71_1 : w70.cell? ⟨gb202, 1, none⟩ = some (.int .i64 t193) := (blk_cell BK202.out 1).trans rfl; have hcz71_2 : w70.cell? ⟨gb202, 2, none⟩ = some (.slice Ao22 t194.length co22) := (blk_cell BK202.out 2).trans rfl; have hcz71_3 : w70.cell? ⟨gb202, 3, none⟩ = some (.slice Ao23 t197.length co23) := (blk_cell BK202.out 3).trans rfl; have hfz71_0 := blk_frozen BK202.out 0; have hfz71_1 := blk_frozen BK202.out 1; have hfz71_2 := blk_frozen BK202.out 2; have hfz71_3 := blk_frozen BK202.out 3) | ((with_reducible refine gate_callee (f := 20) rfl ?_); refine goesL_ (some 83) rfl rfl Try.func20 (by kernel_rfl) rfl #[.agg #[.int .i64 t192, .int .i64 t193, .slice Ao22 t212.length co22, .slice Ao23 t213.length co23], .int .i64 1] rfl (by (try simp only [List.map_toArray, List.map_cons, List.map_nil]); first | done | (rw [show t212.length = t194.length from (Kd.Q_reads' HO_203002.out).1.symm, show t213.length = t197.length from (Kd.R_reads' HO_203003.out).1.symm] <;> rfl) | rfl | (simp only [List.length_drop, List.length_take]; rfl)) ?_; (with_reducible refine (laws_heldHFrame.calls kj43 t192 t193 _ _ t212 _ _ t213 1 t214 _ ?side1 ?side2 ?side3 ?side4 A66.out).mono ?_); (case side1 => repeat (first | exact (Kd.Q_reads' HO_203002.out).2.2 | (with_reducible refine Kd.C_alloc ?_ _) | (with_reducible refine Kd.C_drewN ?_ _) | (with_reducible refine Kd.C_drew ?_))); (case side2 => rw [show t212.length = t194.length from (Kd.Q_reads' HO_203002.out).1.symm]; exact (Kd.Q_reads' HO_203002.out).2.1); (case side3 => repeat (first | exact (Kd.R_reads' HO_203003.out).2.2 | (with_reducible refine Kd.C_alloc ?_ _) | (with_reducible refine Kd.C_drewN ?_ _) | (with_reducible refine Kd.C_drew ?_))); (case side4 => rw [show t213.length = t197.length from (Kd.R_reads' HO_203003.out).1.symm]; exact (Kd.R_reads' HO_203003.out).2.1); rintro e w72 ⟨rfl, hb⟩; refine ⟨_, rfl, ?_⟩; have n0_ := Aside0.mk (Kd.Q_below (by (with_reducible repeat (first | apply Kd.Q_alloc | apply Kd.Q_drewN | apply Kd.Q_drew)); exact HO_189002.out) hb); have n1_ := Aside0.mk (Kd.R_below (by (with_reducible repeat (first | apply Kd.R_alloc | apply Kd.R_drewN | apply Kd.R_drew)); exact HO_189003.out) hb); have n2_ := Aside0.mk (Kd.Q_below (by (with_reducible repeat (first | apply Kd.Q_alloc | apply Kd.Q_drewN | apply Kd.Q_drew)); exact HO_203002.out) hb); have n3_ := Aside0.mk (Kd.R_below (by (with_reducible repeat (first | apply Kd.R_alloc | apply Kd.R_drewN | apply Kd.R_drew)); exact HO_203003.out) hb); have n4_ := Aside0.mk (blk_below (g := gb188) (o := .cells #[.int .i64 t178, .int .i64 t179, .slice Ao14 t180.length co14, .slice Ao15 t183.length co15] 25 (0, 0)) (by (with_reducible repeat (first | refine blk_drewN ?_ _ | refine blk_drew ?_ | refine blk_alloc ?_ _)); exact BK188.out) hb); have n5_ := Aside0.mk (blk_below (g := gb202) (o := .cells #[.int .i64 t192, .int .i64 t193, .slice Ao22 t194.length co22, .slice Ao23 t197.length co23] 25 (0, 0)) (by (with_reducible repeat (first | refine blk_drewN ?_ _ | refine blk_drew ?_ | refine blk_alloc ?_ _)); exact BK202.out) hb); have n6_ := Aside0.mk (below_step (by repeat (first | (with_reducible first | exact HB.out | apply below_alloc | apply pw_below_drewN | apply below_drew1 | refine below_set ?_ GE188.out | refine below_set ?_ GE202.out) | exact HB.out)) hb); clear HO_189002; clear HO_189003; clear HO_203002; clear HO_203003; clear BK188; clear BK202; clear HB; have HO_189002 := n0_; have HO_189003 := n1_; have HO_203002 := n2_; have HO_203003 := n3_; have BK188 := n4_; have BK202 := n5_; have HB := n6_; clear n0_ n1_ n2_ n3_ n4_ n5_ n6_; (try clear hb); (try clear hb2); (try clear hk); (try clear hi)))
                    go_ret
                    exact ⟨by first | rfl | (simp [errW_none, errW_some] <;> rfl) | (simp [*, errW_none, errW_some] <;> rfl), by repeat (first | (with_reducible first | exact HB.out | apply below_alloc | apply pw_below_drewN | apply below_drew1 | refine below_set ?_ GE188.out | refine below_set ?_ GE202.out) | exact HB.out)⟩
                  · rw [if_neg c67] at H
                    have c67b0 : decide (t214 < 0) = false := decide_eq_false c67
                    clear c67
                    by_cases c73 : t214 = t211
                    · rw [if_pos c73] at H
                      have c73b0 : (t214 == t211) = true := beq_iff_eq.mpr c73
                      have c73b1 : (t214 != t211) = false := bne_eq_false_iff_eq.mpr c73
                      clear c73
                      replace H := Option.bind_eq_some_iff.mp H
                      obtain ⟨t215, A740, H⟩ := H
                      replace H : ((impl_ReadHyper.f kj43 t215 a1).bind fun bt218 => ((laws_eqHFrame.f kj43 bt218.1 bt218.2.1 bt218.2.2.1 bt218.2.2.2.1 t178 t179 t180 t183).bind fun t229 => (if t229 = true then (if bt218.2.2.2.2.1 = t186 then (laws_FnExactReadHyper.j2 kj43 t211 (bt218.2.2.2.2.2 != t187) t192 t193 t212 t213) else (laws_FnExactReadHyper.j2 kj43 t211 true t192 t193 t212 t213)) else (laws_FnExactReadHyper.j2 kj43 t211 true t192 t193 t212 t213)))) = some r := H
                      have A74 := Aside0.mk A740
                      clear A740
                      replace H := Option.bind_eq_some_iff.mp H
                      obtain ⟨⟨t218, t219, t220, t223, t226, t227⟩, A750, H⟩ := H
                      replace H : ((laws_eqHFrame.f kj43 t218 t219 t220 t223 t178 t179 t180 t183).bind fun t229 => (if t229 = true then (if t226 = t186 then (laws_FnExactReadHyper.j2 kj43 t211 (t227 != t187) t192 t193 t212 t213) else (laws_FnExactReadHyper.j2 kj43 t211 true t192 t193 t212 t213)) else (laws_FnExactReadHyper.j2 kj43 t211 true t192 t193 t212 t213))) = some r := H
                      have A75 := Aside0.mk A750
                      clear A750
                      have HC76 := Aside0.mk H
                      clear H
                      have hnb77 := NB202_188.out
                      have hnc77 := NB188_202.out
                      have hcz78_0 : wc.cell? ⟨gb202, 0, none⟩ = some (.int .i64 t192) := (blk_cell BK202.out 0).trans rfl
                      have hcz78_1 : wc.cell? ⟨gb202, 1, none⟩ = some (.int .i64 t193) := (blk_cell BK202.out 1).trans rfl
                      have hcz78_2 : wc.cell? ⟨gb202, 2, none⟩ = some (.slice Ao22 t194.length co22) := (blk_cell BK202.out 2).trans rfl
                      have hcz78_3 : wc.cell? ⟨gb202, 3, none⟩ = some (.slice Ao23 t197.length co23) := (blk_cell BK202.out 3).trans rfl
                      have hfz78_0 := blk_frozen BK202.out 0
                      have hfz78_1 := blk_frozen BK202.out 1
                      have hfz78_2 := blk_frozen BK202.out 2
                      have hfz78_3 := blk_frozen BK202.out 3
                      go_upto_region 23 with (first | ((with_reducible refine gate_callee (f := 19) rfl ?_); refine goesL_ (some 80) rfl rfl Try.func19 (by kernel_rfl) rfl #[.agg #[.int .i64 t192, .int .i64 t193, .slice Ao22 t194.length co22, .slice Ao23 t197.length co23], .int .i64 1] rfl (by (try simp only [List.map_toArray, List.map_cons, List.map_nil]); first | done | rfl | (simp only [List.length_drop, List.length_take]; rfl)) ?_; (with_reducible refine (laws_markHFrame.calls kj43 t192 t193 (fun k_ => some k_ = (.slice Ao22 t194.length co22 : Value).ownBlock) (.slice Ao22 t194.length co22) t194 (fun k_ => some k_ = (.slice Ao23 t197.length co23 : Value).ownBlock) (.slice Ao23 t197.length co23) t197 1 t211 t212 t213 w _ ?side1 ?side2 ?side3 A65.out).mono ?_); (case side1 => repeat (first | (with_reducible first | exact HB.out | apply below_alloc | apply pw_below_drewN | apply below_drew1 | refine below_set ?_ GE188.out | refine below_set ?_ GE202.out) | exact HB.out)); (case side2 => exact Kd.Q_tight rfl HO_203002.out); (case side3 => exact Kd.R_tight rfl HO_203003.out); rintro e w79 ⟨rfl, hy0, hy1, hb, hkp⟩; refine ⟨_, rfl, ?_⟩; have n0_ := Aside0.mk (Kd.Q_mono (ok' := fun k_ => some k_ ≠ (.slice Ao22 t194.length co22 : Value).ownBlock) (Kd.Q_keptB ((Kd.Q_apart' HO_189002.out (Kd.R_typed HO_203003.out) (by decide))) hkp (fun k_ hk_ hs_ => Or.elim hs_ (fun e_ => (hk_.1) e_) (fun e_ => (hk_.2) e_))) (fun k_ hk_ => hk_.1.1)); have n1_ := Aside0.mk (Kd.R_mono (ok' := fun k_ => some k_ ≠ (.slice Ao23 t197.length co23 : Value).ownBlock) (Kd.R_keptB ((Kd.R_apart' HO_189003.out (Kd.Q_typed HO_203002.out) (by decide))) hkp (fun k_ hk_ hs_ => Or.elim hs_ (fun e_ => (hk_.2) e_) (fun e_ => (hk_.1) e_))) (fun k_ hk_ => hk_.1.1)); have n2_ := Aside0.mk (Kd.Q_mono (Kd.Q_tight rfl hy0) (fun k_ e_ => HO_203002.out.1 k_ e_.symm)); have n3_ := Aside0.mk (Kd.R_reok rfl hy1 (fun k_ e_ => HO_203003.out.1 k_ e_)); have n4_ := Aside0.mk (blk_kept (by (with_reducible repeat (first | refine blk_drewN ?_ _ | refine blk_drew ?_ | refine blk_alloc ?_ _)); exact BK188.out) hkp (fun hs_ => Or.elim hs_ (fun e_ => (fun e_ => (Kd.Q_ne HO_203002.out BK188.out (by decide)) e_) e_) (fun e_ => (fun e_ => (Kd.R_ne HO_203003.out BK188.out (by decide)) e_) e_))); have n5_ := Aside0.mk (blk_kept (by (with_reducible repeat (first | refine blk_drewN ?_ _ | refine blk_drew ?_ | refine blk_alloc ?_ _)); exact BK202.out) hkp (fun hs_ => Or.elim hs_ (fun e_ => (fun e_ => (Kd.Q_ne HO_203002.out BK202.out (by decide)) e_) e_) (fun e_ => (fun e_ => (Kd.R_ne HO_203003.out BK202.out (by decide)) e_) e_))); have n6_ := Aside0.mk (hb); clear HO_189002; clear HO_189003; clear HO_203002; clear HO_203003; clear BK188; clear BK202; clear HB; have HO_189002 := n0_; have HO_189003 := n1_; have HO_203002 := n2_; have HO_203003 := n3_; have BK188 := n4_; have BK202 := n5_; have HB := n6_; clear n0_ n1_ n2_ n3_ n4_ n5_ n6_; (try clear hb); (try clear hkp); (try clear hy0); (try clear hy1); have hcz80_0 : w79.cell? ⟨gb202, 0, none⟩ = some (.int .i64 t192) := (blk_cell BK202.out 0).trans rfl; have hcz80_1 : w79.cell? ⟨gb202, 1, none⟩ = some (.int .i64 t193) := (blk_cell BK202.out 1).trans rfl; have hcz80_2 : w79.cell? ⟨gb202, 2, none⟩ = some (.slice Ao22 t194.length co22) := (blk_cell BK202.out 2).trans rfl; have hcz80_3 : w79.cell? ⟨gb202, 3, none⟩ = some (.slice Ao23 t197.length co23) := (blk_cell BK202.out 3).trans rfl; have hfz80_0 := blk_frozen BK202.out 0; have hfz80_1 := blk_frozen BK202.out 1; have hfz80_2 := blk_frozen BK202.out 2; have hfz80_3 := blk_frozen BK202.out 3) | ((with_reducible refine gate_callee (f := 20) rfl ?_); refine goesL_ (some 83) rfl rfl Try.func20 (by kernel_rfl) rfl #[.agg #[.int .i64 t192, .int .i64 t193, .slice Ao22 t212.length co22, .slice Ao23 t213.length co23], .int .i64 1] rfl (by (try simp only [List.map_toArray, List.map_cons, List.map_nil]); first | done | (rw [show t212.length = t194.length from (Kd.Q_reads' HO_203002.out).1.symm, show t213.length = t197.length from (Kd.R_reads' HO_203003.out).1.symm] <;> rfl) | rfl | (simp only [List.length_drop, List.length_take]; rfl)) ?_; (with_reducible refine (laws_heldHFrame.calls kj43 t192 t193 _ _ t212 _ _ t213 1 t214 _ ?side1 ?side2 ?side3 ?side4 A66.out).mono ?_); (case side1 => repeat (first | exact (Kd.Q_reads' HO_203002.out).2.2 | (with_reducible refine Kd.C_alloc ?_ _) | (with_reducible refine Kd.C_drewN ?_ _) | (with_reducible refine Kd.C_drew ?_))); (case side2 => rw [show t212.length = t194.length from (Kd.Q_reads' HO_203002.out).1.symm]; exact (Kd.Q_reads' HO_203002.out).2.1); (case side3 => repeat (first | exact (Kd.R_reads' HO_203003.out).2.2 | (with_reducible refine Kd.C_alloc ?_ _) | (with_reducible refine Kd.C_drewN ?_ _) | (with_reducible refine Kd.C_drew ?_))); (case side4 => rw [show t213.length = t197.length from (Kd.R_reads' HO_203003.out).1.symm]; exact (Kd.R_reads' HO_203003.out).2.1); rintro e w81 ⟨rfl, hb⟩; refine ⟨_, rfl, ?_⟩; have n0_ := Aside0.mk (Kd.Q_below (by (with_reducible repeat (first | apply Kd.Q_alloc | apply Kd.Q_drewN | apply Kd.Q_drew)); exact HO_189002.out) hb); have n1_ := Aside0.mk (Kd.R_below (by (with_reducible repeat (first | apply Kd.R_alloc | apply Kd.R_drewN | apply Kd.R_drew)); exact HO_189003.out) hb); have n2_ := Aside0.mk (Kd.Q_below (by (with_reducible repeat (first | apply Kd.Q_alloc | apply Kd.Q_drewN | apply Kd.Q_drew)); exact HO_203002.out) hb); have n3_ := Aside0.mk (Kd.R_below (by (with_reducible repeat (first | apply Kd.R_alloc | apply Kd.R_drewN | apply Kd.R_drew)); exact HO_203003.out) hb); have n4_ := Aside0.mk (blk_below (g := gb188) (o := .cells #[.int .i64 t178, .int .i64 t179, .slice Ao14 t180.length co14, .slice Ao15 t183.length co15] 25 (0, 0)) (by (with_reducible repeat (first | refine blk_drewN ?_ _ | refine blk_drew ?_ | refine blk_alloc ?_ _)); exact BK188.out) hb); have n5_ := Aside0.mk (blk_below (g := gb202) (o := .cells #[.int .i64 t192, .int .i64 t193, .slice Ao22 t194.length co22, .slice Ao23 t197.length co23] 25 (0, 0)) (by (with_reducible repeat (first | refine blk_drewN ?_ _ | refine blk_drew ?_ | refine blk_alloc ?_ _)); exact BK202.out) hb); have n6_ := Aside0.mk (below_step (by repeat (first | (with_reducible first | exact HB.out | apply below_alloc | apply pw_below_drewN | apply below_drew1 | refine below_set ?_ GE188.out | refine below_set ?_ GE202.out) | exact HB.out)) hb); clear HO_189002; clear HO_189003; clear HO_203002; clear HO_203003; clear BK188; clear BK202; clear HB; have HO_189002 := n0_; have HO_189003 := n1_; have HO_203002 := n2_; have HO_203003 := n3_; have BK188 := n4_; have BK202 := n5_; have HB := n6_; clear n0_ n1_ n2_ n3_ n4_ n5_ n6_; (try clear hb); (try clear hb2); (try clear hk); (try clear hi)) | ((with_reducible refine gate_callee (f := 14) rfl ?_); refine goesL_ (some 91) rfl rfl Try.func14 (by kernel_rfl) rfl #[.slice A0 l0.length c0] rfl (by (try simp only [List.map_toArray, List.map_cons, List.map_nil]); first | done | rfl | (simp only [List.length_drop, List.length_take]; rfl)) ?_; (with_reducible refine (laws_toByteS.calls kj43 _ _ l0 t215 _ ?side1 ?side2 A74.out).mono ?_); (case side1 => repeat (first | exact (Kd.C_below HR0.out HB.out) | (with_reducible refine Kd.C_alloc ?_ _) | (with_reducible refine Kd.C_drewN ?_ _) | (with_reducible refine Kd.C_drew ?_))); (case side2 => exact HC0.out); rintro e w82 ⟨v216, rfl, ho0, hb⟩; refine ⟨_, rfl, ?_⟩; have n0_ := Aside0.mk (Kd.Q_elder' (by (with_reducible repeat (first | apply Kd.Q_alloc | apply Kd.Q_drewN | apply Kd.Q_drew)); exact HO_189002.out) (Kd.R_base ho0) hb); have n1_ := Aside0.mk (Kd.R_below (by (with_reducible repeat (first | apply Kd.R_alloc | apply Kd.R_drewN | apply Kd.R_drew)); exact HO_189003.out) hb); have n2_ := Aside0.mk (Kd.Q_elder' (by (with_reducible repeat (first | apply Kd.Q_alloc | apply Kd.Q_drewN | apply Kd.Q_drew)); exact HO_203002.out) (Kd.R_base ho0) hb); have n3_ := Aside0.mk (Kd.R_below (by (with_reducible repeat (first | apply Kd.R_alloc | apply Kd.R_drewN | apply Kd.R_drew)); exact HO_203003.out) hb); have n4_ := Aside0.mk (Kd.R_lower (Kd.R_new' (Kd.R_new' ho0 (Kd.Q_lt (by (with_reducible repeat (first | apply Kd.Q_alloc | apply Kd.Q_drewN | apply Kd.Q_drew)); exact HO_189002.out))) (Kd.Q_lt (by (with_reducible repeat (first | apply Kd.Q_alloc | apply Kd.Q_drewN | apply Kd.Q_drew)); exact HO_203002.out))) (below_size (by repeat (first | (with_reducible first | exact HB.out | apply below_alloc | apply pw_below_drewN | apply below_drew1 | refine below_set ?_ GE188.out | refine below_set ?_ GE202.out) | exact HB.out)))); have n5_ := Aside0.mk (blk_below (g := gb188) (o := .cells #[.int .i64 t178, .int .i64 t179, .slice Ao14 t180.length co14, .slice Ao15 t183.length co15] 25 (0, 0)) (by (with_reducible repeat (first | refine blk_drewN ?_ _ | refine blk_drew ?_ | refine blk_alloc ?_ _)); exact BK188.out) hb); have n6_ := Aside0.mk (blk_below (g := gb202) (o := .cells #[.int .i64 t192, .int .i64 t193, .slice Ao22 t194.length co22, .slice Ao23 t197.length co23] 25 (0, 0)) (by (with_reducible repeat (first | refine blk_drewN ?_ _ | refine blk_drew ?_ | refine blk_alloc ?_ _)); exact BK202.out) hb); have n7_ := Aside0.mk (below_step (by repeat (first | (with_reducible first | exact HB.out | apply below_alloc | apply pw_below_drewN | apply below_drew1 | refine below_set ?_ GE188.out | refine below_set ?_ GE202.out) | exact HB.out)) hb); clear HO_189002; clear HO_189003; clear HO_203002; clear HO_203003; clear BK188; clear BK202; clear HB; have HO_189002 := n0_; have HO_189003 := n1_; have HO_203002 := n2_; have HO_203003 := n3_; have HO217 := n4_; have BK188 := n5_; have BK202 := n6_; have HB := n7_; clear n0_ n1_ n2_ n3_ n4_ n5_ n6_ n7_; (try clear hb); (try clear hb2); (try clear hk); (try clear hi); (try clear ho0); obtain ⟨Ao83, co83, eo83⟩ := Kd.R_slice HO217.out; subst eo83) | ((with_reducible refine gate_callee (f := 15) rfl ?_); refine goesL_ (some 93) rfl rfl Try.func15 (by kernel_rfl) rfl #[.slice Ao83 t215.length co83, .int .i64 a1] rfl (by (try simp only [List.map_toArray, List.map_cons, List.map_nil]); first | done | rfl | (simp only [List.length_drop, List.length_take]; rfl)) ?_; (with_reducible refine (impl_ReadHyper.calls kj43 _ _ t215 a1 t218 t219 t220 t223 t226 t227 _ ?side1 ?side2 A75.out).mono ?_); (case side1 => repeat (first | exact (Kd.R_reads' HO217.out).2.2 | (with_reducible refine Kd.C_alloc ?_ _) | (with_reducible refine Kd.C_drewN ?_ _) | (with_reducible refine Kd.C_drew ?_))); (case side2 => exact (Kd.R_reads' HO217.out).2.1); rintro e w84 ⟨v221, v224, rfl, ho0, ho1, hb⟩; refine ⟨_, rfl, ?_⟩; have n0_ := Aside0.mk (Kd.Q_elder' (by (with_reducible repeat (first | apply Kd.Q_alloc | apply Kd.Q_drewN | apply Kd.Q_drew)); exact HO_189002.out) (Kd.Q_base ho0) hb); have n1_ := Aside0.mk (Kd.R_elder' (by (with_reducible repeat (first | apply Kd.R_alloc | apply Kd.R_drewN | apply Kd.R_drew)); exact HO_189003.out) (Kd.R_base ho1) hb); have n2_ := Aside0.mk (Kd.Q_elder' (by (with_reducible repeat (first | apply Kd.Q_alloc | apply Kd.Q_drewN | apply Kd.Q_drew)); exact HO_203002.out) (Kd.Q_base ho0) hb); have n3_ := Aside0.mk (Kd.R_elder' (by (with_reducible repeat (first | apply Kd.R_alloc | apply Kd.R_drewN | apply Kd.R_drew)); exact HO_203003.out) (Kd.R_base ho1) hb); have n4_ := Aside0.mk (Kd.R_elder' (by (with_reducible repeat (first | apply Kd.R_alloc | apply Kd.R_drewN | apply Kd.R_drew)); exact HO217.out) (Kd.Q_base ho0) hb); have n5_ := Aside0.mk (Kd.Q_lower (Kd.Q_new' (Kd.Q_new' (Kd.Q_new' ho0 (Kd.Q_lt (by (with_reducible repeat (first | apply Kd.Q_alloc | apply Kd.Q_drewN | apply Kd.Q_drew)); exact HO_189002.out))) (Kd.Q_lt (by (with_reducible repeat (first | apply Kd.Q_alloc | apply Kd.Q_drewN | apply Kd.Q_drew)); exact HO_203002.out))) (Kd.R_lt (by (with_reducible repeat (first | apply Kd.R_alloc | apply Kd.R_drewN | apply Kd.R_drew)); exact HO217.out))) (below_size (by repeat (first | (with_reducible first | exact HB.out | apply below_alloc | apply pw_below_drewN | apply below_drew1 | refine below_set ?_ GE188.out | refine below_set ?_ GE202.out) | exact HB.out)))); have n6_ := Aside0.mk (Kd.R_lower (Kd.R_new' (Kd.R_new' ho1 (Kd.R_lt (by (with_reducible repeat (first | apply Kd.R_alloc | apply Kd.R_drewN | apply Kd.R_drew)); exact HO_189003.out))) (Kd.R_lt (by (with_reducible repeat (first | apply Kd.R_alloc | apply Kd.R_drewN | apply Kd.R_drew)); exact HO_203003.out))) (below_size (by repeat (first | (with_reducible first | exact HB.out | apply below_alloc | apply pw_below_drewN | apply below_drew1 | refine below_set ?_ GE188.out | refine below_set ?_ GE202.out) | exact HB.out)))); have n7_ := Aside0.mk (blk_below (g := gb188) (o := .cells #[.int .i64 t178, .int .i64 t179, .slice Ao14 t180.length co14, .slice Ao15 t183.length co15] 25 (0, 0)) (by (with_reducible repeat (first | refine blk_drewN ?_ _ | refine blk_drew ?_ | refine blk_alloc ?_ _)); exact BK188.out) hb); have n8_ := Aside0.mk (blk_below (g := gb202) (o := .cells #[.int .i64 t192, .int .i64 t193, .slice Ao22 t194.length co22, .slice Ao23 t197.length co23] 25 (0, 0)) (by (with_reducible repeat (first | refine blk_drewN ?_ _ | refine blk_drew ?_ | refine blk_alloc ?_ _)); exact BK202.out) hb); have n9_ := Aside0.mk (below_step (by repeat (first | (with_reducible first | exact HB.out | apply below_alloc | apply pw_below_drewN | apply below_drew1 | refine below_set ?_ GE188.out | refine below_set ?_ GE202.out) | exact HB.out)) hb); clear HO_189002; clear HO_189003; clear HO_203002; clear HO_203003; clear HO217; clear BK188; clear BK202; clear HB; have HO_189002 := n0_; have HO_189003 := n1_; have HO_203002 := n2_; have HO_203003 := n3_; have HO217 := n4_; have HO222 := n5_; have HO225 := n6_; have BK188 := n7_; have BK202 := n8_; have HB := n9_; clear n0_ n1_ n2_ n3_ n4_ n5_ n6_ n7_ n8_ n9_; (try clear hb); (try clear hb2); (try clear hk); (try clear hi); (try clear ho0); (try clear ho1)) | ((with_reducible refine gate_dst (N := 15) rfl ?_); refine box_event ?hg (N := 15) ?hd (cs := #[.int .i64 0, .int .i64 0, .slice none 0 0, .slice none 0 0]) (t := 25) ?hr ?_; (case hd => rfl); (case hg => rfl); (case hr => first | (go_simp; done) | (go_simp; rfl)); intro gb228 hg w85 hbox hb; have n0_ := Aside0.mk (Kd.Q_below (by (with_reducible repeat (first | apply Kd.Q_alloc | apply Kd.Q_drewN | apply Kd.Q_drew)); exact HO_189002.out) hb); have n1_ := Aside0.mk (Kd.R_below (by (with_reducible repeat (first | apply Kd.R_alloc | apply Kd.R_drewN | apply Kd.R_drew)); exact HO_189003.out) hb); have n2_ := Aside0.mk (Kd.Q_below (by (with_reducible repeat (first | apply Kd.Q_alloc | apply Kd.Q_drewN | apply Kd.Q_drew)); exact HO_203002.out) hb); have n3_ := Aside0.mk (Kd.R_below (by (with_reducible repeat (first | apply Kd.R_alloc | apply Kd.R_drewN | apply Kd.R_drew)); exact HO_203003.out) hb); have n4_ := Aside0.mk (Kd.R_below (by (with_reducible repeat (first | apply Kd.R_alloc | apply Kd.R_drewN | apply Kd.R_drew)); exact HO217.out) hb); have n5_ := Aside0.mk (Kd.Q_below (by (with_reducible repeat (first | apply Kd.Q_alloc | apply Kd.Q_drewN | apply Kd.Q_drew)); exact HO222.out) hb); have n6_ := Aside0.mk (Kd.R_below (by (with_reducible repeat (first | apply Kd.R_alloc | apply Kd.R_drewN | apply Kd.R_drew)); exact HO225.out) hb); have n7_ := Aside0.mk (blk_below (g := gb188) (o := .cells #[.int .i64 t178, .int .i64 t179, .slice Ao14 t180.length co14, .slice Ao15 t183.length co15] 25 (0, 0)) (by (with_reducible repeat (first | refine blk_drewN ?_ _ | refine blk_drew ?_ | refine blk_alloc ?_ _)); exact BK188.out) hb); have n8_ := Aside0.mk (blk_below (g := gb202) (o := .cells #[.int .i64 t192, .int .i64 t193, .slice Ao22 t194.length co22, .slice Ao23 t197.length co23] 25 (0, 0)) (by (with_reducible repeat (first | refine blk_drewN ?_ _ | refine blk_drew ?_ | refine blk_alloc ?_ _)); exact BK202.out) hb); have n9_ := Aside0.mk (below_step (by repeat (first | (with_reducible first | exact HB.out | apply below_alloc | apply pw_below_drewN | apply below_drew1 | refine below_set ?_ GE188.out | refine below_set ?_ GE202.out) | exact HB.out)) hb); have n10_ := Aside0.mk (hbox); have n11_ := Aside0.mk ((by rw [hg]; exact (below_size (by repeat (first | (with_reducible first | exact HB.out | apply below_alloc | apply pw_below_drewN | apply below_drew1 | refine below_set ?_ GE188.out | refine below_set ?_ GE202.out) | exact HB.out))) : w.heap.size ≤ gb228)); have n12_ := Aside0.mk ((by rw [hg]; exact (below_size (by repeat (first | (with_reducible first | exact HB.out | apply below_alloc | apply pw_below_drewN | apply below_drew1 | refine below_set ?_ GE188.out | refine below_set ?_ GE202.out) | exact HB.out))) : w.heap.size ≤ gb228)); have n13_ := Aside0.mk ((by rw [hg]; exact Nat.ne_of_lt (blk_lt (g := gb188) (o := .cells #[.int .i64 t178, .int .i64 t179, .slice Ao14 t180.length co14, .slice Ao15 t183.length co15] 25 (0, 0)) (by (with_reducible repeat (first | refine blk_drewN ?_ _ | refine blk_drew ?_ | refine blk_alloc ?_ _)); exact BK188.out)) : gb188 ≠ gb228)); have n14_ := Aside0.mk ((by rw [hg]; exact Nat.ne_of_gt (blk_lt (g := gb188) (o := .cells #[.int .i64 t178, .int .i64 t179, .slice Ao14 t180.length co14, .slice Ao15 t183.length co15] 25 (0, 0)) (by (with_reducible repeat (first | refine blk_drewN ?_ _ | refine blk_drew ?_ | refine blk_alloc ?_ _)); exact BK188.out)) : gb228 ≠ gb188)); have n15_ := Aside0.mk ((by rw [hg]; exact Nat.ne_of_lt (blk_lt (g := gb202) (o := .cells #[.int .i64 t192, .int .i64 t193, .slice Ao22 t194.length co22, .slice Ao23 t197.length co23] 25 (0, 0)) (by (with_reducible repeat (first | refine blk_drewN ?_ _ | refine blk_drew ?_ | refine blk_alloc ?_ _)); exact BK202.out)) : gb202 ≠ gb228)); have n16_ := Aside0.mk ((by rw [hg]; exact Nat.ne_of_gt (blk_lt (g := gb202) (o := .cells #[.int .i64 t192, .int .i64 t193, .slice Ao22 t194.length co22, .slice Ao23 t197.length co23] 25 (0, 0)) (by (with_reducible repeat (first | refine blk_drewN ?_ _ | refine blk_drew ?_ | refine blk_alloc ?_ _)); exact BK202.out)) : gb228 ≠ gb202)); clear HO_189002; clear HO_189003; clear HO_203002; clear HO_203003; clear HO217; clear HO222; clear HO225; clear BK188; clear BK202; clear HB; have HO_189002 := n0_; have HO_189003 := n1_; have HO_203002 := n2_; have HO_203003 := n3_; have HO217 := n4_; have HO222 := n5_; have HO225 := n6_; have BK188 := n7_; have BK202 := n8_; have HB := n9_; have BK228 := n10_; have GW228 := n11_; have GE228 := n12_; have NB188_228 := n13_; have NB228_188 := n14_; have NB202_228 := n15_; have NB228_202 := n16_; clear n0_ n1_ n2_ n3_ n4_ n5_ n6_ n7_ n8_ n9_ n10_ n11_ n12_ n13_ n14_ n15_ n16_; clear hb hbox hg; have hnb86 := NB228_188.out; have hnc86 := NB188_228.out; have hnb87 := NB228_202.out; have hnc87 := NB202_228.out; have hcz88_0 : w85.cell? ⟨gb228, 0, none⟩ = some (.int .i64 0) := (blk_cell BK228.out 0).trans rfl; have hcz88_1 : w85.cell? ⟨gb228, 1, none⟩ = some (.int .i64 0) := (blk_cell BK228.out 1).trans rfl; have hcz88_2 : w85.cell? ⟨gb228, 2, none⟩ = some (.slice none 0 0) := (blk_cell BK228.out 2).trans rfl; have hcz88_3 : w85.cell? ⟨gb228, 3, none⟩ = some (.slice none 0 0) := (blk_cell BK228.out 3).trans rfl; have hfz88_0 := blk_frozen BK228.out 0; have hfz88_1 := blk_frozen BK228.out 1; have hfz88_2 := blk_frozen BK228.out 2; have hfz88_3 := blk_frozen BK228.out 3; obtain ⟨Ao89, co89, eo89, _⟩ := Kd.Q_slice HO222.out; subst eo89; obtain ⟨Ao90, co90, eo90⟩ := Kd.R_slice HO225.out; subst eo90))
                      (try simp only [Act.put, List.setIfInBounds_toArray, List.set_cons_zero, List.set_cons_succ])
                      go_cut [110] (fun v110 wc => ∃ (kq : Nat) (x110_75 : Bool), v110 = .bool x110_75 ∧ Aside0 (laws_FnExactReadHyper.j2 kq t211 x110_75 t192 t193 t212 t213 = some r) ∧ Aside0 (kq ≤ kj43) ∧ Aside0 (Kd.Q (Kd.int .u8) 5 wc w.heap.size (fun k_ => some k_ ≠ ((.slice Ao22 t194.length co22) : Value).ownBlock ∧ some k_ ≠ ((.slice Ao89 t220.length co89) : Value).ownBlock) (.slice Ao14 t180.length co14) t180) ∧ Aside0 (Kd.R k122 122 wc w.heap.size (fun k_ => some k_ ≠ ((.slice Ao23 t197.length co23) : Value).ownBlock ∧ some k_ ≠ ((.slice Ao90 t223.length co90) : Value).ownBlock) (.slice Ao15 t183.length co15) t183) ∧ Aside0 (Kd.Q (Kd.int .u8) 5 wc w.heap.size (fun k_ => some k_ ≠ ((.slice Ao14 t180.length co14) : Value).ownBlock ∧ some k_ ≠ ((.slice Ao89 t220.length co89) : Value).ownBlock) (.slice Ao22 t194.length co22) t212) ∧ Aside0 (Kd.R k122 122 wc w.heap.size (fun k_ => some k_ ≠ ((.slice Ao15 t183.length co15) : Value).ownBlock ∧ some k_ ≠ ((.slice Ao90 t223.length co90) : Value).ownBlock) (.slice Ao23 t197.length co23) t213) ∧ Aside0 (Kd.Q (Kd.int .u8) 5 wc w.heap.size (fun k_ => some k_ ≠ ((.slice Ao14 t180.length co14) : Value).ownBlock ∧ some k_ ≠ ((.slice Ao22 t194.length co22) : Value).ownBlock) (.slice Ao89 t220.length co89) t220) ∧ Aside0 (Kd.R k122 122 wc w.heap.size (fun k_ => some k_ ≠ ((.slice Ao15 t183.length co15) : Value).ownBlock ∧ some k_ ≠ ((.slice Ao23 t197.length co23) : Value).ownBlock) (.slice Ao90 t223.length co90) t223) ∧ Aside0 (wc.heap[gb188]? = some (.cells #[.int .i64 t178, .int .i64 t179, (.slice Ao14 t180.length co14), (.slice Ao15 t183.length co15)] 25 (0, 0))) ∧ Aside0 (wc.heap[gb202]? = some (.cells #[.int .i64 t192, .int .i64 t193, (.slice Ao22 t194.length co22), (.slice Ao23 t197.length co23)] 25 (0, 0))) ∧ Aside0 (wc.heap[gb228]? = some (.cells #[.int .i64 t218, .int .i64 t219, (.slice Ao89 t220.length co89), (.slice Ao90 t223.length co90)] 25 (0, 0))) ∧ Aside0 (Below w.heap.size w wc))
                      case first =>
                        have H := HC76.out
                        clear HC76
                        replace H := Option.bind_eq_some_iff.mp H
                        obtain ⟨t229, A910, H⟩ := H
                        replace H : (if t229 = true then (if t226 = t186 then (laws_FnExactReadHyper.j2 kj43 t211 (t227 != t187) t192 t193 t212 t213) else (laws_FnExactReadHyper.j2 kj43 t211 true t192 t193 t212 t213)) else (laws_FnExactReadHyper.j2 kj43 t211 true t192 t193 t212 t213)) = some r := H
                        have A91 := Aside0.mk A910
                        clear A910
                        by_cases c92 : t229 = true
                        · subst c92
                          have H1 : (if t226 = t186 then (laws_FnExactReadHyper.j2 kj43 t211 (t227 != t187) t192 t193 t212 t213) else (laws_FnExactReadHyper.j2 kj43 t211 true t192 t193 t212 t213)) = some r := by rw [if_pos rfl] at H; exact H
                          clear H
                          have H := H1
                          clear H1
                          by_cases c93 : t226 = t186
                          · rw [if_pos c93] at H
                            have c93b0 : (t226 == t186) = true := beq_iff_eq.mpr c93
                            have c93b1 : (t226 != t186) = false := bne_eq_false_iff_eq.mpr c93
                            clear c93
                            (first | rw [c93b0] | (simp only [i64_w, i32_w]; rw [c93b0]) | skip)
                            have H' := Aside0.mk H
                            clear H
                            have hnb94 := NB228_188.out
                            have hnc94 := NB188_228.out
                            have hnb95 := NB228_202.out
                            have hnc95 := NB202_228.out
                            have hcz96_0 : w85.cell? ⟨gb228, 0, none⟩ = some (.int .i64 0) := (blk_cell BK228.out 0).trans rfl
                            have hcz96_1 : w85.cell? ⟨gb228, 1, none⟩ = some (.int .i64 0) := (blk_cell BK228.out 1).trans rfl
                            have hcz96_2 : w85.cell? ⟨gb228, 2, none⟩ = some (.slice none 0 0) := (blk_cell BK228.out 2).trans rfl
                            have hcz96_3 : w85.cell? ⟨gb228, 3, none⟩ = some (.slice none 0 0) := (blk_cell BK228.out 3).trans rfl
                            have hfz96_0 := blk_frozen BK228.out 0
                            have hfz96_1 := blk_frozen BK228.out 1
                            have hfz96_2 := blk_frozen BK228.out 2
                            have hfz96_3 := blk_frozen BK228.out 3
                            have hnb97 := NB188_202.out
                            have hnc97 := NB202_188.out
                            have hcz98_0 : w85.cell? ⟨gb188, 0, none⟩ = some (.int .i64 t178) := (blk_cell BK188.out 0).trans rfl
                            have hcz98_1 : w85.cell? ⟨gb188, 1, none⟩ = some (.int .i64 t179) := (blk_cell BK188.out 1).trans rfl
                            have hcz98_2 : w85.cell? ⟨gb188, 2, none⟩ = some (.slice Ao14 t180.length co14) := (blk_cell BK188.out 2).trans rfl
                            have hcz98_3 : w85.cell? ⟨gb188, 3, none⟩ = some (.slice Ao15 t183.length co15) := (blk_cell BK188.out 3).trans rfl
                            have hfz98_0 := blk_frozen BK188.out 0
                            have hfz98_1 := blk_frozen BK188.out 1
                            have hfz98_2 := blk_frozen BK188.out 2
                            have hfz98_3 := blk_frozen BK188.out 3
                            go_wp2_with (first | ((with_reducible refine gate_callee (f := 16) rfl ?_); refine goesL_ (some 99) rfl rfl Try.func16 (by kernel_rfl) rfl #[.agg #[.int .i64 t218, .int .i64 t219, .slice Ao89 t220.length co89, .slice Ao90 t223.length co90], .agg #[.int .i64 t178, .int .i64 t179, .slice Ao14 t180.length co14, .slice Ao15 t183.length co15]] rfl (by (try simp only [List.map_toArray, List.map_cons, List.map_nil]); first | done | rfl | (simp only [List.length_drop, List.length_take]; rfl)) ?_; (with_reducible refine (laws_eqHFrame.calls kj43 t218 t219 _ _ t220 _ _ t223 t178 t179 _ _ t180 _ _ t183 true _ ?side1 ?side2 ?side3 ?side4 ?side5 ?side6 ?side7 ?side8 A91.out).mono ?_); (case side1 => refine (Kd.Q_reads' (e := 5) (base := w.heap.size) (ok := fun k_ => (((True ∧ some k_ ≠ (.slice Ao14 t180.length co14 : Value).ownBlock) ∧ some k_ ≠ (.slice Ao22 t194.length co22 : Value).ownBlock) ∧ some k_ ≠ (.slice Ao83 t215.length co83 : Value).ownBlock)) (n := t220.length) (c := co89) ?_).2.2; exact (by (with_reducible repeat (first | apply Kd.Q_alloc | apply Kd.Q_drewN | apply Kd.Q_drew)); exact (Kd.Q_mono (Kd.Q_far (p := ⟨gb228, 3, none⟩) (Kd.Q_far (p := ⟨gb228, 2, none⟩) (Kd.Q_far (p := ⟨gb228, 1, none⟩) (Kd.Q_far (p := ⟨gb228, 0, none⟩) (Kd.Q_types HO222.out BK228.out (by decide)) (fun _ hk => hk.2) (.int .i64 t218)) (fun _ hk => hk.2) (.int .i64 t219)) (fun _ hk => hk.2) (.slice Ao89 t220.length co89)) (fun _ hk => hk.2) (.slice Ao90 t223.length co90)) (fun _ h_ => h_.1)))); (case side2 => exact (Kd.Q_reads' HO222.out).2.1); (case side3 => refine (Kd.R_reads' (e := 122) (base := w.heap.size) (ok := fun k_ => ((True ∧ some k_ ≠ (.slice Ao15 t183.length co15 : Value).ownBlock) ∧ some k_ ≠ (.slice Ao23 t197.length co23 : Value).ownBlock)) (n := t223.length) (c := co90) ?_).2.2; exact (by (with_reducible repeat (first | apply Kd.R_alloc | apply Kd.R_drewN | apply Kd.R_drew)); exact (Kd.R_mono (Kd.R_far (p := ⟨gb228, 3, none⟩) (Kd.R_far (p := ⟨gb228, 2, none⟩) (Kd.R_far (p := ⟨gb228, 1, none⟩) (Kd.R_far (p := ⟨gb228, 0, none⟩) (Kd.R_types HO225.out BK228.out (by decide)) (fun _ hk => hk.2) (.int .i64 t218)) (fun _ hk => hk.2) (.int .i64 t219)) (fun _ hk => hk.2) (.slice Ao89 t220.length co89)) (fun _ hk => hk.2) (.slice Ao90 t223.length co90)) (fun _ h_ => h_.1)))); (case side4 => exact (Kd.R_reads' HO225.out).2.1); (case side5 => refine (Kd.Q_reads' (e := 5) (base := w.heap.size) (ok := fun k_ => ((some k_ ≠ (.slice Ao22 t194.length co22 : Value).ownBlock ∧ some k_ ≠ (.slice Ao83 t215.length co83 : Value).ownBlock) ∧ some k_ ≠ (.slice Ao89 t220.length co89 : Value).ownBlock)) (n := t180.length) (c := co14) ?_).2.2; exact (by (with_reducible repeat (first | apply Kd.Q_alloc | apply Kd.Q_drewN | apply Kd.Q_drew)); exact (Kd.Q_mono (Kd.Q_far (p := ⟨gb228, 3, none⟩) (Kd.Q_far (p := ⟨gb228, 2, none⟩) (Kd.Q_far (p := ⟨gb228, 1, none⟩) (Kd.Q_far (p := ⟨gb228, 0, none⟩) (Kd.Q_types HO_189002.out BK228.out (by decide)) (fun _ hk => hk.2) (.int .i64 t218)) (fun _ hk => hk.2) (.int .i64 t219)) (fun _ hk => hk.2) (.slice Ao89 t220.length co89)) (fun _ hk => hk.2) (.slice Ao90 t223.length co90)) (fun _ h_ => h_.1)))); (case side6 => exact (Kd.Q_reads' HO_189002.out).2.1); (case side7 => refine (Kd.R_reads' (e := 122) (base := w.heap.size) (ok := fun k_ => (some k_ ≠ (.slice Ao23 t197.length co23 : Value).ownBlock ∧ some k_ ≠ (.slice Ao90 t223.length co90 : Value).ownBlock)) (n := t183.length) (c := co15) ?_).2.2; exact (by (with_reducible repeat (first | apply Kd.R_alloc | apply Kd.R_drewN | apply Kd.R_drew)); exact (Kd.R_mono (Kd.R_far (p := ⟨gb228, 3, none⟩) (Kd.R_far (p := ⟨gb228, 2, none⟩) (Kd.R_far (p := ⟨gb228, 1, none⟩) (Kd.R_far (p := ⟨gb228, 0, none⟩) (Kd.R_types HO_189003.out BK228.out (by decide)) (fun _ hk => hk.2) (.int .i64 t218)) (fun _ hk => hk.2) (.int .i64 t219)) (fun _ hk => hk.2) (.slice Ao89 t220.length co89)) (fun _ hk => hk.2) (.slice Ao90 t223.length co90)) (fun _ h_ => h_.1)))); (case side8 => exact (Kd.R_reads' HO_189003.out).2.1); rintro e w99 ⟨rfl, hb⟩; refine ⟨_, rfl, ?_⟩; have n0_ := Aside0.mk (Kd.Q_below (by (with_reducible repeat (first | apply Kd.Q_alloc | apply Kd.Q_drewN | apply Kd.Q_drew)); exact (Kd.Q_mono (Kd.Q_far (p := ⟨gb228, 3, none⟩) (Kd.Q_far (p := ⟨gb228, 2, none⟩) (Kd.Q_far (p := ⟨gb228, 1, none⟩) (Kd.Q_far (p := ⟨gb228, 0, none⟩) (Kd.Q_types HO_189002.out BK228.out (by decide)) (fun _ hk => hk.2) (.int .i64 t218)) (fun _ hk => hk.2) (.int .i64 t219)) (fun _ hk => hk.2) (.slice Ao89 t220.length co89)) (fun _ hk => hk.2) (.slice Ao90 t223.length co90)) (fun _ h_ => h_.1))) hb); have n1_ := Aside0.mk (Kd.R_below (by (with_reducible repeat (first | apply Kd.R_alloc | apply Kd.R_drewN | apply Kd.R_drew)); exact (Kd.R_mono (Kd.R_far (p := ⟨gb228, 3, none⟩) (Kd.R_far (p := ⟨gb228, 2, none⟩) (Kd.R_far (p := ⟨gb228, 1, none⟩) (Kd.R_far (p := ⟨gb228, 0, none⟩) (Kd.R_types HO_189003.out BK228.out (by decide)) (fun _ hk => hk.2) (.int .i64 t218)) (fun _ hk => hk.2) (.int .i64 t219)) (fun _ hk => hk.2) (.slice Ao89 t220.length co89)) (fun _ hk => hk.2) (.slice Ao90 t223.length co90)) (fun _ h_ => h_.1))) hb); have n2_ := Aside0.mk (Kd.Q_below (by (with_reducible repeat (first | apply Kd.Q_alloc | apply Kd.Q_drewN | apply Kd.Q_drew)); exact (Kd.Q_mono (Kd.Q_far (p := ⟨gb228, 3, none⟩) (Kd.Q_far (p := ⟨gb228, 2, none⟩) (Kd.Q_far (p := ⟨gb228, 1, none⟩) (Kd.Q_far (p := ⟨gb228, 0, none⟩) (Kd.Q_types HO_203002.out BK228.out (by decide)) (fun _ hk => hk.2) (.int .i64 t218)) (fun _ hk => hk.2) (.int .i64 t219)) (fun _ hk => hk.2) (.slice Ao89 t220.length co89)) (fun _ hk => hk.2) (.slice Ao90 t223.length co90)) (fun _ h_ => h_.1))) hb); have n3_ := Aside0.mk (Kd.R_below (by (with_reducible repeat (first | apply Kd.R_alloc | apply Kd.R_drewN | apply Kd.R_drew)); exact (Kd.R_mono (Kd.R_far (p := ⟨gb228, 3, none⟩) (Kd.R_far (p := ⟨gb228, 2, none⟩) (Kd.R_far (p := ⟨gb228, 1, none⟩) (Kd.R_far (p := ⟨gb228, 0, none⟩) (Kd.R_types HO_203003.out BK228.out (by decide)) (fun _ hk => hk.2) (.int .i64 t218)) (fun _ hk => hk.2) (.int .i64 t219)) (fun _ hk => hk.2) (.slice Ao89 t220.length co89)) (fun _ hk => hk.2) (.slice Ao90 t223.length co90)) (fun _ h_ => h_.1))) hb); have n4_ := Aside0.mk (Kd.R_below (by (with_reducible repeat (first | apply Kd.R_alloc | apply Kd.R_drewN | apply Kd.R_drew)); exact (Kd.R_mono (Kd.R_far (p := ⟨gb228, 3, none⟩) (Kd.R_far (p := ⟨gb228, 2, none⟩) (Kd.R_far (p := ⟨gb228, 1, none⟩) (Kd.R_far (p := ⟨gb228, 0, none⟩) (Kd.R_types HO217.out BK228.out (by decide)) (fun _ hk => hk.2) (.int .i64 t218)) (fun _ hk => hk.2) (.int .i64 t219)) (fun _ hk => hk.2) (.slice Ao89 t220.length co89)) (fun _ hk => hk.2) (.slice Ao90 t223.length co90)) (fun _ h_ => h_.1))) hb); have n5_ := Aside0.mk (Kd.Q_below (by (with_reducible repeat (first | apply Kd.Q_alloc | apply Kd.Q_drewN | apply Kd.Q_drew)); exact (Kd.Q_mono (Kd.Q_far (p := ⟨gb228, 3, none⟩) (Kd.Q_far (p := ⟨gb228, 2, none⟩) (Kd.Q_far (p := ⟨gb228, 1, none⟩) (Kd.Q_far (p := ⟨gb228, 0, none⟩) (Kd.Q_types HO222.out BK228.out (by decide)) (fun _ hk => hk.2) (.int .i64 t218)) (fun _ hk => hk.2) (.int .i64 t219)) (fun _ hk => hk.2) (.slice Ao89 t220.length co89)) (fun _ hk => hk.2) (.slice Ao90 t223.length co90)) (fun _ h_ => h_.1))) hb); have n6_ := Aside0.mk (Kd.R_below (by (with_reducible repeat (first | apply Kd.R_alloc | apply Kd.R_drewN | apply Kd.R_drew)); exact (Kd.R_mono (Kd.R_far (p := ⟨gb228, 3, none⟩) (Kd.R_far (p := ⟨gb228, 2, none⟩) (Kd.R_far (p := ⟨gb228, 1, none⟩) (Kd.R_far (p := ⟨gb228, 0, none⟩) (Kd.R_types HO225.out BK228.out (by decide)) (fun _ hk => hk.2) (.int .i64 t218)) (fun _ hk => hk.2) (.int .i64 t219)) (fun _ hk => hk.2) (.slice Ao89 t220.length co89)) (fun _ hk => hk.2) (.slice Ao90 t223.length co90)) (fun _ h_ => h_.1))) hb); have n7_ := Aside0.mk (blk_below (g := gb188) (o := .cells #[.int .i64 t178, .int .i64 t179, .slice Ao14 t180.length co14, .slice Ao15 t183.length co15] 25 (0, 0)) (by (with_reducible repeat (first | refine blk_drewN ?_ _ | refine blk_drew ?_ | refine blk_alloc ?_ _)); refine blk_far ?_ NB188_228.out _; (with_reducible repeat (first | refine blk_drewN ?_ _ | refine blk_drew ?_ | refine blk_alloc ?_ _)); refine blk_far ?_ NB188_228.out _; (with_reducible repeat (first | refine blk_drewN ?_ _ | refine blk_drew ?_ | refine blk_alloc ?_ _)); refine blk_far ?_ NB188_228.out _; (with_reducible repeat (first | refine blk_drewN ?_ _ | refine blk_drew ?_ | refine blk_alloc ?_ _)); refine blk_far ?_ NB188_228.out _; (with_reducible repeat (first | refine blk_drewN ?_ _ | refine blk_drew ?_ | refine blk_alloc ?_ _)); exact BK188.out) hb); have n8_ := Aside0.mk (blk_below (g := gb202) (o := .cells #[.int .i64 t192, .int .i64 t193, .slice Ao22 t194.length co22, .slice Ao23 t197.length co23] 25 (0, 0)) (by (with_reducible repeat (first | refine blk_drewN ?_ _ | refine blk_drew ?_ | refine blk_alloc ?_ _)); refine blk_far ?_ NB202_228.out _; (with_reducible repeat (first | refine blk_drewN ?_ _ | refine blk_drew ?_ | refine blk_alloc ?_ _)); refine blk_far ?_ NB202_228.out _; (with_reducible repeat (first | refine blk_drewN ?_ _ | refine blk_drew ?_ | refine blk_alloc ?_ _)); refine blk_far ?_ NB202_228.out _; (with_reducible repeat (first | refine blk_drewN ?_ _ | refine blk_drew ?_ | refine blk_alloc ?_ _)); refine blk_far ?_ NB202_228.out _; (with_reducible repeat (first | refine blk_drewN ?_ _ | refine blk_drew ?_ | refine blk_alloc ?_ _)); exact BK202.out) hb); have n9_ := Aside0.mk (blk_below (g := gb228) (o := .cells #[.int .i64 t218, .int .i64 t219, .slice Ao89 t220.length co89, .slice Ao90 t223.length co90] 25 (0, 0)) (by (with_reducible repeat (first | refine blk_drewN ?_ _ | refine blk_drew ?_ | refine blk_alloc ?_ _)); refine blk_put (cs := #[.int .i64 t218, .int .i64 t219, .slice Ao89 t220.length co89, .slice none 0 0]) ?_ 3 _ rfl; (with_reducible repeat (first | refine blk_drewN ?_ _ | refine blk_drew ?_ | refine blk_alloc ?_ _)); refine blk_put (cs := #[.int .i64 t218, .int .i64 t219, .slice none 0 0, .slice none 0 0]) ?_ 2 _ rfl; (with_reducible repeat (first | refine blk_drewN ?_ _ | refine blk_drew ?_ | refine blk_alloc ?_ _)); refine blk_put (cs := #[.int .i64 t218, .int .i64 0, .slice none 0 0, .slice none 0 0]) ?_ 1 _ rfl; (with_reducible repeat (first | refine blk_drewN ?_ _ | refine blk_drew ?_ | refine blk_alloc ?_ _)); refine blk_put (cs := #[.int .i64 0, .int .i64 0, .slice none 0 0, .slice none 0 0]) ?_ 0 _ rfl; (with_reducible repeat (first | refine blk_drewN ?_ _ | refine blk_drew ?_ | refine blk_alloc ?_ _)); exact BK228.out) hb); have n10_ := Aside0.mk (below_step (by repeat (first | (with_reducible first | exact HB.out | apply below_alloc | apply pw_below_drewN | apply below_drew1 | refine below_set ?_ GE188.out | refine below_set ?_ GE202.out | refine below_set ?_ GE228.out) | exact HB.out)) hb); clear HO_189002; clear HO_189003; clear HO_203002; clear HO_203003; clear HO217; clear HO222; clear HO225; clear BK188; clear BK202; clear BK228; clear HB; have HO_189002 := n0_; have HO_189003 := n1_; have HO_203002 := n2_; have HO_203003 := n3_; have HO217 := n4_; have HO222 := n5_; have HO225 := n6_; have BK188 := n7_; have BK202 := n8_; have BK228 := n9_; have HB := n10_; clear n0_ n1_ n2_ n3_ n4_ n5_ n6_ n7_ n8_ n9_ n10_; (try clear hb); (try clear hb2); (try clear hk); (try clear hi)))
                            go_meet
                            case rel => exact ⟨_, ((t227 != t187)), (by first | rfl | (simp; done) | (simp [*]; done)), H', ⟨by have := HJ7.out; have := HJ43.out; first | omega | exact Nat.le_refl _⟩, ⟨by (with_reducible repeat (first | apply Kd.Q_alloc | apply Kd.Q_drewN | apply Kd.Q_drew)); exact Kd.Q_mono HO_189002.out (fun _ hk => ⟨hk.1.1, hk.2⟩)⟩, ⟨by (with_reducible repeat (first | apply Kd.R_alloc | apply Kd.R_drewN | apply Kd.R_drew)); exact HO_189003.out⟩, ⟨by (with_reducible repeat (first | apply Kd.Q_alloc | apply Kd.Q_drewN | apply Kd.Q_drew)); exact Kd.Q_mono HO_203002.out (fun _ hk => ⟨hk.1.1, hk.2⟩)⟩, ⟨by (with_reducible repeat (first | apply Kd.R_alloc | apply Kd.R_drewN | apply Kd.R_drew)); exact HO_203003.out⟩, ⟨by (with_reducible repeat (first | apply Kd.Q_alloc | apply Kd.Q_drewN | apply Kd.Q_drew)); exact Kd.Q_mono HO222.out (fun _ hk => ⟨hk.1.1.2, hk.1.2⟩)⟩, ⟨by (with_reducible repeat (first | apply Kd.R_alloc | apply Kd.R_drewN | apply Kd.R_drew)); exact Kd.R_mono HO225.out (fun _ hk => ⟨hk.1.2, hk.2⟩)⟩, ⟨by (with_reducible repeat (first | refine blk_drewN ?_ _ | refine blk_drew ?_ | refine blk_alloc ?_ _)); exact BK188.out⟩, ⟨by (with_reducible repeat (first | refine blk_drewN ?_ _ | refine blk_drew ?_ | refine blk_alloc ?_ _)); exact BK202.out⟩, ⟨by (with_reducible repeat (first | refine blk_drewN ?_ _ | refine blk_drew ?_ | refine blk_alloc ?_ _)); exact BK228.out⟩, ⟨by repeat (first | (with_reducible first | exact HB.out | apply below_alloc | apply pw_below_drewN | apply below_drew1 | refine below_set ?_ GE188.out | refine below_set ?_ GE202.out | refine below_set ?_ GE228.out) | exact HB.out)⟩⟩
                          · rw [if_neg c93] at H
                            have c93b0 : (t226 == t186) = false := beq_eq_false_iff_ne.mpr c93
                            have c93b1 : (t226 != t186) = true := bne_iff_ne.mpr c93
                            (first | rw [c93b0] | (simp only [i64_w, i32_w]; rw [c93b0]) | skip)
                            have H' := Aside0.mk H
                            clear H
                            have hnb100 := NB228_188.out
                            have hnc100 := NB188_228.out
                            have hnb101 := NB228_202.out
                            have hnc101 := NB202_228.out
                            have hcz102_0 : w85.cell? ⟨gb228, 0, none⟩ = some (.int .i64 0) := (blk_cell BK228.out 0).trans rfl
                            have hcz102_1 : w85.cell? ⟨gb228, 1, none⟩ = some (.int .i64 0) := (blk_cell BK228.out 1).trans rfl
                            have hcz102_2 : w85.cell? ⟨gb228, 2, none⟩ = some (.slice none 0 0) := (blk_cell BK228.out 2).trans rfl
                            have hcz102_3 : w85.cell? ⟨gb228, 3, none⟩ = some (.slice none 0 0) := (blk_cell BK228.out 3).trans rfl
                            have hfz102_0 := blk_frozen BK228.out 0
                            have hfz102_1 := blk_frozen BK228.out 1
                            have hfz102_2 := blk_frozen BK228.out 2
                            have hfz102_3 := blk_frozen BK228.out 3
                            have hnb103 := NB188_202.out
                            have hnc103 := NB202_188.out
                            have hcz104_0 : w85.cell? ⟨gb188, 0, none⟩ = some (.int .i64 t178) := (blk_cell BK188.out 0).trans rfl
                            have hcz104_1 : w85.cell? ⟨gb188, 1, none⟩ = some (.int .i64 t179) := (blk_cell BK188.out 1).trans rfl
                            have hcz104_2 : w85.cell? ⟨gb188, 2, none⟩ = some (.slice Ao14 t180.length co14) := (blk_cell BK188.out 2).trans rfl
                            have hcz104_3 : w85.cell? ⟨gb188, 3, none⟩ = some (.slice Ao15 t183.length co15) := (blk_cell BK188.out 3).trans rfl
                            have hfz104_0 := blk_frozen BK188.out 0
                            have hfz104_1 := blk_frozen BK188.out 1
                            have hfz104_2 := blk_frozen BK188.out 2
                            have hfz104_3 := blk_frozen BK188.out 3
                            go_wp2_with (first | ((with_reducible refine gate_callee (f := 16) rfl ?_); refine goesL_ (some 99) rfl rfl Try.func16 (by kernel_rfl) rfl #[.agg #[.int .i64 t218, .int .i64 t219, .slice Ao89 t220.length co89, .slice Ao90 t223.length co90], .agg #[.int .i64 t178, .int .i64 t179, .slice Ao14 t180.length co14, .slice Ao15 t183.length co15]] rfl (by (try simp only [List.map_toArray, List.map_cons, List.map_nil]); first | done | rfl | (simp only [List.length_drop, List.length_take]; rfl)) ?_; (with_reducible refine (laws_eqHFrame.calls kj43 t218 t219 _ _ t220 _ _ t223 t178 t179 _ _ t180 _ _ t183 true _ ?side1 ?side2 ?side3 ?side4 ?side5 ?side6 ?side7 ?side8 A91.out).mono ?_); (case side1 => refine (Kd.Q_reads' (e := 5) (base := w.heap.size) (ok := fun k_ => (((True ∧ some k_ ≠ (.slice Ao14 t180.length co14 : Value).ownBlock) ∧ some k_ ≠ (.slice Ao22 t194.length co22 : Value).ownBlock) ∧ some k_ ≠ (.slice Ao83 t215.length co83 : Value).ownBlock)) (n := t220.length) (c := co89) ?_).2.2; exact (by (with_reducible repeat (first | apply Kd.Q_alloc | apply Kd.Q_drewN | apply Kd.Q_drew)); exact (Kd.Q_mono (Kd.Q_far (p := ⟨gb228, 3, none⟩) (Kd.Q_far (p := ⟨gb228, 2, none⟩) (Kd.Q_far (p := ⟨gb228, 1, none⟩) (Kd.Q_far (p := ⟨gb228, 0, none⟩) (Kd.Q_types HO222.out BK228.out (by decide)) (fun _ hk => hk.2) (.int .i64 t218)) (fun _ hk => hk.2) (.int .i64 t219)) (fun _ hk => hk.2) (.slice Ao89 t220.length co89)) (fun _ hk => hk.2) (.slice Ao90 t223.length co90)) (fun _ h_ => h_.1)))); (case side2 => exact (Kd.Q_reads' HO222.out).2.1); (case side3 => refine (Kd.R_reads' (e := 122) (base := w.heap.size) (ok := fun k_ => ((True ∧ some k_ ≠ (.slice Ao15 t183.length co15 : Value).ownBlock) ∧ some k_ ≠ (.slice Ao23 t197.length co23 : Value).ownBlock)) (n := t223.length) (c := co90) ?_).2.2; exact (by (with_reducible repeat (first | apply Kd.R_alloc | apply Kd.R_drewN | apply Kd.R_drew)); exact (Kd.R_mono (Kd.R_far (p := ⟨gb228, 3, none⟩) (Kd.R_far (p := ⟨gb228, 2, none⟩) (Kd.R_far (p := ⟨gb228, 1, none⟩) (Kd.R_far (p := ⟨gb228, 0, none⟩) (Kd.R_types HO225.out BK228.out (by decide)) (fun _ hk => hk.2) (.int .i64 t218)) (fun _ hk => hk.2) (.int .i64 t219)) (fun _ hk => hk.2) (.slice Ao89 t220.length co89)) (fun _ hk => hk.2) (.slice Ao90 t223.length co90)) (fun _ h_ => h_.1)))); (case side4 => exact (Kd.R_reads' HO225.out).2.1); (case side5 => refine (Kd.Q_reads' (e := 5) (base := w.heap.size) (ok := fun k_ => ((some k_ ≠ (.slice Ao22 t194.length co22 : Value).ownBlock ∧ some k_ ≠ (.slice Ao83 t215.length co83 : Value).ownBlock) ∧ some k_ ≠ (.slice Ao89 t220.length co89 : Value).ownBlock)) (n := t180.length) (c := co14) ?_).2.2; exact (by (with_reducible repeat (first | apply Kd.Q_alloc | apply Kd.Q_drewN | apply Kd.Q_drew)); exact (Kd.Q_mono (Kd.Q_far (p := ⟨gb228, 3, none⟩) (Kd.Q_far (p := ⟨gb228, 2, none⟩) (Kd.Q_far (p := ⟨gb228, 1, none⟩) (Kd.Q_far (p := ⟨gb228, 0, none⟩) (Kd.Q_types HO_189002.out BK228.out (by decide)) (fun _ hk => hk.2) (.int .i64 t218)) (fun _ hk => hk.2) (.int .i64 t219)) (fun _ hk => hk.2) (.slice Ao89 t220.length co89)) (fun _ hk => hk.2) (.slice Ao90 t223.length co90)) (fun _ h_ => h_.1)))); (case side6 => exact (Kd.Q_reads' HO_189002.out).2.1); (case side7 => refine (Kd.R_reads' (e := 122) (base := w.heap.size) (ok := fun k_ => (some k_ ≠ (.slice Ao23 t197.length co23 : Value).ownBlock ∧ some k_ ≠ (.slice Ao90 t223.length co90 : Value).ownBlock)) (n := t183.length) (c := co15) ?_).2.2; exact (by (with_reducible repeat (first | apply Kd.R_alloc | apply Kd.R_drewN | apply Kd.R_drew)); exact (Kd.R_mono (Kd.R_far (p := ⟨gb228, 3, none⟩) (Kd.R_far (p := ⟨gb228, 2, none⟩) (Kd.R_far (p := ⟨gb228, 1, none⟩) (Kd.R_far (p := ⟨gb228, 0, none⟩) (Kd.R_types HO_189003.out BK228.out (by decide)) (fun _ hk => hk.2) (.int .i64 t218)) (fun _ hk => hk.2) (.int .i64 t219)) (fun _ hk => hk.2) (.slice Ao89 t220.length co89)) (fun _ hk => hk.2) (.slice Ao90 t223.length co90)) (fun _ h_ => h_.1)))); (case side8 => exact (Kd.R_reads' HO_189003.out).2.1); rintro e w105 ⟨rfl, hb⟩; refine ⟨_, rfl, ?_⟩; have n0_ := Aside0.mk (Kd.Q_below (by (with_reducible repeat (first | apply Kd.Q_alloc | apply Kd.Q_drewN | apply Kd.Q_drew)); exact (Kd.Q_mono (Kd.Q_far (p := ⟨gb228, 3, none⟩) (Kd.Q_far (p := ⟨gb228, 2, none⟩) (Kd.Q_far (p := ⟨gb228, 1, none⟩) (Kd.Q_far (p := ⟨gb228, 0, none⟩) (Kd.Q_types HO_189002.out BK228.out (by decide)) (fun _ hk => hk.2) (.int .i64 t218)) (fun _ hk => hk.2) (.int .i64 t219)) (fun _ hk => hk.2) (.slice Ao89 t220.length co89)) (fun _ hk => hk.2) (.slice Ao90 t223.length co90)) (fun _ h_ => h_.1))) hb); have n1_ := Aside0.mk (Kd.R_below (by (with_reducible repeat (first | apply Kd.R_alloc | apply Kd.R_drewN | apply Kd.R_drew)); exact (Kd.R_mono (Kd.R_far (p := ⟨gb228, 3, none⟩) (Kd.R_far (p := ⟨gb228, 2, none⟩) (Kd.R_far (p := ⟨gb228, 1, none⟩) (Kd.R_far (p := ⟨gb228, 0, none⟩) (Kd.R_types HO_189003.out BK228.out (by decide)) (fun _ hk => hk.2) (.int .i64 t218)) (fun _ hk => hk.2) (.int .i64 t219)) (fun _ hk => hk.2) (.slice Ao89 t220.length co89)) (fun _ hk => hk.2) (.slice Ao90 t223.length co90)) (fun _ h_ => h_.1))) hb); have n2_ := Aside0.mk (Kd.Q_below (by (with_reducible repeat (first | apply Kd.Q_alloc | apply Kd.Q_drewN | apply Kd.Q_drew)); exact (Kd.Q_mono (Kd.Q_far (p := ⟨gb228, 3, none⟩) (Kd.Q_far (p := ⟨gb228, 2, none⟩) (Kd.Q_far (p := ⟨gb228, 1, none⟩) (Kd.Q_far (p := ⟨gb228, 0, none⟩) (Kd.Q_types HO_203002.out BK228.out (by decide)) (fun _ hk => hk.2) (.int .i64 t218)) (fun _ hk => hk.2) (.int .i64 t219)) (fun _ hk => hk.2) (.slice Ao89 t220.length co89)) (fun _ hk => hk.2) (.slice Ao90 t223.length co90)) (fun _ h_ => h_.1))) hb); have n3_ := Aside0.mk (Kd.R_below (by (with_reducible repeat (first | apply Kd.R_alloc | apply Kd.R_drewN | apply Kd.R_drew)); exact (Kd.R_mono (Kd.R_far (p := ⟨gb228, 3, none⟩) (Kd.R_far (p := ⟨gb228, 2, none⟩) (Kd.R_far (p := ⟨gb228, 1, none⟩) (Kd.R_far (p := ⟨gb228, 0, none⟩) (Kd.R_types HO_203003.out BK228.out (by decide)) (fun _ hk => hk.2) (.int .i64 t218)) (fun _ hk => hk.2) (.int .i64 t219)) (fun _ hk => hk.2) (.slice Ao89 t220.length co89)) (fun _ hk => hk.2) (.slice Ao90 t223.length co90)) (fun _ h_ => h_.1))) hb); have n4_ := Aside0.mk (Kd.R_below (by (with_reducible repeat (first | apply Kd.R_alloc | apply Kd.R_drewN | apply Kd.R_drew)); exact (Kd.R_mono (Kd.R_far (p := ⟨gb228, 3, none⟩) (Kd.R_far (p := ⟨gb228, 2, none⟩) (Kd.R_far (p := ⟨gb228, 1, none⟩) (Kd.R_far (p := ⟨gb228, 0, none⟩) (Kd.R_types HO217.out BK228.out (by decide)) (fun _ hk => hk.2) (.int .i64 t218)) (fun _ hk => hk.2) (.int .i64 t219)) (fun _ hk => hk.2) (.slice Ao89 t220.length co89)) (fun _ hk => hk.2) (.slice Ao90 t223.length co90)) (fun _ h_ => h_.1))) hb); have n5_ := Aside0.mk (Kd.Q_below (by (with_reducible repeat (first | apply Kd.Q_alloc | apply Kd.Q_drewN | apply Kd.Q_drew)); exact (Kd.Q_mono (Kd.Q_far (p := ⟨gb228, 3, none⟩) (Kd.Q_far (p := ⟨gb228, 2, none⟩) (Kd.Q_far (p := ⟨gb228, 1, none⟩) (Kd.Q_far (p := ⟨gb228, 0, none⟩) (Kd.Q_types HO222.out BK228.out (by decide)) (fun _ hk => hk.2) (.int .i64 t218)) (fun _ hk => hk.2) (.int .i64 t219)) (fun _ hk => hk.2) (.slice Ao89 t220.length co89)) (fun _ hk => hk.2) (.slice Ao90 t223.length co90)) (fun _ h_ => h_.1))) hb); have n6_ := Aside0.mk (Kd.R_below (by (with_reducible repeat (first | apply Kd.R_alloc | apply Kd.R_drewN | apply Kd.R_drew)); exact (Kd.R_mono (Kd.R_far (p := ⟨gb228, 3, none⟩) (Kd.R_far (p := ⟨gb228, 2, none⟩) (Kd.R_far (p := ⟨gb228, 1, none⟩) (Kd.R_far (p := ⟨gb228, 0, none⟩) (Kd.R_types HO225.out BK228.out (by decide)) (fun _ hk => hk.2) (.int .i64 t218)) (fun _ hk => hk.2) (.int .i64 t219)) (fun _ hk => hk.2) (.slice Ao89 t220.length co89)) (fun _ hk => hk.2) (.slice Ao90 t223.length co90)) (fun _ h_ => h_.1))) hb); have n7_ := Aside0.mk (blk_below (g := gb188) (o := .cells #[.int .i64 t178, .int .i64 t179, .slice Ao14 t180.length co14, .slice Ao15 t183.length co15] 25 (0, 0)) (by (with_reducible repeat (first | refine blk_drewN ?_ _ | refine blk_drew ?_ | refine blk_alloc ?_ _)); refine blk_far ?_ NB188_228.out _; (with_reducible repeat (first | refine blk_drewN ?_ _ | refine blk_drew ?_ | refine blk_alloc ?_ _)); refine blk_far ?_ NB188_228.out _; (with_reducible repeat (first | refine blk_drewN ?_ _ | refine blk_drew ?_ | refine blk_alloc ?_ _)); refine blk_far ?_ NB188_228.out _; (with_reducible repeat (first | refine blk_drewN ?_ _ | refine blk_drew ?_ | refine blk_alloc ?_ _)); refine blk_far ?_ NB188_228.out _; (with_reducible repeat (first | refine blk_drewN ?_ _ | refine blk_drew ?_ | refine blk_alloc ?_ _)); exact BK188.out) hb); have n8_ := Aside0.mk (blk_below (g := gb202) (o := .cells #[.int .i64 t192, .int .i64 t193, .slice Ao22 t194.length co22, .slice Ao23 t197.length co23] 25 (0, 0)) (by (with_reducible repeat (first | refine blk_drewN ?_ _ | refine blk_drew ?_ | refine blk_alloc ?_ _)); refine blk_far ?_ NB202_228.out _; (with_reducible repeat (first | refine blk_drewN ?_ _ | refine blk_drew ?_ | refine blk_alloc ?_ _)); refine blk_far ?_ NB202_228.out _; (with_reducible repeat (first | refine blk_drewN ?_ _ | refine blk_drew ?_ | refine blk_alloc ?_ _)); refine blk_far ?_ NB202_228.out _; (with_reducible repeat (first | refine blk_drewN ?_ _ | refine blk_drew ?_ | refine blk_alloc ?_ _)); refine blk_far ?_ NB202_228.out _; (with_reducible repeat (first | refine blk_drewN ?_ _ | refine blk_drew ?_ | refine blk_alloc ?_ _)); exact BK202.out) hb); have n9_ := Aside0.mk (blk_below (g := gb228) (o := .cells #[.int .i64 t218, .int .i64 t219, .slice Ao89 t220.length co89, .slice Ao90 t223.length co90] 25 (0, 0)) (by (with_reducible repeat (first | refine blk_drewN ?_ _ | refine blk_drew ?_ | refine blk_alloc ?_ _)); refine blk_put (cs := #[.int .i64 t218, .int .i64 t219, .slice Ao89 t220.length co89, .slice none 0 0]) ?_ 3 _ rfl; (with_reducible repeat (first | refine blk_drewN ?_ _ | refine blk_drew ?_ | refine blk_alloc ?_ _)); refine blk_put (cs := #[.int .i64 t218, .int .i64 t219, .slice none 0 0, .slice none 0 0]) ?_ 2 _ rfl; (with_reducible repeat (first | refine blk_drewN ?_ _ | refine blk_drew ?_ | refine blk_alloc ?_ _)); refine blk_put (cs := #[.int .i64 t218, .int .i64 0, .slice none 0 0, .slice none 0 0]) ?_ 1 _ rfl; (with_reducible repeat (first | refine blk_drewN ?_ _ | refine blk_drew ?_ | refine blk_alloc ?_ _)); refine blk_put (cs := #[.int .i64 0, .int .i64 0, .slice none 0 0, .slice none 0 0]) ?_ 0 _ rfl; (with_reducible repeat (first | refine blk_drewN ?_ _ | refine blk_drew ?_ | refine blk_alloc ?_ _)); exact BK228.out) hb); have n10_ := Aside0.mk (below_step (by repeat (first | (with_reducible first | exact HB.out | apply below_alloc | apply pw_below_drewN | apply below_drew1 | refine below_set ?_ GE188.out | refine below_set ?_ GE202.out | refine below_set ?_ GE228.out) | exact HB.out)) hb); clear HO_189002; clear HO_189003; clear HO_203002; clear HO_203003; clear HO217; clear HO222; clear HO225; clear BK188; clear BK202; clear BK228; clear HB; have HO_189002 := n0_; have HO_189003 := n1_; have HO_203002 := n2_; have HO_203003 := n3_; have HO217 := n4_; have HO222 := n5_; have HO225 := n6_; have BK188 := n7_; have BK202 := n8_; have BK228 := n9_; have HB := n10_; clear n0_ n1_ n2_ n3_ n4_ n5_ n6_ n7_ n8_ n9_ n10_; (try clear hb); (try clear hb2); (try clear hk); (try clear hi)))
                            go_meet
                            case rel => exact ⟨_, (true), (by first | rfl | (simp; done) | (simp [*]; done)), H', ⟨by have := HJ7.out; have := HJ43.out; first | omega | exact Nat.le_refl _⟩, ⟨by (with_reducible repeat (first | apply Kd.Q_alloc | apply Kd.Q_drewN | apply Kd.Q_drew)); exact Kd.Q_mono HO_189002.out (fun _ hk => ⟨hk.1.1, hk.2⟩)⟩, ⟨by (with_reducible repeat (first | apply Kd.R_alloc | apply Kd.R_drewN | apply Kd.R_drew)); exact HO_189003.out⟩, ⟨by (with_reducible repeat (first | apply Kd.Q_alloc | apply Kd.Q_drewN | apply Kd.Q_drew)); exact Kd.Q_mono HO_203002.out (fun _ hk => ⟨hk.1.1, hk.2⟩)⟩, ⟨by (with_reducible repeat (first | apply Kd.R_alloc | apply Kd.R_drewN | apply Kd.R_drew)); exact HO_203003.out⟩, ⟨by (with_reducible repeat (first | apply Kd.Q_alloc | apply Kd.Q_drewN | apply Kd.Q_drew)); exact Kd.Q_mono HO222.out (fun _ hk => ⟨hk.1.1.2, hk.1.2⟩)⟩, ⟨by (with_reducible repeat (first | apply Kd.R_alloc | apply Kd.R_drewN | apply Kd.R_drew)); exact Kd.R_mono HO225.out (fun _ hk => ⟨hk.1.2, hk.2⟩)⟩, ⟨by (with_reducible repeat (first | refine blk_drewN ?_ _ | refine blk_drew ?_ | refine blk_alloc ?_ _)); exact BK188.out⟩, ⟨by (with_reducible repeat (first | refine blk_drewN ?_ _ | refine blk_drew ?_ | refine blk_alloc ?_ _)); exact BK202.out⟩, ⟨by (with_reducible repeat (first | refine blk_drewN ?_ _ | refine blk_drew ?_ | refine blk_alloc ?_ _)); exact BK228.out⟩, ⟨by repeat (first | (with_reducible first | exact HB.out | apply below_alloc | apply pw_below_drewN | apply below_drew1 | refine below_set ?_ GE188.out | refine below_set ?_ GE202.out | refine below_set ?_ GE228.out) | exact HB.out)⟩⟩
                        · replace c92 := Bool.eq_false_iff.mpr c92
                          subst c92
                          have H1 : (laws_FnExactReadHyper.j2 kj43 t211 true t192 t193 t212 t213) = some r := by rw [if_neg (show ¬ (false = true) by decide)] at H; exact H
                          clear H
                          have H := H1
                          clear H1
                          have H' := Aside0.mk H
                          clear H
                          have hnb106 := NB228_188.out
                          have hnc106 := NB188_228.out
                          have hnb107 := NB228_202.out
                          have hnc107 := NB202_228.out
                          have hcz108_0 : w85.cell? ⟨gb228, 0, none⟩ = some (.int .i64 0) := (blk_cell BK228.out 0).trans rfl
                          have hcz108_1 : w85.cell? ⟨gb228, 1, none⟩ = some (.int .i64 0) := (blk_cell BK228.out 1).trans rfl
                          have hcz108_2 : w85.cell? ⟨gb228, 2, none⟩ = some (.slice none 0 0) := (blk_cell BK228.out 2).trans rfl
                          have hcz108_3 : w85.cell? ⟨gb228, 3, none⟩ = some (.slice none 0 0) := (blk_cell BK228.out 3).trans rfl
                          have hfz108_0 := blk_frozen BK228.out 0
                          have hfz108_1 := blk_frozen BK228.out 1
                          have hfz108_2 := blk_frozen BK228.out 2
                          have hfz108_3 := blk_frozen BK228.out 3
                          have hnb109 := NB188_202.out
                          have hnc109 := NB202_188.out
                          have hcz110_0 : w85.cell? ⟨gb188, 0, none⟩ = some (.int .i64 t178) := (blk_cell BK188.out 0).trans rfl
                          have hcz110_1 : w85.cell? ⟨gb188, 1, none⟩ = some (.int .i64 t179) := (blk_cell BK188.out 1).trans rfl
                          have hcz110_2 : w85.cell? ⟨gb188, 2, none⟩ = some (.slice Ao14 t180.length co14) := (blk_cell BK188.out 2).trans rfl
                          have hcz110_3 : w85.cell? ⟨gb188, 3, none⟩ = some (.slice Ao15 t183.length co15) := (blk_cell BK188.out 3).trans rfl
                          have hfz110_0 := blk_frozen BK188.out 0
                          have hfz110_1 := blk_frozen BK188.out 1
                          have hfz110_2 := blk_frozen BK188.out 2
                          have hfz110_3 := blk_frozen BK188.out 3
                          go_wp2_with (first | ((with_reducible refine gate_callee (f := 16) rfl ?_); refine goesL_ (some 99) rfl rfl Try.func16 (by kernel_rfl) rfl #[.agg #[.int .i64 t218, .int .i64 t219, .slice Ao89 t220.length co89, .slice Ao90 t223.length co90], .agg #[.int .i64 t178, .int .i64 t179, .slice Ao14 t180.length co14, .slice Ao15 t183.length co15]] rfl (by (try simp only [List.map_toArray, List.map_cons, List.map_nil]); first | done | rfl | (simp only [List.length_drop, List.length_take]; rfl)) ?_; (with_reducible refine (laws_eqHFrame.calls kj43 t218 t219 _ _ t220 _ _ t223 t178 t179 _ _ t180 _ _ t183 false _ ?side1 ?side2 ?side3 ?side4 ?side5 ?side6 ?side7 ?side8 A91.out).mono ?_); (case side1 => refine (Kd.Q_reads' (e := 5) (base := w.heap.size) (ok := fun k_ => (((True ∧ some k_ ≠ (.slice Ao14 t180.length co14 : Value).ownBlock) ∧ some k_ ≠ (.slice Ao22 t194.length co22 : Value).ownBlock) ∧ some k_ ≠ (.slice Ao83 t215.length co83 : Value).ownBlock)) (n := t220.length) (c := co89) ?_).2.2; exact (by (with_reducible repeat (first | apply Kd.Q_alloc | apply Kd.Q_drewN | apply Kd.Q_drew)); exact (Kd.Q_mono (Kd.Q_far (p := ⟨gb228, 3, none⟩) (Kd.Q_far (p := ⟨gb228, 2, none⟩) (Kd.Q_far (p := ⟨gb228, 1, none⟩) (Kd.Q_far (p := ⟨gb228, 0, none⟩) (Kd.Q_types HO222.out BK228.out (by decide)) (fun _ hk => hk.2) (.int .i64 t218)) (fun _ hk => hk.2) (.int .i64 t219)) (fun _ hk => hk.2) (.slice Ao89 t220.length co89)) (fun _ hk => hk.2) (.slice Ao90 t223.length co90)) (fun _ h_ => h_.1)))); (case side2 => exact (Kd.Q_reads' HO222.out).2.1); (case side3 => refine (Kd.R_reads' (e := 122) (base := w.heap.size) (ok := fun k_ => ((True ∧ some k_ ≠ (.slice Ao15 t183.length co15 : Value).ownBlock) ∧ some k_ ≠ (.slice Ao23 t197.length co23 : Value).ownBlock)) (n := t223.length) (c := co90) ?_).2.2; exact (by (with_reducible repeat (first | apply Kd.R_alloc | apply Kd.R_drewN | apply Kd.R_drew)); exact (Kd.R_mono (Kd.R_far (p := ⟨gb228, 3, none⟩) (Kd.R_far (p := ⟨gb228, 2, none⟩) (Kd.R_far (p := ⟨gb228, 1, none⟩) (Kd.R_far (p := ⟨gb228, 0, none⟩) (Kd.R_types HO225.out BK228.out (by decide)) (fun _ hk => hk.2) (.int .i64 t218)) (fun _ hk => hk.2) (.int .i64 t219)) (fun _ hk => hk.2) (.slice Ao89 t220.length co89)) (fun _ hk => hk.2) (.slice Ao90 t223.length co90)) (fun _ h_ => h_.1)))); (case side4 => exact (Kd.R_reads' HO225.out).2.1); (case side5 => refine (Kd.Q_reads' (e := 5) (base := w.heap.size) (ok := fun k_ => ((some k_ ≠ (.slice Ao22 t194.length co22 : Value).ownBlock ∧ some k_ ≠ (.slice Ao83 t215.length co83 : Value).ownBlock) ∧ some k_ ≠ (.slice Ao89 t220.length co89 : Value).ownBlock)) (n := t180.length) (c := co14) ?_).2.2; exact (by (with_reducible repeat (first | apply Kd.Q_alloc | apply Kd.Q_drewN | apply Kd.Q_drew)); exact (Kd.Q_mono (Kd.Q_far (p := ⟨gb228, 3, none⟩) (Kd.Q_far (p := ⟨gb228, 2, none⟩) (Kd.Q_far (p := ⟨gb228, 1, none⟩) (Kd.Q_far (p := ⟨gb228, 0, none⟩) (Kd.Q_types HO_189002.out BK228.out (by decide)) (fun _ hk => hk.2) (.int .i64 t218)) (fun _ hk => hk.2) (.int .i64 t219)) (fun _ hk => hk.2) (.slice Ao89 t220.length co89)) (fun _ hk => hk.2) (.slice Ao90 t223.length co90)) (fun _ h_ => h_.1)))); (case side6 => exact (Kd.Q_reads' HO_189002.out).2.1); (case side7 => refine (Kd.R_reads' (e := 122) (base := w.heap.size) (ok := fun k_ => (some k_ ≠ (.slice Ao23 t197.length co23 : Value).ownBlock ∧ some k_ ≠ (.slice Ao90 t223.length co90 : Value).ownBlock)) (n := t183.length) (c := co15) ?_).2.2; exact (by (with_reducible repeat (first | apply Kd.R_alloc | apply Kd.R_drewN | apply Kd.R_drew)); exact (Kd.R_mono (Kd.R_far (p := ⟨gb228, 3, none⟩) (Kd.R_far (p := ⟨gb228, 2, none⟩) (Kd.R_far (p := ⟨gb228, 1, none⟩) (Kd.R_far (p := ⟨gb228, 0, none⟩) (Kd.R_types HO_189003.out BK228.out (by decide)) (fun _ hk => hk.2) (.int .i64 t218)) (fun _ hk => hk.2) (.int .i64 t219)) (fun _ hk => hk.2) (.slice Ao89 t220.length co89)) (fun _ hk => hk.2) (.slice Ao90 t223.length co90)) (fun _ h_ => h_.1)))); (case side8 => exact (Kd.R_reads' HO_189003.out).2.1); rintro e w111 ⟨rfl, hb⟩; refine ⟨_, rfl, ?_⟩; have n0_ := Aside0.mk (Kd.Q_below (by (with_reducible repeat (first | apply Kd.Q_alloc | apply Kd.Q_drewN | apply Kd.Q_drew)); exact (Kd.Q_mono (Kd.Q_far (p := ⟨gb228, 3, none⟩) (Kd.Q_far (p := ⟨gb228, 2, none⟩) (Kd.Q_far (p := ⟨gb228, 1, none⟩) (Kd.Q_far (p := ⟨gb228, 0, none⟩) (Kd.Q_types HO_189002.out BK228.out (by decide)) (fun _ hk => hk.2) (.int .i64 t218)) (fun _ hk => hk.2) (.int .i64 t219)) (fun _ hk => hk.2) (.slice Ao89 t220.length co89)) (fun _ hk => hk.2) (.slice Ao90 t223.length co90)) (fun _ h_ => h_.1))) hb); have n1_ := Aside0.mk (Kd.R_below (by (with_reducible repeat (first | apply Kd.R_alloc | apply Kd.R_drewN | apply Kd.R_drew)); exact (Kd.R_mono (Kd.R_far (p := ⟨gb228, 3, none⟩) (Kd.R_far (p := ⟨gb228, 2, none⟩) (Kd.R_far (p := ⟨gb228, 1, none⟩) (Kd.R_far (p := ⟨gb228, 0, none⟩) (Kd.R_types HO_189003.out BK228.out (by decide)) (fun _ hk => hk.2) (.int .i64 t218)) (fun _ hk => hk.2) (.int .i64 t219)) (fun _ hk => hk.2) (.slice Ao89 t220.length co89)) (fun _ hk => hk.2) (.slice Ao90 t223.length co90)) (fun _ h_ => h_.1))) hb); have n2_ := Aside0.mk (Kd.Q_below (by (with_reducible repeat (first | apply Kd.Q_alloc | apply Kd.Q_drewN | apply Kd.Q_drew)); exact (Kd.Q_mono (Kd.Q_far (p := ⟨gb228, 3, none⟩) (Kd.Q_far (p := ⟨gb228, 2, none⟩) (Kd.Q_far (p := ⟨gb228, 1, none⟩) (Kd.Q_far (p := ⟨gb228, 0, none⟩) (Kd.Q_types HO_203002.out BK228.out (by decide)) (fun _ hk => hk.2) (.int .i64 t218)) (fun _ hk => hk.2) (.int .i64 t219)) (fun _ hk => hk.2) (.slice Ao89 t220.length co89)) (fun _ hk => hk.2) (.slice Ao90 t223.length co90)) (fun _ h_ => h_.1))) hb); have n3_ := Aside0.mk (Kd.R_below (by (with_reducible repeat (first | apply Kd.R_alloc | apply Kd.R_drewN | apply Kd.R_drew)); exact (Kd.R_mono (Kd.R_far (p := ⟨gb228, 3, none⟩) (Kd.R_far (p := ⟨gb228, 2, none⟩) (Kd.R_far (p := ⟨gb228, 1, none⟩) (Kd.R_far (p := ⟨gb228, 0, none⟩) (Kd.R_types HO_203003.out BK228.out (by decide)) (fun _ hk => hk.2) (.int .i64 t218)) (fun _ hk => hk.2) (.int .i64 t219)) (fun _ hk => hk.2) (.slice Ao89 t220.length co89)) (fun _ hk => hk.2) (.slice Ao90 t223.length co90)) (fun _ h_ => h_.1))) hb); have n4_ := Aside0.mk (Kd.R_below (by (with_reducible repeat (first | apply Kd.R_alloc | apply Kd.R_drewN | apply Kd.R_drew)); exact (Kd.R_mono (Kd.R_far (p := ⟨gb228, 3, none⟩) (Kd.R_far (p := ⟨gb228, 2, none⟩) (Kd.R_far (p := ⟨gb228, 1, none⟩) (Kd.R_far (p := ⟨gb228, 0, none⟩) (Kd.R_types HO217.out BK228.out (by decide)) (fun _ hk => hk.2) (.int .i64 t218)) (fun _ hk => hk.2) (.int .i64 t219)) (fun _ hk => hk.2) (.slice Ao89 t220.length co89)) (fun _ hk => hk.2) (.slice Ao90 t223.length co90)) (fun _ h_ => h_.1))) hb); have n5_ := Aside0.mk (Kd.Q_below (by (with_reducible repeat (first | apply Kd.Q_alloc | apply Kd.Q_drewN | apply Kd.Q_drew)); exact (Kd.Q_mono (Kd.Q_far (p := ⟨gb228, 3, none⟩) (Kd.Q_far (p := ⟨gb228, 2, none⟩) (Kd.Q_far (p := ⟨gb228, 1, none⟩) (Kd.Q_far (p := ⟨gb228, 0, none⟩) (Kd.Q_types HO222.out BK228.out (by decide)) (fun _ hk => hk.2) (.int .i64 t218)) (fun _ hk => hk.2) (.int .i64 t219)) (fun _ hk => hk.2) (.slice Ao89 t220.length co89)) (fun _ hk => hk.2) (.slice Ao90 t223.length co90)) (fun _ h_ => h_.1))) hb); have n6_ := Aside0.mk (Kd.R_below (by (with_reducible repeat (first | apply Kd.R_alloc | apply Kd.R_drewN | apply Kd.R_drew)); exact (Kd.R_mono (Kd.R_far (p := ⟨gb228, 3, none⟩) (Kd.R_far (p := ⟨gb228, 2, none⟩) (Kd.R_far (p := ⟨gb228, 1, none⟩) (Kd.R_far (p := ⟨gb228, 0, none⟩) (Kd.R_types HO225.out BK228.out (by decide)) (fun _ hk => hk.2) (.int .i64 t218)) (fun _ hk => hk.2) (.int .i64 t219)) (fun _ hk => hk.2) (.slice Ao89 t220.length co89)) (fun _ hk => hk.2) (.slice Ao90 t223.length co90)) (fun _ h_ => h_.1))) hb); have n7_ := Aside0.mk (blk_below (g := gb188) (o := .cells #[.int .i64 t178, .int .i64 t179, .slice Ao14 t180.length co14, .slice Ao15 t183.length co15] 25 (0, 0)) (by (with_reducible repeat (first | refine blk_drewN ?_ _ | refine blk_drew ?_ | refine blk_alloc ?_ _)); refine blk_far ?_ NB188_228.out _; (with_reducible repeat (first | refine blk_drewN ?_ _ | refine blk_drew ?_ | refine blk_alloc ?_ _)); refine blk_far ?_ NB188_228.out _; (with_reducible repeat (first | refine blk_drewN ?_ _ | refine blk_drew ?_ | refine blk_alloc ?_ _)); refine blk_far ?_ NB188_228.out _; (with_reducible repeat (first | refine blk_drewN ?_ _ | refine blk_drew ?_ | refine blk_alloc ?_ _)); refine blk_far ?_ NB188_228.out _; (with_reducible repeat (first | refine blk_drewN ?_ _ | refine blk_drew ?_ | refine blk_alloc ?_ _)); exact BK188.out) hb); have n8_ := Aside0.mk (blk_below (g := gb202) (o := .cells #[.int .i64 t192, .int .i64 t193, .slice Ao22 t194.length co22, .slice Ao23 t197.length co23] 25 (0, 0)) (by (with_reducible repeat (first | refine blk_drewN ?_ _ | refine blk_drew ?_ | refine blk_alloc ?_ _)); refine blk_far ?_ NB202_228.out _; (with_reducible repeat (first | refine blk_drewN ?_ _ | refine blk_drew ?_ | refine blk_alloc ?_ _)); refine blk_far ?_ NB202_228.out _; (with_reducible repeat (first | refine blk_drewN ?_ _ | refine blk_drew ?_ | refine blk_alloc ?_ _)); refine blk_far ?_ NB202_228.out _; (with_reducible repeat (first | refine blk_drewN ?_ _ | refine blk_drew ?_ | refine blk_alloc ?_ _)); refine blk_far ?_ NB202_228.out _; (with_reducible repeat (first | refine blk_drewN ?_ _ | refine blk_drew ?_ | refine blk_alloc ?_ _)); exact BK202.out) hb); have n9_ := Aside0.mk (blk_below (g := gb228) (o := .cells #[.int .i64 t218, .int .i64 t219, .slice Ao89 t220.length co89, .slice Ao90 t223.length co90] 25 (0, 0)) (by (with_reducible repeat (first | refine blk_drewN ?_ _ | refine blk_drew ?_ | refine blk_alloc ?_ _)); refine blk_put (cs := #[.int .i64 t218, .int .i64 t219, .slice Ao89 t220.length co89, .slice none 0 0]) ?_ 3 _ rfl; (with_reducible repeat (first | refine blk_drewN ?_ _ | refine blk_drew ?_ | refine blk_alloc ?_ _)); refine blk_put (cs := #[.int .i64 t218, .int .i64 t219, .slice none 0 0, .slice none 0 0]) ?_ 2 _ rfl; (with_reducible repeat (first | refine blk_drewN ?_ _ | refine blk_drew ?_ | refine blk_alloc ?_ _)); refine blk_put (cs := #[.int .i64 t218, .int .i64 0, .slice none 0 0, .slice none 0 0]) ?_ 1 _ rfl; (with_reducible repeat (first | refine blk_drewN ?_ _ | refine blk_drew ?_ | refine blk_alloc ?_ _)); refine blk_put (cs := #[.int .i64 0, .int .i64 0, .slice none 0 0, .slice none 0 0]) ?_ 0 _ rfl; (with_reducible repeat (first | refine blk_drewN ?_ _ | refine blk_drew ?_ | refine blk_alloc ?_ _)); exact BK228.out) hb); have n10_ := Aside0.mk (below_step (by repeat (first | (with_reducible first | exact HB.out | apply below_alloc | apply pw_below_drewN | apply below_drew1 | refine below_set ?_ GE188.out | refine below_set ?_ GE202.out | refine below_set ?_ GE228.out) | exact HB.out)) hb); clear HO_189002; clear HO_189003; clear HO_203002; clear HO_203003; clear HO217; clear HO222; clear HO225; clear BK188; clear BK202; clear BK228; clear HB; have HO_189002 := n0_; have HO_189003 := n1_; have HO_203002 := n2_; have HO_203003 := n3_; have HO217 := n4_; have HO222 := n5_; have HO225 := n6_; have BK188 := n7_; have BK202 := n8_; have BK228 := n9_; have HB := n10_; clear n0_ n1_ n2_ n3_ n4_ n5_ n6_ n7_ n8_ n9_ n10_; (try clear hb); (try clear hb2); (try clear hk); (try clear hi)))
                          go_meet
                          case rel => exact ⟨_, (true), (by first | rfl | (simp; done) | (simp [*]; done)), H', ⟨by have := HJ7.out; have := HJ43.out; first | omega | exact Nat.le_refl _⟩, ⟨by (with_reducible repeat (first | apply Kd.Q_alloc | apply Kd.Q_drewN | apply Kd.Q_drew)); exact Kd.Q_mono HO_189002.out (fun _ hk => ⟨hk.1.1, hk.2⟩)⟩, ⟨by (with_reducible repeat (first | apply Kd.R_alloc | apply Kd.R_drewN | apply Kd.R_drew)); exact HO_189003.out⟩, ⟨by (with_reducible repeat (first | apply Kd.Q_alloc | apply Kd.Q_drewN | apply Kd.Q_drew)); exact Kd.Q_mono HO_203002.out (fun _ hk => ⟨hk.1.1, hk.2⟩)⟩, ⟨by (with_reducible repeat (first | apply Kd.R_alloc | apply Kd.R_drewN | apply Kd.R_drew)); exact HO_203003.out⟩, ⟨by (with_reducible repeat (first | apply Kd.Q_alloc | apply Kd.Q_drewN | apply Kd.Q_drew)); exact Kd.Q_mono HO222.out (fun _ hk => ⟨hk.1.1.2, hk.1.2⟩)⟩, ⟨by (with_reducible repeat (first | apply Kd.R_alloc | apply Kd.R_drewN | apply Kd.R_drew)); exact Kd.R_mono HO225.out (fun _ hk => ⟨hk.1.2, hk.2⟩)⟩, ⟨by (with_reducible repeat (first | refine blk_drewN ?_ _ | refine blk_drew ?_ | refine blk_alloc ?_ _)); exact BK188.out⟩, ⟨by (with_reducible repeat (first | refine blk_drewN ?_ _ | refine blk_drew ?_ | refine blk_alloc ?_ _)); exact BK202.out⟩, ⟨by (with_reducible repeat (first | refine blk_drewN ?_ _ | refine blk_drew ?_ | refine blk_alloc ?_ _)); exact BK228.out⟩, ⟨by repeat (first | (with_reducible first | exact HB.out | apply below_alloc | apply pw_below_drewN | apply below_drew1 | refine below_set ?_ GE188.out | refine below_set ?_ GE202.out | refine below_set ?_ GE228.out) | exact HB.out)⟩⟩
                      case rest =>
                        clear HC76
                        try clear c1
                        try clear c2
                        try clear p2
                        try clear c3
                        try clear c3b0
                        try clear c3b1
                        try clear c4
                        try clear c5
                        try clear c6
                        try clear c7
                        try clear c8
                        try clear c9
                        try clear c10
                        try clear c13
                        try clear c14
                        try clear c15
                        try clear c16
                        try clear c17
                        try clear c18
                        try clear c19
                        try clear c20
                        try clear c25
                        try clear c26
                        try clear c26b0
                        try clear c26b1
                        try clear c27
                        try clear c31
                        try clear c35
                        try clear c39
                        try clear c42
                        try clear c48
                        try clear c48b0
                        try clear c50
                        try clear c51
                        try clear c51b0
                        try clear c51b1
                        try clear c52
                        try clear c56
                        try clear c60
                        try clear c64
                        try clear c67
                        try clear c67b0
                        try clear c68
                        try clear c73
                        try clear c73b0
                        try clear c73b1
                        try clear c77
                        try clear c86
                        try clear c87
                        try clear c92
                        try clear c93
                        try clear c93b0
                        try clear c93b1
                        try clear c94
                        try clear c95
                        try clear c97
                        try clear c100
                        try clear c101
                        try clear c103
                        try clear c106
                        try clear c107
                        try clear c109
                        try clear hcz102_0
                        try clear hcz102_1
                        try clear hcz102_2
                        try clear hcz102_3
                        try clear hcz104_0
                        try clear hcz104_1
                        try clear hcz104_2
                        try clear hcz104_3
                        try clear hcz108_0
                        try clear hcz108_1
                        try clear hcz108_2
                        try clear hcz108_3
                        try clear hcz110_0
                        try clear hcz110_1
                        try clear hcz110_2
                        try clear hcz110_3
                        try clear hcz13_0
                        try clear hcz13_1
                        try clear hcz13_2
                        try clear hcz13_3
                        try clear hcz21_0
                        try clear hcz21_1
                        try clear hcz21_2
                        try clear hcz21_3
                        try clear hcz28_0
                        try clear hcz28_1
                        try clear hcz28_2
                        try clear hcz28_3
                        try clear hcz29_0
                        try clear hcz29_1
                        try clear hcz29_2
                        try clear hcz29_3
                        try clear hcz32_0
                        try clear hcz32_1
                        try clear hcz32_2
                        try clear hcz32_3
                        try clear hcz33_0
                        try clear hcz33_1
                        try clear hcz33_2
                        try clear hcz33_3
                        try clear hcz36_0
                        try clear hcz36_1
                        try clear hcz36_2
                        try clear hcz36_3
                        try clear hcz37_0
                        try clear hcz37_1
                        try clear hcz37_2
                        try clear hcz37_3
                        try clear hcz53_0
                        try clear hcz53_1
                        try clear hcz53_2
                        try clear hcz53_3
                        try clear hcz54_0
                        try clear hcz54_1
                        try clear hcz54_2
                        try clear hcz54_3
                        try clear hcz57_0
                        try clear hcz57_1
                        try clear hcz57_2
                        try clear hcz57_3
                        try clear hcz58_0
                        try clear hcz58_1
                        try clear hcz58_2
                        try clear hcz58_3
                        try clear hcz61_0
                        try clear hcz61_1
                        try clear hcz61_2
                        try clear hcz61_3
                        try clear hcz62_0
                        try clear hcz62_1
                        try clear hcz62_2
                        try clear hcz62_3
                        try clear hcz69_0
                        try clear hcz69_1
                        try clear hcz69_2
                        try clear hcz69_3
                        try clear hcz71_0
                        try clear hcz71_1
                        try clear hcz71_2
                        try clear hcz71_3
                        try clear hcz78_0
                        try clear hcz78_1
                        try clear hcz78_2
                        try clear hcz78_3
                        try clear hcz80_0
                        try clear hcz80_1
                        try clear hcz80_2
                        try clear hcz80_3
                        try clear hcz88_0
                        try clear hcz88_1
                        try clear hcz88_2
                        try clear hcz88_3
                        try clear hcz96_0
                        try clear hcz96_1
                        try clear hcz96_2
                        try clear hcz96_3
                        try clear hcz98_0
                        try clear hcz98_1
                        try clear hcz98_2
                        try clear hcz98_3
                        try clear hfz102_0
                        try clear hfz102_1
                        try clear hfz102_2
                        try clear hfz102_3
                        try clear hfz104_0
                        try clear hfz104_1
                        try clear hfz104_2
                        try clear hfz104_3
                        try clear hfz108_0
                        try clear hfz108_1
                        try clear hfz108_2
                        try clear hfz108_3
                        try clear hfz110_0
                        try clear hfz110_1
                        try clear hfz110_2
                        try clear hfz110_3
                        try clear hfz13_0
                        try clear hfz13_1
                        try clear hfz13_2
                        try clear hfz13_3
                        try clear hfz21_0
                        try clear hfz21_1
                        try clear hfz21_2
                        try clear hfz21_3
                        try clear hfz28_0
                        try clear hfz28_1
                        try clear hfz28_2
                        try clear hfz28_3
                        try clear hfz29_0
                        try clear hfz29_1
                        try clear hfz29_2
                        try clear hfz29_3
                        try clear hfz32_0
                        try clear hfz32_1
                        try clear hfz32_2
                        try clear hfz32_3
                        try clear hfz33_0
                        try clear hfz33_1
                        try clear hfz33_2
                        try clear hfz33_3
                        try clear hfz36_0
                        try clear hfz36_1
                        try clear hfz36_2
                        try clear hfz36_3
                        try clear hfz37_0
                        try clear hfz37_1
                        try clear hfz37_2
                        try clear hfz37_3
                        try clear hfz53_0
                        try clear hfz53_1
                        try clear hfz53_2
                        try clear hfz53_3
                        try clear hfz54_0
                        try clear hfz54_1
                        try clear hfz54_2
                        try clear hfz54_3
                        try clear hfz57_0
                        try clear hfz57_1
                        try clear hfz57_2
                        try clear hfz57_3
                        try clear hfz58_0
                        try clear hfz58_1
                        try clear hfz58_2
                        try clear hfz58_3
                        try clear hfz61_0
                        try clear hfz61_1
                        try clear hfz61_2
                        try clear hfz61_3
                        try clear hfz62_0
                        try clear hfz62_1
                        try clear hfz62_2
                        try clear hfz62_3
                        try clear hfz69_0
                        try clear hfz69_1
                        try clear hfz69_2
                        try clear hfz69_3
                        try clear hfz71_0
                        try clear hfz71_1
                        try clear hfz71_2
                        try clear hfz71_3
                        try clear hfz78_0
                        try clear hfz78_1
                        try clear hfz78_2
                        try clear hfz78_3
                        try clear hfz80_0
                        try clear hfz80_1
                        try clear hfz80_2
                        try clear hfz80_3
                        try clear hfz88_0
                        try clear hfz88_1
                        try clear hfz88_2
                        try clear hfz88_3
                        try clear hfz96_0
                        try clear hfz96_1
                        try clear hfz96_2
                        try clear hfz96_3
                        try clear hfz98_0
                        try clear hfz98_1
                        try clear hfz98_2
                        try clear hfz98_3
                        try clear p2
                        obtain ⟨kq, x110_75, rfl, HA, HJ75, HO_189002, HO_189003, HO_203002, HO_203003, HO_229002, HO_229003, BK188, BK202, BK228, HB⟩ := hcut
                        have hl203002_75 := (Kd.Q_reads' HO_203002.out).1
                        rw [hl203002_75] at HO_203002
                        (try simp only [hl203002_75])
                        (try simp only [hl203002_75] at BK188)
                        (try simp only [hl203002_75] at BK202)
                        (try simp only [hl203002_75] at BK228)
                        (try simp only [hl203002_75] at HO_189002)
                        (try simp only [hl203002_75] at HO_189003)
                        (try simp only [hl203002_75] at HO_203003)
                        (try simp only [hl203002_75] at HO_229002)
                        (try simp only [hl203002_75] at HO_229003)
                        have hl203003_75 := (Kd.R_reads' HO_203003.out).1
                        rw [hl203003_75] at HO_203003
                        (try simp only [hl203003_75])
                        (try simp only [hl203003_75] at BK188)
                        (try simp only [hl203003_75] at BK202)
                        (try simp only [hl203003_75] at BK228)
                        (try simp only [hl203003_75] at HO_189002)
                        (try simp only [hl203003_75] at HO_189003)
                        (try simp only [hl203003_75] at HO_203002)
                        (try simp only [hl203003_75] at HO_229002)
                        (try simp only [hl203003_75] at HO_229003)
                        cases kq with
                        | zero => exact absurd HA.out (by simp [laws_FnExactReadHyper.j2])
                        | succ kj75 =>
                          have H := HA.out
                          clear HA
                          simp only [laws_FnExactReadHyper.j2] at H
                          by_cases c112 : x110_75 = true
                          · subst c112
                            have H1 : (some false) = some r := by rw [if_pos rfl] at H; exact H
                            clear H
                            have H := H1
                            clear H1
                            obtain rfl := Option.some.inj H
                            go_wp2
                            go_ret
                            exact ⟨by first | rfl | (simp [errW_none, errW_some] <;> rfl) | (simp [*, errW_none, errW_some] <;> rfl), by repeat (first | (with_reducible first | exact HB.out | apply below_alloc | apply pw_below_drewN | apply below_drew1 | refine below_set ?_ GE188.out | refine below_set ?_ GE202.out | refine below_set ?_ GE228.out) | exact HB.out)⟩
                          · replace c112 := Bool.eq_false_iff.mpr c112
                            subst c112
                            have H1 : ((laws_heldHFrame.f kj75 t192 t193 t212 t213 1).bind fun t230 => (if t230 < 0 then (some false) else (if t230 = t211 then (some true) else (some false)))) = some r := by rw [if_neg (show ¬ (false = true) by decide)] at H; exact H
                            clear H
                            have H := H1
                            clear H1
                            replace H := Option.bind_eq_some_iff.mp H
                            obtain ⟨t230, A1130, H⟩ := H
                            replace H : (if t230 < 0 then (some false) else (if t230 = t211 then (some true) else (some false))) = some r := H
                            have A113 := Aside0.mk A1130
                            clear A1130
                            by_cases c114 : t230 < 0
                            · rw [if_pos c114] at H
                              have c114b0 : decide (t230 < 0) = true := decide_eq_true c114
                              clear c114
                              obtain rfl := Option.some.inj H
                              have hnb115 := NB202_188.out
                              have hnc115 := NB188_202.out
                              have hnb116 := NB202_228.out
                              have hnc116 := NB228_202.out
                              have hcz117_0 : wc.cell? ⟨gb202, 0, none⟩ = some (.int .i64 t192) := (blk_cell BK202.out 0).trans rfl
                              have hcz117_1 : wc.cell? ⟨gb202, 1, none⟩ = some (.int .i64 t193) := (blk_cell BK202.out 1).trans rfl
                              have hcz117_2 : wc.cell? ⟨gb202, 2, none⟩ = some (.slice Ao22 t212.length co22) := (blk_cell BK202.out 2).trans rfl
                              have hcz117_3 : wc.cell? ⟨gb202, 3, none⟩ = some (.slice Ao23 t213.length co23) := (blk_cell BK202.out 3).trans rfl
                              have hfz117_0 := blk_frozen BK202.out 0
                              have hfz117_1 := blk_frozen BK202.out 1
                              have hfz117_2 := blk_frozen BK202.out 2
                              have hfz117_3 := blk_frozen BK202.out 3
                              go_wp2_with (first | ((with_reducible refine gate_callee (f := 20) rfl ?_); refine goesL_ (some 113) rfl rfl Try.func20 (by kernel_rfl) rfl #[.agg #[.int .i64 t192, .int .i64 t193, .slice Ao22 t212.length co22, .slice Ao23 t213.length co23], .int .i64 1] rfl (by (try simp only [List.map_toArray, List.map_cons, List.map_nil]); first | done | rfl | (simp only [List.length_drop, List.length_take]; rfl)) ?_; (with_reducible refine (laws_heldHFrame.calls kj75 t192 t193 _ _ t212 _ _ t213 1 t230 _ ?side1 ?side2 ?side3 ?side4 A113.out).mono ?_); (case side1 => repeat (first | exact (Kd.Q_reads' HO_203002.out).2.2 | (with_reducible refine Kd.C_alloc ?_ _) | (with_reducible refine Kd.C_drewN ?_ _) | (with_reducible refine Kd.C_drew ?_))); (case side2 => exact (Kd.Q_reads' HO_203002.out).2.1); (case side3 => repeat (first | exact (Kd.R_reads' HO_203003.out).2.2 | (with_reducible refine Kd.C_alloc ?_ _) | (with_reducible refine Kd.C_drewN ?_ _) | (with_reducible refine Kd.C_drew ?_))); (case side4 => exact (Kd.R_reads' HO_203003.out).2.1); rintro e w118 ⟨rfl, hb⟩; refine ⟨_, rfl, ?_⟩; have n0_ := Aside0.mk (Kd.Q_below (by (with_reducible repeat (first | apply Kd.Q_alloc | apply Kd.Q_drewN | apply Kd.Q_drew)); exact HO_189002.out) hb); have n1_ := Aside0.mk (Kd.R_below (by (with_reducible repeat (first | apply Kd.R_alloc | apply Kd.R_drewN | apply Kd.R_drew)); exact HO_189003.out) hb); have n2_ := Aside0.mk (Kd.Q_below (by (with_reducible repeat (first | apply Kd.Q_alloc | apply Kd.Q_drewN | apply Kd.Q_drew)); exact HO_203002.out) hb); have n3_ := Aside0.mk (Kd.R_below (by (with_reducible repeat (first | apply Kd.R_alloc | apply Kd.R_drewN | apply Kd.R_drew)); exact HO_203003.out) hb); have n4_ := Aside0.mk (Kd.Q_below (by (with_reducible repeat (first | apply Kd.Q_alloc | apply Kd.Q_drewN | apply Kd.Q_drew)); exact HO_229002.out) hb); have n5_ := Aside0.mk (Kd.R_below (by (with_reducible repeat (first | apply Kd.R_alloc | apply Kd.R_drewN | apply Kd.R_drew)); exact HO_229003.out) hb); have n6_ := Aside0.mk (blk_below (g := gb188) (o := .cells #[.int .i64 t178, .int .i64 t179, .slice Ao14 t180.length co14, .slice Ao15 t183.length co15] 25 (0, 0)) (by (with_reducible repeat (first | refine blk_drewN ?_ _ | refine blk_drew ?_ | refine blk_alloc ?_ _)); exact BK188.out) hb); have n7_ := Aside0.mk (blk_below (g := gb202) (o := .cells #[.int .i64 t192, .int .i64 t193, .slice Ao22 t212.length co22, .slice Ao23 t213.length co23] 25 (0, 0)) (by (with_reducible repeat (first | refine blk_drewN ?_ _ | refine blk_drew ?_ | refine blk_alloc ?_ _)); exact BK202.out) hb); have n8_ := Aside0.mk (blk_below (g := gb228) (o := .cells #[.int .i64 t218, .int .i64 t219, .slice Ao89 t220.length co89, .slice Ao90 t223.length co90] 25 (0, 0)) (by (with_reducible repeat (first | refine blk_drewN ?_ _ | refine blk_drew ?_ | refine blk_alloc ?_ _)); exact BK228.out) hb); have n9_ := Aside0.mk (below_step (by repeat (first | (with_reducible first | exact HB.out | apply below_alloc | apply pw_below_drewN | apply below_drew1 | refine below_set ?_ GE188.out | refine below_set ?_ GE202.out | refine below_set ?_ GE228.out) | exact HB.out)) hb); clear HO_189002; clear HO_189003; clear HO_203002; clear HO_203003; clear HO_229002; clear HO_229003; clear BK188; clear BK202; clear BK228; clear HB; have HO_189002 := n0_; have HO_189003 := n1_; have HO_203002 := n2_; have HO_203003 := n3_; have HO_229002 := n4_; have HO_229003 := n5_; have BK188 := n6_; have BK202 := n7_; have BK228 := n8_; have HB := n9_; clear n0_ n1_ n2_ n3_ n4_ n5_ n6_ n7_ n8_ n9_; (try clear hb); (try clear hb2); (try clear hk); (try clear hi)))
                              go_ret
                              exact ⟨by first | rfl | (simp [errW_none, errW_some] <;> rfl) | (simp [*, errW_none, errW_some] <;> rfl), by repeat (first | (with_reducible first | exact HB.out | apply below_alloc | apply pw_below_drewN | apply below_drew1 | refine below_set ?_ GE188.out | refine below_set ?_ GE202.out | refine below_set ?_ GE228.out) | exact HB.out)⟩
                            · rw [if_neg c114] at H
                              have c114b0 : decide (t230 < 0) = false := decide_eq_false c114
                              clear c114
                              by_cases c119 : t230 = t211
                              · rw [if_pos c119] at H
                                have c119b0 : (t230 == t211) = true := beq_iff_eq.mpr c119
                                have c119b1 : (t230 != t211) = false := bne_eq_false_iff_eq.mpr c119
                                clear c119
                                obtain rfl := Option.some.inj H
                                have hnb120 := NB202_188.out
                                have hnc120 := NB188_202.out
                                have hnb121 := NB202_228.out
                                have hnc121 := NB228_202.out
                                have hcz122_0 : wc.cell? ⟨gb202, 0, none⟩ = some (.int .i64 t192) := (blk_cell BK202.out 0).trans rfl
                                have hcz122_1 : wc.cell? ⟨gb202, 1, none⟩ = some (.int .i64 t193) := (blk_cell BK202.out 1).trans rfl
                                have hcz122_2 : wc.cell? ⟨gb202, 2, none⟩ = some (.slice Ao22 t212.length co22) := (blk_cell BK202.out 2).trans rfl
                                have hcz122_3 : wc.cell? ⟨gb202, 3, none⟩ = some (.slice Ao23 t213.length co23) := (blk_cell BK202.out 3).trans rfl
                                have hfz122_0 := blk_frozen BK202.out 0
                                have hfz122_1 := blk_frozen BK202.out 1
                                have hfz122_2 := blk_frozen BK202.out 2
                                have hfz122_3 := blk_frozen BK202.out 3
                                go_wp2_with (first | ((with_reducible refine gate_callee (f := 20) rfl ?_); refine goesL_ (some 113) rfl rfl Try.func20 (by kernel_rfl) rfl #[.agg #[.int .i64 t192, .int .i64 t193, .slice Ao22 t212.length co22, .slice Ao23 t213.length co23], .int .i64 1] rfl (by (try simp only [List.map_toArray, List.map_cons, List.map_nil]); first | done | rfl | (simp only [List.length_drop, List.length_take]; rfl)) ?_; (with_reducible refine (laws_heldHFrame.calls kj75 t192 t193 _ _ t212 _ _ t213 1 t230 _ ?side1 ?side2 ?side3 ?side4 A113.out).mono ?_); (case side1 => repeat (first | exact (Kd.Q_reads' HO_203002.out).2.2 | (with_reducible refine Kd.C_alloc ?_ _) | (with_reducible refine Kd.C_drewN ?_ _) | (with_reducible refine Kd.C_drew ?_))); (case side2 => exact (Kd.Q_reads' HO_203002.out).2.1); (case side3 => repeat (first | exact (Kd.R_reads' HO_203003.out).2.2 | (with_reducible refine Kd.C_alloc ?_ _) | (with_reducible refine Kd.C_drewN ?_ _) | (with_reducible refine Kd.C_drew ?_))); (case side4 => exact (Kd.R_reads' HO_203003.out).2.1); rintro e w123 ⟨rfl, hb⟩; refine ⟨_, rfl, ?_⟩; have n0_ := Aside0.mk (Kd.Q_below (by (with_reducible repeat (first | apply Kd.Q_alloc | apply Kd.Q_drewN | apply Kd.Q_drew)); exact HO_189002.out) hb); have n1_ := Aside0.mk (Kd.R_below (by (with_reducible repeat (first | apply Kd.R_alloc | apply Kd.R_drewN | apply Kd.R_drew)); exact HO_189003.out) hb); have n2_ := Aside0.mk (Kd.Q_below (by (with_reducible repeat (first | apply Kd.Q_alloc | apply Kd.Q_drewN | apply Kd.Q_drew)); exact HO_203002.out) hb); have n3_ := Aside0.mk (Kd.R_below (by (with_reducible repeat (first | apply Kd.R_alloc | apply Kd.R_drewN | apply Kd.R_drew)); exact HO_203003.out) hb); have n4_ := Aside0.mk (Kd.Q_below (by (with_reducible repeat (first | apply Kd.Q_alloc | apply Kd.Q_drewN | apply Kd.Q_drew)); exact HO_229002.out) hb); have n5_ := Aside0.mk (Kd.R_below (by (with_reducible repeat (first | apply Kd.R_alloc | apply Kd.R_drewN | apply Kd.R_drew)); exact HO_229003.out) hb); have n6_ := Aside0.mk (blk_below (g := gb188) (o := .cells #[.int .i64 t178, .int .i64 t179, .slice Ao14 t180.length co14, .slice Ao15 t183.length co15] 25 (0, 0)) (by (with_reducible repeat (first | refine blk_drewN ?_ _ | refine blk_drew ?_ | refine blk_alloc ?_ _)); exact BK188.out) hb); have n7_ := Aside0.mk (blk_below (g := gb202) (o := .cells #[.int .i64 t192, .int .i64 t193, .slice Ao22 t212.length co22, .slice Ao23 t213.length co23] 25 (0, 0)) (by (with_reducible repeat (first | refine blk_drewN ?_ _ | refine blk_drew ?_ | refine blk_alloc ?_ _)); exact BK202.out) hb); have n8_ := Aside0.mk (blk_below (g := gb228) (o := .cells #[.int .i64 t218, .int .i64 t219, .slice Ao89 t220.length co89, .slice Ao90 t223.length co90] 25 (0, 0)) (by (with_reducible repeat (first | refine blk_drewN ?_ _ | refine blk_drew ?_ | refine blk_alloc ?_ _)); exact BK228.out) hb); have n9_ := Aside0.mk (below_step (by repeat (first | (with_reducible first | exact HB.out | apply below_alloc | apply pw_below_drewN | apply below_drew1 | refine below_set ?_ GE188.out | refine below_set ?_ GE202.out | refine below_set ?_ GE228.out) | exact HB.out)) hb); clear HO_189002; clear HO_189003; clear HO_203002; clear HO_203003; clear HO_229002; clear HO_229003; clear BK188; clear BK202; clear BK228; clear HB; have HO_189002 := n0_; have HO_189003 := n1_; have HO_203002 := n2_; have HO_203003 := n3_; have HO_229002 := n4_; have HO_229003 := n5_; have BK188 := n6_; have BK202 := n7_; have BK228 := n8_; have HB := n9_; clear n0_ n1_ n2_ n3_ n4_ n5_ n6_ n7_ n8_ n9_; (try clear hb); (try clear hb2); (try clear hk); (try clear hi)))
                                go_ret
                                exact ⟨by first | rfl | (simp [errW_none, errW_some] <;> rfl) | (simp [*, errW_none, errW_some] <;> rfl), by repeat (first | (with_reducible first | exact HB.out | apply below_alloc | apply pw_below_drewN | apply below_drew1 | refine below_set ?_ GE188.out | refine below_set ?_ GE202.out | refine below_set ?_ GE228.out) | exact HB.out)⟩
                              · rw [if_neg c119] at H
                                have c119b0 : (t230 == t211) = false := beq_eq_false_iff_ne.mpr c119
                                have c119b1 : (t230 != t211) = true := bne_iff_ne.mpr c119
                                obtain rfl := Option.some.inj H
                                have hnb124 := NB202_188.out
                                have hnc124 := NB188_202.out
                                have hnb125 := NB202_228.out
                                have hnc125 := NB228_202.out
                                have hcz126_0 : wc.cell? ⟨gb202, 0, none⟩ = some (.int .i64 t192) := (blk_cell BK202.out 0).trans rfl
                                have hcz126_1 : wc.cell? ⟨gb202, 1, none⟩ = some (.int .i64 t193) := (blk_cell BK202.out 1).trans rfl
                                have hcz126_2 : wc.cell? ⟨gb202, 2, none⟩ = some (.slice Ao22 t212.length co22) := (blk_cell BK202.out 2).trans rfl
                                have hcz126_3 : wc.cell? ⟨gb202, 3, none⟩ = some (.slice Ao23 t213.length co23) := (blk_cell BK202.out 3).trans rfl
                                have hfz126_0 := blk_frozen BK202.out 0
                                have hfz126_1 := blk_frozen BK202.out 1
                                have hfz126_2 := blk_frozen BK202.out 2
                                have hfz126_3 := blk_frozen BK202.out 3
                                go_wp2_with (first | ((with_reducible refine gate_callee (f := 20) rfl ?_); refine goesL_ (some 113) rfl rfl Try.func20 (by kernel_rfl) rfl #[.agg #[.int .i64 t192, .int .i64 t193, .slice Ao22 t212.length co22, .slice Ao23 t213.length co23], .int .i64 1] rfl (by (try simp only [List.map_toArray, List.map_cons, List.map_nil]); first | done | rfl | (simp only [List.length_drop, List.length_take]; rfl)) ?_; (with_reducible refine (laws_heldHFrame.calls kj75 t192 t193 _ _ t212 _ _ t213 1 t230 _ ?side1 ?side2 ?side3 ?side4 A113.out).mono ?_); (case side1 => repeat (first | exact (Kd.Q_reads' HO_203002.out).2.2 | (with_reducible refine Kd.C_alloc ?_ _) | (with_reducible refine Kd.C_drewN ?_ _) | (with_reducible refine Kd.C_drew ?_))); (case side2 => exact (Kd.Q_reads' HO_203002.out).2.1); (case side3 => repeat (first | exact (Kd.R_reads' HO_203003.out).2.2 | (with_reducible refine Kd.C_alloc ?_ _) | (with_reducible refine Kd.C_drewN ?_ _) | (with_reducible refine Kd.C_drew ?_))); (case side4 => exact (Kd.R_reads' HO_203003.out).2.1); rintro e w127 ⟨rfl, hb⟩; refine ⟨_, rfl, ?_⟩; have n0_ := Aside0.mk (Kd.Q_below (by (with_reducible repeat (first | apply Kd.Q_alloc | apply Kd.Q_drewN | apply Kd.Q_drew)); exact HO_189002.out) hb); have n1_ := Aside0.mk (Kd.R_below (by (with_reducible repeat (first | apply Kd.R_alloc | apply Kd.R_drewN | apply Kd.R_drew)); exact HO_189003.out) hb); have n2_ := Aside0.mk (Kd.Q_below (by (with_reducible repeat (first | apply Kd.Q_alloc | apply Kd.Q_drewN | apply Kd.Q_drew)); exact HO_203002.out) hb); have n3_ := Aside0.mk (Kd.R_below (by (with_reducible repeat (first | apply Kd.R_alloc | apply Kd.R_drewN | apply Kd.R_drew)); exact HO_203003.out) hb); have n4_ := Aside0.mk (Kd.Q_below (by (with_reducible repeat (first | apply Kd.Q_alloc | apply Kd.Q_drewN | apply Kd.Q_drew)); exact HO_229002.out) hb); have n5_ := Aside0.mk (Kd.R_below (by (with_reducible repeat (first | apply Kd.R_alloc | apply Kd.R_drewN | apply Kd.R_drew)); exact HO_229003.out) hb); have n6_ := Aside0.mk (blk_below (g := gb188) (o := .cells #[.int .i64 t178, .int .i64 t179, .slice Ao14 t180.length co14, .slice Ao15 t183.length co15] 25 (0, 0)) (by (with_reducible repeat (first | refine blk_drewN ?_ _ | refine blk_drew ?_ | refine blk_alloc ?_ _)); exact BK188.out) hb); have n7_ := Aside0.mk (blk_below (g := gb202) (o := .cells #[.int .i64 t192, .int .i64 t193, .slice Ao22 t212.length co22, .slice Ao23 t213.length co23] 25 (0, 0)) (by (with_reducible repeat (first | refine blk_drewN ?_ _ | refine blk_drew ?_ | refine blk_alloc ?_ _)); exact BK202.out) hb); have n8_ := Aside0.mk (blk_below (g := gb228) (o := .cells #[.int .i64 t218, .int .i64 t219, .slice Ao89 t220.length co89, .slice Ao90 t223.length co90] 25 (0, 0)) (by (with_reducible repeat (first | refine blk_drewN ?_ _ | refine blk_drew ?_ | refine blk_alloc ?_ _)); exact BK228.out) hb); have n9_ := Aside0.mk (below_step (by repeat (first | (with_reducible first | exact HB.out | apply below_alloc | apply pw_below_drewN | apply below_drew1 | refine below_set ?_ GE188.out | refine below_set ?_ GE202.out | refine below_set ?_ GE228.out) | exact HB.out)) hb); clear HO_189002; clear HO_189003; clear HO_203002; clear HO_203003; clear HO_229002; clear HO_229003; clear BK188; clear BK202; clear BK228; clear HB; have HO_189002 := n0_; have HO_189003 := n1_; have HO_203002 := n2_; have HO_203003 := n3_; have HO_229002 := n4_; have HO_229003 := n5_; have BK188 := n6_; have BK202 := n7_; have BK228 := n8_; have HB := n9_; clear n0_ n1_ n2_ n3_ n4_ n5_ n6_ n7_ n8_ n9_; (try clear hb); (try clear hb2); (try clear hk); (try clear hi)))
                                go_ret
                                exact ⟨by first | rfl | (simp [errW_none, errW_some] <;> rfl) | (simp [*, errW_none, errW_some] <;> rfl), by repeat (first | (with_reducible first | exact HB.out | apply below_alloc | apply pw_below_drewN | apply below_drew1 | refine below_set ?_ GE188.out | refine below_set ?_ GE202.out | refine below_set ?_ GE228.out) | exact HB.out)⟩
                    · rw [if_neg c73] at H
                      have c73b0 : (t214 == t211) = false := beq_eq_false_iff_ne.mpr c73
                      have c73b1 : (t214 != t211) = true := bne_iff_ne.mpr c73
                      obtain rfl := Option.some.inj H
                      have hnb128 := NB202_188.out
                      have hnc128 := NB188_202.out
                      have hcz129_0 : wc.cell? ⟨gb202, 0, none⟩ = some (.int .i64 t192) := (blk_cell BK202.out 0).trans rfl
                      have hcz129_1 : wc.cell? ⟨gb202, 1, none⟩ = some (.int .i64 t193) := (blk_cell BK202.out 1).trans rfl
                      have hcz129_2 : wc.cell? ⟨gb202, 2, none⟩ = some (.slice Ao22 t194.length co22) := (blk_cell BK202.out 2).trans rfl
                      have hcz129_3 : wc.cell? ⟨gb202, 3, none⟩ = some (.slice Ao23 t197.length co23) := (blk_cell BK202.out 3).trans rfl
                      have hfz129_0 := blk_frozen BK202.out 0
                      have hfz129_1 := blk_frozen BK202.out 1
                      have hfz129_2 := blk_frozen BK202.out 2
                      have hfz129_3 := blk_frozen BK202.out 3
                      go_wp2_with (first | ((with_reducible refine gate_callee (f := 19) rfl ?_); refine goesL_ (some 80) rfl rfl Try.func19 (by kernel_rfl) rfl #[.agg #[.int .i64 t192, .int .i64 t193, .slice Ao22 t194.length co22, .slice Ao23 t197.length co23], .int .i64 1] rfl (by (try simp only [List.map_toArray, List.map_cons, List.map_nil]); first | done | rfl | (simp only [List.length_drop, List.length_take]; rfl)) ?_; (with_reducible refine (laws_markHFrame.calls kj43 t192 t193 (fun k_ => some k_ = (.slice Ao22 t194.length co22 : Value).ownBlock) (.slice Ao22 t194.length co22) t194 (fun k_ => some k_ = (.slice Ao23 t197.length co23 : Value).ownBlock) (.slice Ao23 t197.length co23) t197 1 t211 t212 t213 w _ ?side1 ?side2 ?side3 A65.out).mono ?_); (case side1 => repeat (first | (with_reducible first | exact HB.out | apply below_alloc | apply pw_below_drewN | apply below_drew1 | refine below_set ?_ GE188.out | refine below_set ?_ GE202.out) | exact HB.out)); (case side2 => exact Kd.Q_tight rfl HO_203002.out); (case side3 => exact Kd.R_tight rfl HO_203003.out); rintro e w130 ⟨rfl, hy0, hy1, hb, hkp⟩; refine ⟨_, rfl, ?_⟩; have n0_ := Aside0.mk (Kd.Q_mono (ok' := fun k_ => some k_ ≠ (.slice Ao22 t194.length co22 : Value).ownBlock) (Kd.Q_keptB ((Kd.Q_apart' HO_189002.out (Kd.R_typed HO_203003.out) (by decide))) hkp (fun k_ hk_ hs_ => Or.elim hs_ (fun e_ => (hk_.1) e_) (fun e_ => (hk_.2) e_))) (fun k_ hk_ => hk_.1.1)); have n1_ := Aside0.mk (Kd.R_mono (ok' := fun k_ => some k_ ≠ (.slice Ao23 t197.length co23 : Value).ownBlock) (Kd.R_keptB ((Kd.R_apart' HO_189003.out (Kd.Q_typed HO_203002.out) (by decide))) hkp (fun k_ hk_ hs_ => Or.elim hs_ (fun e_ => (hk_.2) e_) (fun e_ => (hk_.1) e_))) (fun k_ hk_ => hk_.1.1)); have n2_ := Aside0.mk (Kd.Q_mono (Kd.Q_tight rfl hy0) (fun k_ e_ => HO_203002.out.1 k_ e_.symm)); have n3_ := Aside0.mk (Kd.R_reok rfl hy1 (fun k_ e_ => HO_203003.out.1 k_ e_)); have n4_ := Aside0.mk (blk_kept (by (with_reducible repeat (first | refine blk_drewN ?_ _ | refine blk_drew ?_ | refine blk_alloc ?_ _)); exact BK188.out) hkp (fun hs_ => Or.elim hs_ (fun e_ => (fun e_ => (Kd.Q_ne HO_203002.out BK188.out (by decide)) e_) e_) (fun e_ => (fun e_ => (Kd.R_ne HO_203003.out BK188.out (by decide)) e_) e_))); have n5_ := Aside0.mk (blk_kept (by (with_reducible repeat (first | refine blk_drewN ?_ _ | refine blk_drew ?_ | refine blk_alloc ?_ _)); exact BK202.out) hkp (fun hs_ => Or.elim hs_ (fun e_ => (fun e_ => (Kd.Q_ne HO_203002.out BK202.out (by decide)) e_) e_) (fun e_ => (fun e_ => (Kd.R_ne HO_203003.out BK202.out (by decide)) e_) e_))); have n6_ := Aside0.mk (hb); clear HO_189002; clear HO_189003; clear HO_203002; clear HO_203003; clear BK188; clear BK202; clear HB; have HO_189002 := n0_; have HO_189003 := n1_; have HO_203002 := n2_; have HO_203003 := n3_; have BK188 := n4_; have BK202 := n5_; have HB := n6_; clear n0_ n1_ n2_ n3_ n4_ n5_ n6_; (try clear hb); (try clear hkp); (try clear hy0); (try clear hy1); have hcz131_0 : w130.cell? ⟨gb202, 0, none⟩ = some (.int .i64 t192) := (blk_cell BK202.out 0).trans rfl; have hcz131_1 : w130.cell? ⟨gb202, 1, none⟩ = some (.int .i64 t193) := (blk_cell BK202.out 1).trans rfl; have hcz131_2 : w130.cell? ⟨gb202, 2, none⟩ = some (.slice Ao22 t194.length co22) := (blk_cell BK202.out 2).trans rfl; have hcz131_3 : w130.cell? ⟨gb202, 3, none⟩ = some (.slice Ao23 t197.length co23) := (blk_cell BK202.out 3).trans rfl; have hfz131_0 := blk_frozen BK202.out 0; have hfz131_1 := blk_frozen BK202.out 1; have hfz131_2 := blk_frozen BK202.out 2; have hfz131_3 := blk_frozen BK202.out 3) | ((with_reducible refine gate_callee (f := 20) rfl ?_); refine goesL_ (some 83) rfl rfl Try.func20 (by kernel_rfl) rfl #[.agg #[.int .i64 t192, .int .i64 t193, .slice Ao22 t212.length co22, .slice Ao23 t213.length co23], .int .i64 1] rfl (by (try simp only [List.map_toArray, List.map_cons, List.map_nil]); first | done | (rw [show t212.length = t194.length from (Kd.Q_reads' HO_203002.out).1.symm, show t213.length = t197.length from (Kd.R_reads' HO_203003.out).1.symm] <;> rfl) | rfl | (simp only [List.length_drop, List.length_take]; rfl)) ?_; (with_reducible refine (laws_heldHFrame.calls kj43 t192 t193 _ _ t212 _ _ t213 1 t214 _ ?side1 ?side2 ?side3 ?side4 A66.out).mono ?_); (case side1 => repeat (first | exact (Kd.Q_reads' HO_203002.out).2.2 | (with_reducible refine Kd.C_alloc ?_ _) | (with_reducible refine Kd.C_drewN ?_ _) | (with_reducible refine Kd.C_drew ?_))); (case side2 => rw [show t212.length = t194.length from (Kd.Q_reads' HO_203002.out).1.symm]; exact (Kd.Q_reads' HO_203002.out).2.1); (case side3 => repeat (first | exact (Kd.R_reads' HO_203003.out).2.2 | (with_reducible refine Kd.C_alloc ?_ _) | (with_reducible refine Kd.C_drewN ?_ _) | (with_reducible refine Kd.C_drew ?_))); (case side4 => rw [show t213.length = t197.length from (Kd.R_reads' HO_203003.out).1.symm]; exact (Kd.R_reads' HO_203003.out).2.1); rintro e w132 ⟨rfl, hb⟩; refine ⟨_, rfl, ?_⟩; have n0_ := Aside0.mk (Kd.Q_below (by (with_reducible repeat (first | apply Kd.Q_alloc | apply Kd.Q_drewN | apply Kd.Q_drew)); exact HO_189002.out) hb); have n1_ := Aside0.mk (Kd.R_below (by (with_reducible repeat (first | apply Kd.R_alloc | apply Kd.R_drewN | apply Kd.R_drew)); exact HO_189003.out) hb); have n2_ := Aside0.mk (Kd.Q_below (by (with_reducible repeat (first | apply Kd.Q_alloc | apply Kd.Q_drewN | apply Kd.Q_drew)); exact HO_203002.out) hb); have n3_ := Aside0.mk (Kd.R_below (by (with_reducible repeat (first | apply Kd.R_alloc | apply Kd.R_drewN | apply Kd.R_drew)); exact HO_203003.out) hb); have n4_ := Aside0.mk (blk_below (g := gb188) (o := .cells #[.int .i64 t178, .int .i64 t179, .slice Ao14 t180.length co14, .slice Ao15 t183.length co15] 25 (0, 0)) (by (with_reducible repeat (first | refine blk_drewN ?_ _ | refine blk_drew ?_ | refine blk_alloc ?_ _)); exact BK188.out) hb); have n5_ := Aside0.mk (blk_below (g := gb202) (o := .cells #[.int .i64 t192, .int .i64 t193, .slice Ao22 t194.length co22, .slice Ao23 t197.length co23] 25 (0, 0)) (by (with_reducible repeat (first | refine blk_drewN ?_ _ | refine blk_drew ?_ | refine blk_alloc ?_ _)); exact BK202.out) hb); have n6_ := Aside0.mk (below_step (by repeat (first | (with_reducible first | exact HB.out | apply below_alloc | apply pw_below_drewN | apply below_drew1 | refine below_set ?_ GE188.out | refine below_set ?_ GE202.out) | exact HB.out)) hb); clear HO_189002; clear HO_189003; clear HO_203002; clear HO_203003; clear BK188; clear BK202; clear HB; have HO_189002 := n0_; have HO_189003 := n1_; have HO_203002 := n2_; have HO_203003 := n3_; have BK188 := n4_; have BK202 := n5_; have HB := n6_; clear n0_ n1_ n2_ n3_ n4_ n5_ n6_; (try clear hb); (try clear hb2); (try clear hk); (try clear hi)))
                      go_ret
                      exact ⟨by first | rfl | (simp [errW_none, errW_some] <;> rfl) | (simp [*, errW_none, errW_some] <;> rfl), by repeat (first | (with_reducible first | exact HB.out | apply below_alloc | apply pw_below_drewN | apply below_drew1 | refine below_set ?_ GE188.out | refine below_set ?_ GE202.out) | exact HB.out)⟩
          · replace c42 := Bool.eq_false_iff.mpr c42
            subst c42
            have H1 : (some false) = some r := by rw [if_neg (show ¬ (false = true) by decide)] at H; exact H
            clear H
            have H := H1
            clear H1
            obtain rfl := Option.some.inj H
            go_wp2_with (first | ((with_reducible refine gate_callee (f := 14) rfl ?_); refine goesL_ (some 54) rfl rfl Try.func14 (by kernel_rfl) rfl #[.slice A0 l0.length c0] rfl (by (try simp only [List.map_toArray, List.map_cons, List.map_nil]); first | done | rfl | (simp only [List.length_drop, List.length_take]; rfl)) ?_; (with_reducible refine (laws_toByteS.calls kj7 _ _ l0 t204 _ ?side1 ?side2 A40.out).mono ?_); (case side1 => repeat (first | exact (Kd.C_below HR0.out HB.out) | (with_reducible refine Kd.C_alloc ?_ _) | (with_reducible refine Kd.C_drewN ?_ _) | (with_reducible refine Kd.C_drew ?_))); (case side2 => exact HC0.out); rintro e w133 ⟨v205, rfl, ho0, hb⟩; refine ⟨_, rfl, ?_⟩; have n0_ := Aside0.mk (Kd.R_elder' (by (with_reducible repeat (first | apply Kd.R_alloc | apply Kd.R_drewN | apply Kd.R_drew)); exact HO_8.out) (Kd.R_base ho0) hb); have n1_ := Aside0.mk (Kd.Q_elder' (by (with_reducible repeat (first | apply Kd.Q_alloc | apply Kd.Q_drewN | apply Kd.Q_drew)); exact HO_189002.out) (Kd.R_base ho0) hb); have n2_ := Aside0.mk (Kd.R_below (by (with_reducible repeat (first | apply Kd.R_alloc | apply Kd.R_drewN | apply Kd.R_drew)); exact HO_189003.out) hb); have n3_ := Aside0.mk (Kd.Q_elder' (by (with_reducible repeat (first | apply Kd.Q_alloc | apply Kd.Q_drewN | apply Kd.Q_drew)); exact HO_203002.out) (Kd.R_base ho0) hb); have n4_ := Aside0.mk (Kd.R_below (by (with_reducible repeat (first | apply Kd.R_alloc | apply Kd.R_drewN | apply Kd.R_drew)); exact HO_203003.out) hb); have n5_ := Aside0.mk (Kd.R_lower (Kd.R_new' (Kd.R_new' (Kd.R_new' ho0 (Kd.R_lt (by (with_reducible repeat (first | apply Kd.R_alloc | apply Kd.R_drewN | apply Kd.R_drew)); exact HO_8.out))) (Kd.Q_lt (by (with_reducible repeat (first | apply Kd.Q_alloc | apply Kd.Q_drewN | apply Kd.Q_drew)); exact HO_189002.out))) (Kd.Q_lt (by (with_reducible repeat (first | apply Kd.Q_alloc | apply Kd.Q_drewN | apply Kd.Q_drew)); exact HO_203002.out))) (below_size (by repeat (first | (with_reducible first | exact HB.out | apply below_alloc | apply pw_below_drewN | apply below_drew1 | refine below_set ?_ GE188.out | refine below_set ?_ GE202.out) | exact HB.out)))); have n6_ := Aside0.mk (blk_below (g := gb188) (o := .cells #[.int .i64 t178, .int .i64 t179, .slice Ao14 t180.length co14, .slice Ao15 t183.length co15] 25 (0, 0)) (by (with_reducible repeat (first | refine blk_drewN ?_ _ | refine blk_drew ?_ | refine blk_alloc ?_ _)); exact BK188.out) hb); have n7_ := Aside0.mk (blk_below (g := gb202) (o := .cells #[.int .i64 t192, .int .i64 t193, .slice Ao22 t194.length co22, .slice Ao23 t197.length co23] 25 (0, 0)) (by (with_reducible repeat (first | refine blk_drewN ?_ _ | refine blk_drew ?_ | refine blk_alloc ?_ _)); exact BK202.out) hb); have n8_ := Aside0.mk (below_step (by repeat (first | (with_reducible first | exact HB.out | apply below_alloc | apply pw_below_drewN | apply below_drew1 | refine below_set ?_ GE188.out | refine below_set ?_ GE202.out) | exact HB.out)) hb); clear HO_8; clear HO_189002; clear HO_189003; clear HO_203002; clear HO_203003; clear BK188; clear BK202; clear HB; have HO_8 := n0_; have HO_189002 := n1_; have HO_189003 := n2_; have HO_203002 := n3_; have HO_203003 := n4_; have HO206 := n5_; have BK188 := n6_; have BK202 := n7_; have HB := n8_; clear n0_ n1_ n2_ n3_ n4_ n5_ n6_ n7_ n8_; (try clear hb); (try clear hb2); (try clear hk); (try clear hi); (try clear ho0); obtain ⟨Ao134, co134, eo134⟩ := Kd.R_slice HO206.out; subst eo134) | ((with_reducible refine gate_callee (f := 17) rfl ?_); refine goesL_ (some 55) rfl rfl Try.func17 (by kernel_rfl) rfl #[.slice Ao17 t189.length co17, .slice Ao134 t204.length co134] rfl (by (try simp only [List.map_toArray, List.map_cons, List.map_nil]); first | done | rfl | (simp only [List.length_drop, List.length_take]; rfl)) ?_; (with_reducible refine (laws_eqByteS.calls kj7 _ _ t189 _ _ t204 false _ ?side1 ?side2 ?side3 ?side4 A41.out).mono ?_); (case side1 => repeat (first | exact (Kd.R_reads' HO_8.out).2.2 | (with_reducible refine Kd.C_alloc ?_ _) | (with_reducible refine Kd.C_drewN ?_ _) | (with_reducible refine Kd.C_drew ?_))); (case side2 => exact (Kd.R_reads' HO_8.out).2.1); (case side3 => repeat (first | exact (Kd.R_reads' HO206.out).2.2 | (with_reducible refine Kd.C_alloc ?_ _) | (with_reducible refine Kd.C_drewN ?_ _) | (with_reducible refine Kd.C_drew ?_))); (case side4 => exact (Kd.R_reads' HO206.out).2.1); rintro e w' ⟨rfl, ⟨nd, rfl⟩⟩; refine ⟨_, rfl, ?_⟩))
            go_ret
            exact ⟨by first | rfl | (simp [errW_none, errW_some] <;> rfl) | (simp [*, errW_none, errW_some] <;> rfl), by repeat (first | (with_reducible first | exact HB.out | apply below_alloc | apply pw_below_drewN | apply below_drew1 | refine below_set ?_ GE188.out | refine below_set ?_ GE202.out) | exact HB.out)⟩

/-- THE ONE PURE STATEMENT of laws_FnExactReadHyper: yours. -/
def laws_FnExactReadHyper.Pure : Prop := ∀ (l0 : List Int) (a1 : Int), l0.length ≤ maxLen → l0.length * 1 ≤ 140737488351232 → (∀ x ∈ l0, (Lit.int .u8 x).wf = true) → (Lit.int .i64 a1).wf = true → ∃ k, laws_FnExactReadHyper.f k l0 a1 = some true
theorem laws_FnExactReadHyper.walk (P : laws_FnExactReadHyper.Pure) (a0 : Option Addr) (len0 cap0 : Nat) (z0 : List Int) (a1 : Int) (w : World) (w0 : (a0 = none ∧ len0 = 0 ∧ cap0 = 0 ∧ z0 = []) ∨ ∃ x, a0 = some x ∧ len0 ≤ cap0 ∧ cap0 ≤ maxLen ∧ z0.length = cap0 ∧ (∀ i, i < z0.length → w.cell? (x.add i) = some (.int .u8 (z0.getD i 0))) ∧ ∀ n ∈ z0, (Lit.int .u8 n).wf = true) (y0 : len0 * 1 ≤ 140737488351232) (w1 : (Lit.int .i64 a1).wf = true) :
    Calls Try.prog 3 #[.slice a0 len0 cap0, .int .i64 a1] w fun e w' => e = .returned (.bool true) ∧ Below w.heap.size w w' := by
  obtain ⟨l0, rfl, hr0, hm0, hw0, hc0⟩ := ReadsInt.ofRowC w0
  obtain ⟨k, h⟩ := P l0 a1 hm0 y0 hw0 w1
  refine (laws_FnExactReadHyper.calls k _ _ l0 a1 true w (Kd.C_of_reads (d := (0 : Int)) (h1 := fun _ => rfl) hr0) hc0 h).mono ?_
  rintro e w' ⟨rfl, hd⟩
  exact ⟨rfl, hd⟩

end Go.Proofs.Ytkloeccbhjngiaa.PFnExactReadHyper
