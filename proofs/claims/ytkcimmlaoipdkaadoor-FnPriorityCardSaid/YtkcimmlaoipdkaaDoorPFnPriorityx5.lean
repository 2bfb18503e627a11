-- Written by a program of this repo (xprint.py) out of the translation; Lean checks it.
import Derived.Test.YtkcimmlaoipdkaaDoorPFnPriorityx0
import Derived.Test.YtkcimmlaoipdkaaDoorPFnPriorityx1
import Derived.Test.YtkcimmlaoipdkaaDoorPFnPriorityx2
import Derived.Test.YtkcimmlaoipdkaaDoorPFnPriorityx3
import Derived.Test.YtkcimmlaoipdkaaDoorPFnPriorityx4
namespace Go.Proofs.YtkcimmlaoipdkaaDoor.PFnPriority
open Go.RowKit Go.Proofs.YtkcimmlaoipdkaaDoorW.PrintWords Go.Proofs.YtkcimmlaoipdkaaDoorW.PrintLast Go.Proofs.YtkcimmlaoipdkaaDoorW.PrintMore
attribute [local go_sem] max2_int min2_int max_two min_two max_three min_three max_four min_four   -- for this text's walks alone
set_option linter.unusedVariables false
set_option linter.unusedSimpArgs false

/-! ### laws_FnPriority: function 5 -/
mutual
def laws_FnPriority.l0 : Nat → ByteArray → Int → Option (Bool)
  | 0, _, _ => none
  | k + 1, x3, x4 => if x4 < 8 then (laws_FnPriority.l1 k x3 x4 0) else ((impl_ReadPriority.f x3).bind fun bt168 => ((spec_ReadPriority.f k x3).bind fun bt170 => (if bt168.1 = bt170.1 then (if (bt168.2 == bt170.2) = true then ((impl_PriorityText.f k 8 false).bind fun t172 => (if t172.toList = ([] : List UInt8) then ((impl_PriorityText.f k (-1) true).bind fun t173 => (some (t173.toList == ([] : List UInt8)))) else (some false))) else (some false)) else (some false))))
def laws_FnPriority.l1 : Nat → ByteArray → Int → Int → Option (Bool)
  | 0, _, _, _ => none
  | k + 1, x3, x4, x5 => if x5 < 2 then ((impl_PriorityText.f k x4 (x5 == 1)).bind fun t163 => (if t163.toList = ([] : List UInt8) then (some false) else ((impl_ReadPriority.f t163).bind fun bt164 => (if bt164.1 = x4 then (laws_FnPriority.j2 k x3 x4 x5 t163 (bt164.2 != (x5 == 1))) else (laws_FnPriority.j2 k x3 x4 x5 t163 true))))) else (laws_FnPriority.l0 k x3 (wrap64 (x4 + 1)))
def laws_FnPriority.j2 : Nat → ByteArray → Int → Int → ByteArray → Bool → Option (Bool)
  | 0, _, _, _, _, _ => none
  | k + 1, x3, x4, x5, x6, x45 => if x45 = true then (some false) else (if (wrap64 ((wrap64 ((x3.size : Int) + (x6.size : Int))) + 8)) ≤ 1024 then (if x3.size + 8 ≤ 9223372036854775807 then (if (x3 ++ (⟨#[44, 32, 105, 61, 63, 48, 32, 44]⟩ : ByteArray)).size + x6.size ≤ 9223372036854775807 then ((impl_ReadPriority.f ((x3 ++ (⟨#[44, 32, 105, 61, 63, 48, 32, 44]⟩ : ByteArray)) ++ x6)).bind fun bt166 => (if bt166.1 = x4 then (if (bt166.2 != (x5 == 1)) = true then (some false) else (laws_FnPriority.l1 k x3 x4 (wrap64 (x5 + 1)))) else (some false))) else (none)) else (none)) else (laws_FnPriority.l1 k x3 x4 (wrap64 (x5 + 1))))
end
def laws_FnPriority.f (k : Nat) (l0 : List Int) : Option (Bool) := if (l0.length : Int) > 1048576 then (some true) else ((spec_DrawReadPriority.f k l0).bind fun t162 => (laws_FnPriority.l0 k t162 0))
theorem laws_FnPriority.mono_l : ∀ k, (∀ y0 y1, LeO (laws_FnPriority.l0 k y0 y1) (laws_FnPriority.l0 (k + 1) y0 y1)) ∧ (∀ y0 y1 y2, LeO (laws_FnPriority.l1 k y0 y1 y2) (laws_FnPriority.l1 (k + 1) y0 y1 y2)) ∧ (∀ y0 y1 y2 y3 y4, LeO (laws_FnPriority.j2 k y0 y1 y2 y3 y4) (laws_FnPriority.j2 (k + 1) y0 y1 y2 y3 y4))
  | 0 => ⟨fun _ _ r h => by simp [laws_FnPriority.l0] at h, fun _ _ _ r h => by simp [laws_FnPriority.l1] at h, fun _ _ _ _ _ r h => by simp [laws_FnPriority.j2] at h⟩
  | k + 1 => by
    obtain ⟨ih0, ih1, ih2⟩ := laws_FnPriority.mono_l k
    refine ⟨?_, ?_, ?_⟩
    · intro y0 y1
      unfold laws_FnPriority.l0
      repeat' first
      | (with_reducible exact ih0 _ _)
      | (with_reducible exact ih1 _ _ _)
      | (with_reducible exact ih2 _ _ _ _ _)
      | (with_reducible exact impl_PriorityText.mono _ _ _)
      | (with_reducible exact spec_DrawReadPriority.mono _ _)
      | (with_reducible exact spec_ReadPriority.mono _ _)
      | (with_reducible exact LeO.refl _)
      | (with_reducible exact LeO.none _)
      | (with_reducible refine LeO.ite ?_ ?_)
      | (with_reducible refine LeO.bind ?_ (fun _ => ?_))
      | exact ih0 _ _
      | exact ih1 _ _ _
      | exact ih2 _ _ _ _ _
      | exact impl_PriorityText.mono _ _ _
      | exact spec_DrawReadPriority.mono _ _
      | exact spec_ReadPriority.mono _ _
      | exact LeO.none _
      | refine LeO.ite ?_ ?_
      | refine LeO.bind ?_ (fun _ => ?_)
    · intro y0 y1 y2
      unfold laws_FnPriority.l1
      repeat' first
      | (with_reducible exact ih0 _ _)
      | (with_reducible exact ih1 _ _ _)
      | (with_reducible exact ih2 _ _ _ _ _)
      | (with_reducible exact impl_PriorityText.mono _ _ _)
      | (with_reducible exact spec_DrawReadPriority.mono _ _)
      | (with_reducible exact spec_ReadPriority.mono _ _)
      | (with_reducible exact LeO.refl _)
      | (with_reducible exact LeO.none _)
      | (with_reducible refine LeO.ite ?_ ?_)
      | (with_reducible refine LeO.bind ?_ (fun _ => ?_))
      | exact ih0 _ _
      | exact ih1 _ _ _
      | exact ih2 _ _ _ _ _
      | exact impl_PriorityText.mono _ _ _
      | exact spec_DrawReadPriority.mono _ _
      | exact spec_ReadPriority.mono _ _
      | exact LeO.none _
      | refine LeO.ite ?_ ?_
      | refine LeO.bind ?_ (fun _ => ?_)
    · intro y0 y1 y2 y3 y4
      unfold laws_FnPriority.j2
      repeat' first
      | (with_reducible exact ih0 _ _)
      | (with_reducible exact ih1 _ _ _)
      | (with_reducible exact ih2 _ _ _ _ _)
      | (with_reducible exact impl_PriorityText.mono _ _ _)
      | (with_reducible exact spec_DrawReadPriority.mono _ _)
      | (with_reducible exact spec_ReadPriority.mono _ _)
      | (with_reducible exact LeO.refl _)
      | (with_reducible exact LeO.none _)
      | (with_reducible refine LeO.ite ?_ ?_)
      | (with_reducible refine LeO.bind ?_ (fun _ => ?_))
      | exact ih0 _ _
      | exact ih1 _ _ _
      | exact ih2 _ _ _ _ _
      | exact impl_PriorityText.mono _ _ _
      | exact spec_DrawReadPriority.mono _ _
      | exact spec_ReadPriority.mono _ _
      | exact LeO.none _
      | refine LeO.ite ?_ ?_
      | refine LeO.bind ?_ (fun _ => ?_)
theorem laws_FnPriority.mono : ∀ a0 k, LeO (laws_FnPriority.f k a0) (laws_FnPriority.f (k + 1) a0) := by
  intro a0 k
  obtain ⟨ih0, ih1, ih2⟩ := laws_FnPriority.mono_l k
  unfold laws_FnPriority.f
  repeat' first
      | (with_reducible exact ih0 _ _)
      | (with_reducible exact ih1 _ _ _)
      | (with_reducible exact ih2 _ _ _ _ _)
      | (with_reducible exact impl_PriorityText.mono _ _ _)
      | (with_reducible exact spec_DrawReadPriority.mono _ _)
      | (with_reducible exact spec_ReadPriority.mono _ _)
      | (with_reducible exact LeO.refl _)
      | (with_reducible exact LeO.none _)
      | (with_reducible refine LeO.ite ?_ ?_)
      | (with_reducible refine LeO.bind ?_ (fun _ => ?_))
      | exact ih0 _ _
      | exact ih1 _ _ _
      | exact ih2 _ _ _ _ _
      | exact impl_PriorityText.mono _ _ _
      | exact spec_DrawReadPriority.mono _ _
      | exact spec_ReadPriority.mono _ _
      | exact LeO.none _
      | refine LeO.ite ?_ ?_
      | refine LeO.bind ?_ (fun _ => ?_)
set_option maxHeartbeats 8000000 in
set_option maxRecDepth 100000 in
theorem laws_FnPriority.calls (k : Nat) (A0 : Option Addr) (c0 : Nat) (l0 : List Int) (r : Bool) (w : World) (hr0 : Kd.C (Kd.int .u8) w A0 l0.length l0) (hc0 : l0.length ≤ c0) (h : laws_FnPriority.f k l0 = some r) :
    Calls Tryd.prog 5 #[.slice A0 l0.length c0] w fun e w' => e = .returned (.bool r) ∧ Below w.heap.size w w' := by
  have HR0 := Aside0.mk hr0
  have HC0 := Aside0.mk hc0
  clear hr0 hc0
  have HB := Aside0.mk (Below.refl w.heap.size w)
  have H : (if (l0.length : Int) > 1048576 then (some true) else ((spec_DrawReadPriority.f k l0).bind fun t162 => (laws_FnPriority.l0 k t162 0))) = some r := h
  clear h
  by_cases c2 : (l0.length : Int) > 1048576
  · rw [if_pos c2] at H
    have c2b0 : decide (1048576 < (l0.length : Int)) = true := decide_eq_true c2
    have c2b1 : decide (1048576 < l0.length) = true := decide_eq_true (by omega)
    clear c2
    obtain rfl := Option.some.inj H
    go_enter Tryd.func5, Tryd.ntmps5
    go_wp2
    go_ret
    exact ⟨by first | rfl | (simp [errW_none, errW_some] <;> rfl) | (simp [*, errW_none, errW_some] <;> rfl), by repeat (first | (with_reducible first | exact HB.out | apply below_alloc | apply pw_below_drewN | apply below_drew1) | exact HB.out)⟩
  · rw [if_neg c2] at H
    have c2b0 : decide (1048576 < (l0.length : Int)) = false := decide_eq_false c2
    have c2b1 : decide (1048576 < l0.length) = false := decide_eq_false (by omega)
    clear c2
    replace H := Option.bind_eq_some_iff.mp H
    obtain ⟨t162, A30, H⟩ := H
    replace H : (laws_FnPriority.l0 k t162 0) = some r := H
    have A3 := Aside0.mk A30
    clear A30
    have H' := Aside0.mk H
    clear H
    go_enter Tryd.func5, Tryd.ntmps5
    go_wp2_with (first | ((with_reducible refine gate_callee (f := 15) rfl ?_); refine goesL_ (some 17) rfl rfl Tryd.func15 (by kernel_rfl) rfl #[.slice A0 l0.length c0] rfl (by (try simp only [List.map_toArray, List.map_cons, List.map_nil]); first | done | rfl | (simp only [List.length_drop, List.length_take]; rfl)) ?_; (with_reducible refine (spec_DrawReadPriority.calls k _ _ l0 t162 _ ?side1 ?side2 A3.out).mono ?_); (case side1 => repeat (first | exact HR0.out | (with_reducible refine Kd.C_alloc ?_ _) | (with_reducible refine Kd.C_drewN ?_ _) | (with_reducible refine Kd.C_drew ?_))); (case side2 => exact HC0.out); rintro e w4 ⟨rfl, hb⟩; refine ⟨_, rfl, ?_⟩; have n0_ := Aside0.mk (below_step (by repeat (first | (with_reducible first | exact HB.out | apply below_alloc | apply pw_below_drewN | apply below_drew1) | exact HB.out)) hb); clear HB; have HB := n0_; clear n0_; (try clear hb); (try clear hb2); (try clear hk); (try clear hi)))
    go_loopg [4] k (fun kq v4 w' => ∃ (x4_1 : Int), v4 = .int .i64 x4_1 ∧ Aside0 (laws_FnPriority.l0 kq t162 x4_1 = some r) ∧ Aside0 (kq ≤ k) ∧ Aside0 (Below w.heap.size w w'))
    case atStart => exact ⟨(0), (by first | rfl | (simp; done) | (simp [*]; done)), H', ⟨Nat.le_refl _⟩, ⟨by repeat (first | (with_reducible first | exact HB.out | apply below_alloc | apply pw_below_drewN | apply below_drew1) | exact HB.out)⟩⟩
    case round =>
      clear H'
      try clear c1
      try clear c2
      try clear c2b0
      try clear c2b1
      try clear p2
      obtain ⟨x4_1, rfl, HA, HK1, HB⟩ := hrel
      cases gk with
      | zero => exact absurd HA.out (by simp [laws_FnPriority.l0])
      | succ k1 =>
        have H := HA.out
        clear HA
        simp only [laws_FnPriority.l0] at H
        by_cases c5 : x4_1 < 8
        · rw [if_pos c5] at H
          have c5b0 : decide (x4_1 < 8) = true := decide_eq_true c5
          clear c5
          have H' := Aside0.mk H
          clear H
          go_wp2
          go_loopg [5] k1 (fun kq v5 w' => ∃ (x5_2 : Int), v5 = .int .i64 x5_2 ∧ Aside0 (laws_FnPriority.l1 kq t162 x4_1 x5_2 = some r) ∧ Aside0 (kq ≤ k1) ∧ Aside0 (Below w.heap.size w w'))
          case atStart => exact ⟨(0), (by first | rfl | (simp; done) | (simp [*]; done)), H', ⟨Nat.le_refl _⟩, ⟨by repeat (first | (with_reducible first | exact HB.out | apply below_alloc | apply pw_below_drewN | apply below_drew1) | exact HB.out)⟩⟩
          case round =>
            clear H'
            try clear c1
            try clear c2
            try clear c2b0
            try clear c2b1
            try clear p2
            try clear c5
            try clear c5b0
            try clear p2
            obtain ⟨x5_2, rfl, HA, HK2, HB⟩ := hrel
            cases gk with
            | zero => exact absurd HA.out (by simp [laws_FnPriority.l1])
            | succ k2 =>
              have H := HA.out
              clear HA
              simp only [laws_FnPriority.l1] at H
              by_cases c6 : x5_2 < 2
              · rw [if_pos c6] at H
                have c6b0 : decide (x5_2 < 2) = true := decide_eq_true c6
                clear c6
                replace H := Option.bind_eq_some_iff.mp H
                obtain ⟨t163, A70, H⟩ := H
                replace H : (if t163.toList = ([] : List UInt8) then (some false) else ((impl_ReadPriority.f t163).bind fun bt164 => (if bt164.1 = x4_1 then (laws_FnPriority.j2 k2 t162 x4_1 x5_2 t163 (bt164.2 != (x5_2 == 1))) else (laws_FnPriority.j2 k2 t162 x4_1 x5_2 t163 true)))) = some r := H
                have A7 := Aside0.mk A70
                clear A70
                by_cases c8 : t163.toList = ([] : List UInt8)
                · rw [if_pos c8] at H
                  have c8b0 : (t163.toList == ([] : List UInt8)) = true := beq_iff_eq.mpr c8
                  have c8b1 : (t163.toList != ([] : List UInt8)) = false := bne_eq_false_iff_eq.mpr c8
                  clear c8
                  obtain rfl := Option.some.inj H
                  go_wp2_with (first | ((with_reducible refine gate_callee (f := 12) rfl ?_); refine goesL_ (some 29) rfl rfl Tryd.func12 (by kernel_rfl) rfl #[.int .i64 x4_1, .bool (x5_2 == 1)] rfl (by (try simp only [List.map_toArray, List.map_cons, List.map_nil]); first | done | rfl | (simp only [List.length_drop, List.length_take]; rfl)) ?_; (with_reducible refine (impl_PriorityText.calls k2 x4_1 (x5_2 == 1) t163 _ A7.out).mono ?_); rintro e w' ⟨rfl, ⟨nd, rfl⟩⟩; refine ⟨_, rfl, ?_⟩))
                  go_ret
                  exact ⟨by first | rfl | (simp [errW_none, errW_some] <;> rfl) | (simp [*, errW_none, errW_some] <;> rfl), by repeat (first | (with_reducible first | exact HB.out | apply below_alloc | apply pw_below_drewN | apply below_drew1) | exact HB.out)⟩
                · rw [if_neg c8] at H
                  have c8b0 : (t163.toList == ([] : List UInt8)) = false := beq_eq_false_iff_ne.mpr c8
                  have c8b1 : (t163.toList != ([] : List UInt8)) = true := bne_iff_ne.mpr c8
                  replace H := Option.bind_eq_some_iff.mp H
                  obtain ⟨⟨t164, t165⟩, A90, H⟩ := H
                  replace H : (if t164 = x4_1 then (laws_FnPriority.j2 k2 t162 x4_1 x5_2 t163 (t165 != (x5_2 == 1))) else (laws_FnPriority.j2 k2 t162 x4_1 x5_2 t163 true)) = some r := H
                  have A9 := Aside0.mk A90
                  clear A90
                  have HC10 := Aside0.mk H
                  clear H
                  go_upto_region 14 with (first | ((with_reducible refine gate_callee (f := 12) rfl ?_); refine goesL_ (some 29) rfl rfl Tryd.func12 (by kernel_rfl) rfl #[.int .i64 x4_1, .bool (x5_2 == 1)] rfl (by (try simp only [List.map_toArray, List.map_cons, List.map_nil]); first | done | rfl | (simp only [List.length_drop, List.length_take]; rfl)) ?_; (with_reducible refine (impl_PriorityText.calls k2 x4_1 (x5_2 == 1) t163 _ A7.out).mono ?_); rintro e w' ⟨rfl, ⟨nd, rfl⟩⟩; refine ⟨_, rfl, ?_⟩) | ((with_reducible refine gate_callee (f := 14) rfl ?_); refine goesL_ (some 34) rfl rfl Tryd.func14 (by kernel_rfl) rfl #[.string t163] rfl (by (try simp only [List.map_toArray, List.map_cons, List.map_nil]); first | done | rfl | (simp only [List.length_drop, List.length_take]; rfl)) ?_; (with_reducible refine (impl_ReadPriority.calls t163 t164 t165 _ A9.out).mono ?_); rintro e w11 ⟨rfl, hb⟩; refine ⟨_, rfl, ?_⟩; have n0_ := Aside0.mk (below_step (by repeat (first | (with_reducible first | exact HB.out | apply below_alloc | apply pw_below_drewN | apply below_drew1) | exact HB.out)) hb); clear HB; have HB := n0_; clear n0_; (try clear hb); (try clear hb2); (try clear hk); (try clear hi)))
                  (try simp only [Act.put, List.setIfInBounds_toArray, List.set_cons_zero, List.set_cons_succ])
                  go_cut [45] (fun v45 wc => ∃ (kq : Nat) (x45_9 : Bool), v45 = .bool x45_9 ∧ Aside0 (laws_FnPriority.j2 kq t162 x4_1 x5_2 t163 x45_9 = some r) ∧ Aside0 (kq ≤ k2) ∧ Aside0 (Below w.heap.size w wc))
                  case first =>
                    have H := HC10.out
                    clear HC10
                    by_cases c12 : t164 = x4_1
                    · rw [if_pos c12] at H
                      have c12b0 : (t164 == x4_1) = true := beq_iff_eq.mpr c12
                      have c12b1 : (t164 != x4_1) = false := bne_eq_false_iff_eq.mpr c12
                      clear c12
                      (first | rw [c12b0] | (simp only [i64_w, i32_w]; rw [c12b0]) | skip)
                      have H' := Aside0.mk H
                      clear H
                      go_wp2
                      go_meet
                      case rel => exact ⟨_, ((t165 != (x5_2 == 1))), (by first | rfl | (simp; done) | (simp [*]; done)), H', ⟨by have := HK1.out; have := HK2.out; first | omega | exact Nat.le_refl _⟩, ⟨by repeat (first | (with_reducible first | exact HB.out | apply below_alloc | apply pw_below_drewN | apply below_drew1) | exact HB.out)⟩⟩
                    · rw [if_neg c12] at H
                      have c12b0 : (t164 == x4_1) = false := beq_eq_false_iff_ne.mpr c12
                      have c12b1 : (t164 != x4_1) = true := bne_iff_ne.mpr c12
                      (first | rw [c12b0] | (simp only [i64_w, i32_w]; rw [c12b0]) | skip)
                      have H' := Aside0.mk H
                      clear H
                      go_wp2
                      go_meet
                      case rel => exact ⟨_, (true), (by first | rfl | (simp; done) | (simp [*]; done)), H', ⟨by have := HK1.out; have := HK2.out; first | omega | exact Nat.le_refl _⟩, ⟨by repeat (first | (with_reducible first | exact HB.out | apply below_alloc | apply pw_below_drewN | apply below_drew1) | exact HB.out)⟩⟩
                  case rest =>
                    clear HC10
                    try clear c1
                    try clear c2
                    try clear c2b0
                    try clear c2b1
                    try clear p2
                    try clear c5
                    try clear c5b0
                    try clear c6
                    try clear c6b0
                    try clear c8
                    try clear c8b0
                    try clear c8b1
                    try clear c12
                    try clear c12b0
                    try clear c12b1
                    try clear p2
                    obtain ⟨kq, x45_9, rfl, HA, HJ9, HB⟩ := hcut
                    cases kq with
                    | zero => exact absurd HA.out (by simp [laws_FnPriority.j2])
                    | succ kj9 =>
                      have H := HA.out
                      clear HA
                      simp only [laws_FnPriority.j2] at H
                      by_cases c13 : x45_9 = true
                      · subst c13
                        have H1 : (some false) = some r := by rw [if_pos rfl] at H; exact H
                        clear H
                        have H := H1
                        clear H1
                        obtain rfl := Option.some.inj H
                        go_wp2
                        go_ret
                        exact ⟨by first | rfl | (simp [errW_none, errW_some] <;> rfl) | (simp [*, errW_none, errW_some] <;> rfl), by repeat (first | (with_reducible first | exact HB.out | apply below_alloc | apply pw_below_drewN | apply below_drew1) | exact HB.out)⟩
                      · replace c13 := Bool.eq_false_iff.mpr c13
                        subst c13
                        have H1 : (if (wrap64 ((wrap64 ((t162.size : Int) + (t163.size : Int))) + 8)) ≤ 1024 then (if t162.size + 8 ≤ 9223372036854775807 then (if (t162 ++ (⟨#[44, 32, 105, 61, 63, 48, 32, 44]⟩ : ByteArray)).size + t163.size ≤ 9223372036854775807 then ((impl_ReadPriority.f ((t162 ++ (⟨#[44, 32, 105, 61, 63, 48, 32, 44]⟩ : ByteArray)) ++ t163)).bind fun bt166 => (if bt166.1 = x4_1 then (if (bt166.2 != (x5_2 == 1)) = true then (some false) else (laws_FnPriority.l1 kj9 t162 x4_1 (wrap64 (x5_2 + 1)))) else (some false))) else (none)) else (none)) else (laws_FnPriority.l1 kj9 t162 x4_1 (wrap64 (x5_2 + 1)))) = some r := by rw [if_neg (show ¬ (false = true) by decide)] at H; exact H
                        clear H
                        have H := H1
                        clear H1
                        by_cases c14 : (wrap64 ((wrap64 ((t162.size : Int) + (t163.size : Int))) + 8)) ≤ 1024
                        · rw [if_pos c14] at H
                          have c14b0 : decide ((wrap64 ((wrap64 ((t162.size : Int) + (t163.size : Int))) + 8)) ≤ 1024) = true := decide_eq_true c14
                          clear c14
                          by_cases c15 : t162.size + 8 ≤ 9223372036854775807
                          · rw [if_pos c15] at H
                            have c15b0 := eq_true c15
                            have c15b1 : decide (t162.size + 8 ≤ 9223372036854775807) = true := decide_eq_true c15
                            try have c15b2 : (9223372036854775807 < t162.size + 8) = False := eq_false (Nat.not_lt.2 c15)
                            by_cases c16 : (t162 ++ (⟨#[44, 32, 105, 61, 63, 48, 32, 44]⟩ : ByteArray)).size + t163.size ≤ 9223372036854775807
                            · rw [if_pos c16] at H
                              have c16b0 := eq_true c16
                              have c16b1 : decide ((t162 ++ (⟨#[44, 32, 105, 61, 63, 48, 32, 44]⟩ : ByteArray)).size + t163.size ≤ 9223372036854775807) = true := decide_eq_true c16
                              try have c16b2 : (9223372036854775807 < (t162 ++ (⟨#[44, 32, 105, 61, 63, 48, 32, 44]⟩ : ByteArray)).size + t163.size) = False := eq_false (Nat.not_lt.2 c16)
                              replace H := Option.bind_eq_some_iff.mp H
                              obtain ⟨⟨t166, t167⟩, A170, H⟩ := H
                              replace H : (if t166 = x4_1 then (if (t167 != (x5_2 == 1)) = true then (some false) else (laws_FnPriority.l1 kj9 t162 x4_1 (wrap64 (x5_2 + 1)))) else (some false)) = some r := H
                              have A17 := Aside0.mk A170
                              clear A170
                              by_cases c18 : t166 = x4_1
                              · rw [if_pos c18] at H
                                have c18b0 : (t166 == x4_1) = true := beq_iff_eq.mpr c18
                                have c18b1 : (t166 != x4_1) = false := bne_eq_false_iff_eq.mpr c18
                                clear c18
                                by_cases c19 : (t167 != (x5_2 == 1)) = true
                                · rw [if_pos c19] at H
                                  have c19b0 : (t167 != (x5_2 == 1)) = true := c19
                                  (try (have c19b1 : decide (t167 = (x5_2 == 1)) = false := by simpa using c19))
                                  (try (have c19b2 : (t167 == (x5_2 == 1)) = false := by simpa using c19))
                                  (try (have c19b3 : ¬ (t167 = (x5_2 == 1)) := by simpa using c19))
                                  clear c19
                                  obtain rfl := Option.some.inj H
                                  go_wp2_with (first | ((with_reducible refine gate_callee (f := 14) rfl ?_); refine goesL_ (some 58) rfl rfl Tryd.func14 (by kernel_rfl) rfl #[.string ((t162 ++ (⟨#[44, 32, 105, 61, 63, 48, 32, 44]⟩ : ByteArray)) ++ t163)] rfl (by (try simp only [List.map_toArray, List.map_cons, List.map_nil]); first | done | rfl | (simp only [List.length_drop, List.length_take]; rfl)) ?_; (with_reducible refine (impl_ReadPriority.calls ((t162 ++ (⟨#[44, 32, 105, 61, 63, 48, 32, 44]⟩ : ByteArray)) ++ t163) t166 t167 _ A17.out).mono ?_); rintro e w20 ⟨rfl, hb⟩; refine ⟨_, rfl, ?_⟩; have n0_ := Aside0.mk (below_step (by repeat (first | (with_reducible first | exact HB.out | apply below_alloc | apply pw_below_drewN | apply below_drew1) | exact HB.out)) hb); clear HB; have HB := n0_; clear n0_; (try clear hb); (try clear hb2); (try clear hk); (try clear hi)))
                                  go_ret
                                  exact ⟨by first | rfl | (simp [errW_none, errW_some] <;> rfl) | (simp [*, errW_none, errW_some] <;> rfl), by repeat (first | (with_reducible first | exact HB.out | apply below_alloc | apply pw_below_drewN | apply below_drew1) | exact HB.out)⟩
                                · rw [if_neg c19] at H
                                  have c19b0 : (t167 != (x5_2 == 1)) = false := by simpa using c19
                                  (try (have c19b1 : decide (t167 = (x5_2 == 1)) = true := by simpa using c19))
                                  (try (have c19b2 : (t167 == (x5_2 == 1)) = true := by simpa using c19))
                                  clear c19
                                  have H' := Aside0.mk H
                                  clear H
                                  go_wp2_with (first | ((with_reducible refine gate_callee (f := 14) rfl ?_); refine goesL_ (some 58) rfl rfl Tryd.func14 (by kernel_rfl) rfl #[.string ((t162 ++ (⟨#[44, 32, 105, 61, 63, 48, 32, 44]⟩ : ByteArray)) ++ t163)] rfl (by (try simp only [List.map_toArray, List.map_cons, List.map_nil]); first | done | rfl | (simp only [List.length_drop, List.length_take]; rfl)) ?_; (with_reducible refine (impl_ReadPriority.calls ((t162 ++ (⟨#[44, 32, 105, 61, 63, 48, 32, 44]⟩ : ByteArray)) ++ t163) t166 t167 _ A17.out).mono ?_); rintro e w21 ⟨rfl, hb⟩; refine ⟨_, rfl, ?_⟩; have n0_ := Aside0.mk (below_step (by repeat (first | (with_reducible first | exact HB.out | apply below_alloc | apply pw_below_drewN | apply below_drew1) | exact HB.out)) hb); clear HB; have HB := n0_; clear n0_; (try clear hb); (try clear hb2); (try clear hk); (try clear hi)))
                                  go_roundg kj9
                                  case measure => have := HK1.out; have := HK2.out; have := HJ9.out; omega
                                  case rel => exact ⟨(wrap64 (x5_2 + 1)), (by first | rfl | (simp; done) | (simp [*]; done)), H', ⟨by have := HK1.out; have := HK2.out; have := HJ9.out; omega⟩, ⟨by repeat (first | (with_reducible first | exact HB.out | apply below_alloc | apply pw_below_drewN | apply below_drew1) | exact HB.out)⟩⟩
                              · rw [if_neg c18] at H
                                have c18b0 : (t166 == x4_1) = false := beq_eq_false_iff_ne.mpr c18
                                have c18b1 : (t166 != x4_1) = true := bne_iff_ne.mpr c18
                                obtain rfl := Option.some.inj H
                                go_wp2_with (first | ((with_reducible refine gate_callee (f := 14) rfl ?_); refine goesL_ (some 58) rfl rfl Tryd.func14 (by kernel_rfl) rfl #[.string ((t162 ++ (⟨#[44, 32, 105, 61, 63, 48, 32, 44]⟩ : ByteArray)) ++ t163)] rfl (by (try simp only [List.map_toArray, List.map_cons, List.map_nil]); first | done | rfl | (simp only [List.length_drop, List.length_take]; rfl)) ?_; (with_reducible refine (impl_ReadPriority.calls ((t162 ++ (⟨#[44, 32, 105, 61, 63, 48, 32, 44]⟩ : ByteArray)) ++ t163) t166 t167 _ A17.out).mono ?_); rintro e w22 ⟨rfl, hb⟩; refine ⟨_, rfl, ?_⟩; have n0_ := Aside0.mk (below_step (by repeat (first | (with_reducible first | exact HB.out | apply below_alloc | apply pw_below_drewN | apply below_drew1) | exact HB.out)) hb); clear HB; have HB := n0_; clear n0_; (try clear hb); (try clear hb2); (try clear hk); (try clear hi)))
                                go_ret
                                exact ⟨by first | rfl | (simp [errW_none, errW_some] <;> rfl) | (simp [*, errW_none, errW_some] <;> rfl), by repeat (first | (with_reducible first | exact HB.out | apply below_alloc | apply pw_below_drewN | apply below_drew1) | exact HB.out)⟩
                            · rw [if_neg c16] at H
                              exact absurd H (by simp)
                          · rw [if_neg c15] at H
                            exact absurd H (by simp)
                        · rw [if_neg c14] at H
                          have c14b0 : decide ((wrap64 ((wrap64 ((t162.size : Int) + (t163.size : Int))) + 8)) ≤ 1024) = false := decide_eq_false c14
                          clear c14
                          have H' := Aside0.mk H
                          clear H
                          go_wp2
                          go_roundg kj9
                          case measure => have := HK1.out; have := HK2.out; have := HJ9.out; omega
                          case rel => exact ⟨(wrap64 (x5_2 + 1)), (by first | rfl | (simp; done) | (simp [*]; done)), H', ⟨by have := HK1.out; have := HK2.out; have := HJ9.out; omega⟩, ⟨by repeat (first | (with_reducible first | exact HB.out | apply below_alloc | apply pw_below_drewN | apply below_drew1) | exact HB.out)⟩⟩
              · rw [if_neg c6] at H
                have c6b0 : decide (x5_2 < 2) = false := decide_eq_false c6
                clear c6
                have H' := Aside0.mk H
                clear H
                go_wp2
                go_roundg k2
                case measure => have := HK1.out; have := HK2.out; omega
                case rel => exact ⟨(wrap64 (x4_1 + 1)), (by first | rfl | (simp; done) | (simp [*]; done)), H', ⟨by have := HK1.out; have := HK2.out; omega⟩, ⟨by repeat (first | (with_reducible first | exact HB.out | apply below_alloc | apply pw_below_drewN | apply below_drew1) | exact HB.out)⟩⟩
        · rw [if_neg c5] at H
          have c5b0 : decide (x4_1 < 8) = false := decide_eq_false c5
          clear c5
          replace H := Option.bind_eq_some_iff.mp H
          obtain ⟨⟨t168, t169⟩, A230, H⟩ := H
          replace H : ((spec_ReadPriority.f k1 t162).bind fun bt170 => (if t168 = bt170.1 then (if (t169 == bt170.2) = true then ((impl_PriorityText.f k1 8 false).bind fun t172 => (if t172.toList = ([] : List UInt8) then ((impl_PriorityText.f k1 (-1) true).bind fun t173 => (some (t173.toList == ([] : List UInt8)))) else (some false))) else (some false)) else (some false))) = some r := H
          have A23 := Aside0.mk A230
          clear A230
          replace H := Option.bind_eq_some_iff.mp H
          obtain ⟨⟨t170, t171⟩, A240, H⟩ := H
          replace H : (if t168 = t170 then (if (t169 == t171) = true then ((impl_PriorityText.f k1 8 false).bind fun t172 => (if t172.toList = ([] : List UInt8) then ((impl_PriorityText.f k1 (-1) true).bind fun t173 => (some (t173.toList == ([] : List UInt8)))) else (some false))) else (some false)) else (some false)) = some r := H
          have A24 := Aside0.mk A240
          clear A240
          by_cases c25 : t168 = t170
          · rw [if_pos c25] at H
            have c25b0 : (t168 == t170) = true := beq_iff_eq.mpr c25
            have c25b1 : (t168 != t170) = false := bne_eq_false_iff_eq.mpr c25
            clear c25
            by_cases c26 : (t169 == t171) = true
            · rw [if_pos c26] at H
              have c26b0 : (t169 == t171) = true := c26
              (try (have c26b1 : decide (t169 = t171) = true := by simpa using c26))
              (try (have c26b2 : (t169 == t171) = true := by simpa using c26))
              clear c26
              replace H := Option.bind_eq_some_iff.mp H
              obtain ⟨t172, A270, H⟩ := H
              replace H : (if t172.toList = ([] : List UInt8) then ((impl_PriorityText.f k1 (-1) true).bind fun t173 => (some (t173.toList == ([] : List UInt8)))) else (some false)) = some r := H
              have A27 := Aside0.mk A270
              clear A270
              by_cases c28 : t172.toList = ([] : List UInt8)
              · rw [if_pos c28] at H
                have c28b0 : (t172.toList == ([] : List UInt8)) = true := beq_iff_eq.mpr c28
                have c28b1 : (t172.toList != ([] : List UInt8)) = false := bne_eq_false_iff_eq.mpr c28
                clear c28
                replace H := Option.bind_eq_some_iff.mp H
                obtain ⟨t173, A290, H⟩ := H
                replace H : (some (t173.toList == ([] : List UInt8))) = some r := H
                have A29 := Aside0.mk A290
                clear A290
                obtain rfl := Option.some.inj H
                go_wp2_with (first | ((with_reducible refine gate_callee (f := 14) rfl ?_); refine goesL_ (some 72) rfl rfl Tryd.func14 (by kernel_rfl) rfl #[.string t162] rfl (by (try simp only [List.map_toArray, List.map_cons, List.map_nil]); first | done | rfl | (simp only [List.length_drop, List.length_take]; rfl)) ?_; (with_reducible refine (impl_ReadPriority.calls t162 t168 t169 _ A23.out).mono ?_); rintro e w30 ⟨rfl, hb⟩; refine ⟨_, rfl, ?_⟩; have n0_ := Aside0.mk (below_step (by repeat (first | (with_reducible first | exact HB.out | apply below_alloc | apply pw_below_drewN | apply below_drew1) | exact HB.out)) hb); clear HB; have HB := n0_; clear n0_; (try clear hb); (try clear hb2); (try clear hk); (try clear hi)) | ((with_reducible refine gate_callee (f := 13) rfl ?_); refine goesL_ (some 77) rfl rfl Tryd.func13 (by kernel_rfl) rfl #[.string t162] rfl (by (try simp only [List.map_toArray, List.map_cons, List.map_nil]); first | done | rfl | (simp only [List.length_drop, List.length_take]; rfl)) ?_; (with_reducible refine (spec_ReadPriority.calls k1 t162 t170 t171 _ A24.out).mono ?_); rintro e w31 ⟨rfl, hb⟩; refine ⟨_, rfl, ?_⟩; have n0_ := Aside0.mk (below_step (by repeat (first | (with_reducible first | exact HB.out | apply below_alloc | apply pw_below_drewN | apply below_drew1) | exact HB.out)) hb); clear HB; have HB := n0_; clear n0_; (try clear hb); (try clear hb2); (try clear hk); (try clear hi)) | (go_at_call 12; (with_reducible refine (impl_PriorityText.calls k1 8 false t172 _ A27.out).mono ?_); rintro e w' ⟨rfl, ⟨nd, rfl⟩⟩) | (go_at_call 12; (with_reducible refine (impl_PriorityText.calls k1 (-1) true t173 _ A29.out).mono ?_); rintro e w' ⟨rfl, ⟨nd, rfl⟩⟩))
                go_ret
                exact ⟨by first | rfl | (simp [errW_none, errW_some] <;> rfl) | (simp [*, errW_none, errW_some] <;> rfl), by repeat (first | (with_reducible first | exact HB.out | apply below_alloc | apply pw_below_drewN | apply below_drew1) | exact HB.out)⟩
              · rw [if_neg c28] at H
                have c28b0 : (t172.toList == ([] : List UInt8)) = false := beq_eq_false_iff_ne.mpr c28
                have c28b1 : (t172.toList != ([] : List UInt8)) = true := bne_iff_ne.mpr c28
                obtain rfl := Option.some.inj H
                go_wp2_with (first | ((with_reducible refine gate_callee (f := 14) rfl ?_); refine goesL_ (some 72) rfl rfl Tryd.func14 (by kernel_rfl) rfl #[.string t162] rfl (by (try simp only [List.map_toArray, List.map_cons, List.map_nil]); first | done | rfl | (simp only [List.length_drop, List.length_take]; rfl)) ?_; (with_reducible refine (impl_ReadPriority.calls t162 t168 t169 _ A23.out).mono ?_); rintro e w32 ⟨rfl, hb⟩; refine ⟨_, rfl, ?_⟩; have n0_ := Aside0.mk (below_step (by repeat (first | (with_reducible first | exact HB.out | apply below_alloc | apply pw_below_drewN | apply below_drew1) | exact HB.out)) hb); clear HB; have HB := n0_; clear n0_; (try clear hb); (try clear hb2); (try clear hk); (try clear hi)) | ((with_reducible refine gate_callee (f := 13) rfl ?_); refine goesL_ (some 77) rfl rfl Tryd.func13 (by kernel_rfl) rfl #[.string t162] rfl (by (try simp only [List.map_toArray, List.map_cons, List.map_nil]); first | done | rfl | (simp only [List.length_drop, List.length_take]; rfl)) ?_; (with_reducible refine (spec_ReadPriority.calls k1 t162 t170 t171 _ A24.out).mono ?_); rintro e w33 ⟨rfl, hb⟩; refine ⟨_, rfl, ?_⟩; have n0_ := Aside0.mk (below_step (by repeat (first | (with_reducible first | exact HB.out | apply below_alloc | apply pw_below_drewN | apply below_drew1) | exact HB.out)) hb); clear HB; have HB := n0_; clear n0_; (try clear hb); (try clear hb2); (try clear hk); (try clear hi)) | (go_at_call 12; (with_reducible refine (impl_PriorityText.calls k1 8 false t172 _ A27.out).mono ?_); rintro e w' ⟨rfl, ⟨nd, rfl⟩⟩))
                go_ret
                exact ⟨by first | rfl | (simp [errW_none, errW_some] <;> rfl) | (simp [*, errW_none, errW_some] <;> rfl), by repeat (first | (with_reducible first | exact HB.out | apply below_alloc | apply pw_below_drewN | apply below_drew1) | exact HB.out)⟩
            · rw [if_neg c26] at H
              have c26b0 : (t169 == t171) = false := by simpa using c26
              (try (have c26b1 : decide (t169 = t171) = false := by simpa using c26))
              (try (have c26b2 : (t169 == t171) = false := by simpa using c26))
              (try (have c26b3 : ¬ (t169 = t171) := by simpa using c26))
              clear c26
              obtain rfl := Option.some.inj H
              go_wp2_with (first | ((with_reducible refine gate_callee (f := 14) rfl ?_); refine goesL_ (some 72) rfl rfl Tryd.func14 (by kernel_rfl) rfl #[.string t162] rfl (by (try simp only [List.map_toArray, List.map_cons, List.map_nil]); first | done | rfl | (simp only [List.length_drop, List.length_take]; rfl)) ?_; (with_reducible refine (impl_ReadPriority.calls t162 t168 t169 _ A23.out).mono ?_); rintro e w34 ⟨rfl, hb⟩; refine ⟨_, rfl, ?_⟩; have n0_ := Aside0.mk (below_step (by repeat (first | (with_reducible first | exact HB.out | apply below_alloc | apply pw_below_drewN | apply below_drew1) | exact HB.out)) hb); clear HB; have HB := n0_; clear n0_; (try clear hb); (try clear hb2); (try clear hk); (try clear hi)) | ((with_reducible refine gate_callee (f := 13) rfl ?_); refine goesL_ (some 77) rfl rfl Tryd.func13 (by kernel_rfl) rfl #[.string t162] rfl (by (try simp only [List.map_toArray, List.map_cons, List.map_nil]); first | done | rfl | (simp only [List.length_drop, List.length_take]; rfl)) ?_; (with_reducible refine (spec_ReadPriority.calls k1 t162 t170 t171 _ A24.out).mono ?_); rintro e w35 ⟨rfl, hb⟩; refine ⟨_, rfl, ?_⟩; have n0_ := Aside0.mk (below_step (by repeat (first | (with_reducible first | exact HB.out | apply below_alloc | apply pw_below_drewN | apply below_drew1) | exact HB.out)) hb); clear HB; have HB := n0_; clear n0_; (try clear hb); (try clear hb2); (try clear hk); (try clear hi)))
              go_ret
              exact ⟨by first | rfl | (simp [errW_none, errW_some] <;> rfl) | (simp [*, errW_none, errW_some] <;> rfl), by repeat (first | (with_reducible first | exact HB.out | apply below_alloc | apply pw_below_drewN | apply below_drew1) | exact HB.out)⟩
          · rw [if_neg c25] at H
            have c25b0 : (t168 == t170) = false := beq_eq_false_iff_ne.mpr c25
            have c25b1 : (t168 != t170) = true := bne_iff_ne.mpr c25
            obtain rfl := Option.some.inj H
            go_wp2_with (first | ((with_reducible refine gate_callee (f := 14) rfl ?_); refine goesL_ (some 72) rfl rfl Tryd.func14 (by kernel_rfl) rfl #[.string t162] rfl (by (try simp only [List.map_toArray, List.map_cons, List.map_nil]); first | done | rfl | (simp only [List.length_drop, List.length_take]; rfl)) ?_; (with_reducible refine (impl_ReadPriority.calls t162 t168 t169 _ A23.out).mono ?_); rintro e w36 ⟨rfl, hb⟩; refine ⟨_, rfl, ?_⟩; have n0_ := Aside0.mk (below_step (by repeat (first | (with_reducible first | exact HB.out | apply below_alloc | apply pw_below_drewN | apply below_drew1) | exact HB.out)) hb); clear HB; have HB := n0_; clear n0_; (try clear hb); (try clear hb2); (try clear hk); (try clear hi)) | ((with_reducible refine gate_callee (f := 13) rfl ?_); refine goesL_ (some 77) rfl rfl Tryd.func13 (by kernel_rfl) rfl #[.string t162] rfl (by (try simp only [List.map_toArray, List.map_cons, List.map_nil]); first | done | rfl | (simp only [List.length_drop, List.length_take]; rfl)) ?_; (with_reducible refine (spec_ReadPriority.calls k1 t162 t170 t171 _ A24.out).mono ?_); rintro e w37 ⟨rfl, hb⟩; refine ⟨_, rfl, ?_⟩; have n0_ := Aside0.mk (below_step (by repeat (first | (with_reducible first | exact HB.out | apply below_alloc | apply pw_below_drewN | apply below_drew1) | exact HB.out)) hb); clear HB; have HB := n0_; clear n0_; (try clear hb); (try clear hb2); (try clear hk); (try clear hi)))
            go_ret
            exact ⟨by first | rfl | (simp [errW_none, errW_some] <;> rfl) | (simp [*, errW_none, errW_some] <;> rfl), by repeat (first | (with_reducible first | exact HB.out | apply below_alloc | apply pw_below_drewN | apply below_drew1) | exact HB.out)⟩

/-- THE ONE PURE STATEMENT of laws_FnPriority: yours. -/
def laws_FnPriority.Pure : Prop := ∀ (l0 : List Int), l0.length ≤ maxLen → l0.length * 1 ≤ 140737488351232 → (∀ x ∈ l0, (Lit.int .u8 x).wf = true) → ∃ k, laws_FnPriority.f k l0 = some true
theorem laws_FnPriority.walk (P : laws_FnPriority.Pure) (a0 : Option Addr) (len0 cap0 : Nat) (z0 : List Int) (w : World) (w0 : (a0 = none ∧ len0 = 0 ∧ cap0 = 0 ∧ z0 = []) ∨ ∃ x, a0 = some x ∧ len0 ≤ cap0 ∧ cap0 ≤ maxLen ∧ z0.length = cap0 ∧ (∀ i, i < z0.length → w.cell? (x.add i) = some (.int .u8 (z0.getD i 0))) ∧ ∀ n ∈ z0, (Lit.int .u8 n).wf = true) (y0 : len0 * 1 ≤ 140737488351232) :
    Calls Tryd.prog 5 #[.slice a0 len0 cap0] w fun e w' => e = .returned (.bool true) ∧ Below w.heap.size w w' := by
  obtain ⟨l0, rfl, hr0, hm0, hw0, hc0⟩ := ReadsInt.ofRowC w0
  obtain ⟨k, h⟩ := P l0 hm0 y0 hw0
  refine (laws_FnPriority.calls k _ _ l0 true w (Kd.C_of_reads (d := (0 : Int)) (h1 := fun _ => rfl) hr0) hc0 h).mono ?_
  rintro e w' ⟨rfl, hd⟩
  exact ⟨rfl, hd⟩

end Go.Proofs.YtkcimmlaoipdkaaDoor.PFnPriority
