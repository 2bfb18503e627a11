-- Written by a program of this repo (xprint.py) out of the translation; Lean checks it.
import Derived.Test.YtffmebjogdemhaaPFnPrefixx0
import Derived.Test.YtffmebjogdemhaaPFnPrefixx1
namespace Go.Proofs.Ytffmebjogdemhaa.PFnPrefix
open Go.RowKit Go.Proofs.YtffmebjogdemhaaW.PrintWords Go.Proofs.YtffmebjogdemhaaW.PrintLast Go.Proofs.YtffmebjogdemhaaW.PrintMore
attribute [local go_sem] max2_int min2_int max_two min_two max_three min_three max_four min_four   -- for this text's walks alone
set_option linter.unusedVariables false
set_option linter.unusedSimpArgs false

/-! ### impl_GetPrefix: function 36 -/
mutual
def impl_GetPrefix.j0 : Nat → List Int → Int → Int → Bool → Option (Int × Int × Int)
  | 0, _, _, _, _ => none
  | k + 1, x0, x1, x2, x30 => if x30 = true then (some (0, 0, 1)) else (if x1 = (x0.length : Int) then (some (0, 0, 2)) else (if 0 ≤ x2 then (if 0 ≤ x1 then (if x1 < (x0.length : Int) then (if (Go.bits .and .i64 (wrap64 (rd x0 x1)) (wrap64 ((shl .i64 1 x2) - 1))) < (wrap64 ((shl .i64 1 x2) - 1)) then (some (Go.bits .and .i64 (wrap64 (rd x0 x1)) (wrap64 ((shl .i64 1 x2) - 1)), wrap64 (x1 + 1), 0)) else (impl_GetPrefix.l0 k x0 (wrap64 (x1 + 1)) (Go.bits .and .i64 (wrap64 (rd x0 x1)) (wrap64 ((shl .i64 1 x2) - 1))) 0)) else (none)) else (none)) else (none)))
def impl_GetPrefix.l0 : Nat → List Int → Int → Int → Int → Option (Int × Int × Int)
  | 0, _, _, _, _ => none
  | k + 1, x0, x1, x10, x11 => if x11 < 10 then (if x1 = (x0.length : Int) then (some (0, 0, 2)) else (if 0 ≤ x1 then (if x1 < (x0.length : Int) then (if x11 = 9 then (if (wrap64 (Go.bits .and .u8 (rd x0 x1) 127)) = 0 then (if x11 < 9 then (if 0 ≤ (wrap64 (7 * x11)) then (impl_GetPrefix.j2 k x0 x1 x10 x11 (wrap64 (Go.bits .and .u8 (rd x0 x1) 127)) (decide ((wrap64 (Go.bits .and .u8 (rd x0 x1) 127)) > (shr .i64 (wrap64 (4611686018427387903 - x10)) (wrap64 (7 * x11)))))) else (none)) else (impl_GetPrefix.j2 k x0 x1 x10 x11 (wrap64 (Go.bits .and .u8 (rd x0 x1) 127)) false)) else (impl_GetPrefix.j2 k x0 x1 x10 x11 (wrap64 (Go.bits .and .u8 (rd x0 x1) 127)) true)) else (if x11 < 9 then (if 0 ≤ (wrap64 (7 * x11)) then (impl_GetPrefix.j2 k x0 x1 x10 x11 (wrap64 (Go.bits .and .u8 (rd x0 x1) 127)) (decide ((wrap64 (Go.bits .and .u8 (rd x0 x1) 127)) > (shr .i64 (wrap64 (4611686018427387903 - x10)) (wrap64 (7 * x11)))))) else (none)) else (impl_GetPrefix.j2 k x0 x1 x10 x11 (wrap64 (Go.bits .and .u8 (rd x0 x1) 127)) false))) else (none)) else (none))) else (some (0, 0, 3))
def impl_GetPrefix.j2 : Nat → List Int → Int → Int → Int → Int → Bool → Option (Int × Int × Int)
  | 0, _, _, _, _, _, _ => none
  | k + 1, x0, x1, x10, x11, x12, x84 => if x84 = true then (some (0, 0, 3)) else (if x11 < 9 then (if 0 ≤ (wrap64 (7 * x11)) then (if 0 ≤ (wrap64 ((wrap64 (x1 + 1)) - 1)) then (if (wrap64 ((wrap64 (x1 + 1)) - 1)) < (x0.length : Int) then (if (rd x0 (wrap64 ((wrap64 (x1 + 1)) - 1))) < 128 then (some (wrap64 (x10 + (shl .i64 x12 (wrap64 (7 * x11)))), wrap64 (x1 + 1), 0)) else (impl_GetPrefix.l0 k x0 (wrap64 (x1 + 1)) (wrap64 (x10 + (shl .i64 x12 (wrap64 (7 * x11))))) (wrap64 (x11 + 1)))) else (none)) else (none)) else (none)) else (if 0 ≤ (wrap64 ((wrap64 (x1 + 1)) - 1)) then (if (wrap64 ((wrap64 (x1 + 1)) - 1)) < (x0.length : Int) then (if (rd x0 (wrap64 ((wrap64 (x1 + 1)) - 1))) < 128 then (some (x10, wrap64 (x1 + 1), 0)) else (impl_GetPrefix.l0 k x0 (wrap64 (x1 + 1)) x10 (wrap64 (x11 + 1)))) else (none)) else (none)))
end
def impl_GetPrefix.f (k : Nat) (l0 : List Int) (a1 : Int) (a2 : Int) : Option (Int × Int × Int) := (impl_tooLong.f l0).bind fun t136 => (if t136 = true then (some (0, 0, 4)) else (if a2 < 1 then (impl_GetPrefix.j0 k l0 a1 a2 true) else (if a2 > 8 then (impl_GetPrefix.j0 k l0 a1 a2 true) else (if a1 < 0 then (impl_GetPrefix.j0 k l0 a1 a2 true) else (impl_GetPrefix.j0 k l0 a1 a2 (decide (a1 > (l0.length : Int))))))))
theorem impl_GetPrefix.mono_l : ∀ k, (∀ y0 y1 y2 y3, LeO (impl_GetPrefix.j0 k y0 y1 y2 y3) (impl_GetPrefix.j0 (k + 1) y0 y1 y2 y3)) ∧ (∀ y0 y1 y2 y3, LeO (impl_GetPrefix.l0 k y0 y1 y2 y3) (impl_GetPrefix.l0 (k + 1) y0 y1 y2 y3)) ∧ (∀ y0 y1 y2 y3 y4 y5, LeO (impl_GetPrefix.j2 k y0 y1 y2 y3 y4 y5) (impl_GetPrefix.j2 (k + 1) y0 y1 y2 y3 y4 y5))
  | 0 => ⟨fun _ _ _ _ r h => by simp [impl_GetPrefix.j0] at h, fun _ _ _ _ r h => by simp [impl_GetPrefix.l0] at h, fun _ _ _ _ _ _ r h => by simp [impl_GetPrefix.j2] at h⟩
  | k + 1 => by
    obtain ⟨ih0, ih1, ih2⟩ := impl_GetPrefix.mono_l k
    refine ⟨?_, ?_, ?_⟩
    · intro y0 y1 y2 y3
      unfold impl_GetPrefix.j0
      repeat' first
      | (with_reducible exact ih0 _ _ _ _)
      | (with_reducible exact ih1 _ _ _ _)
      | (with_reducible exact ih2 _ _ _ _ _ _)
      | (with_reducible exact LeO.refl _)
      | (with_reducible exact LeO.none _)
      | (with_reducible refine LeO.ite ?_ ?_)
      | (with_reducible refine LeO.bind ?_ (fun _ => ?_))
      | exact ih0 _ _ _ _
      | exact ih1 _ _ _ _
      | exact ih2 _ _ _ _ _ _
      | exact LeO.none _
      | refine LeO.ite ?_ ?_
      | refine LeO.bind ?_ (fun _ => ?_)
    · intro y0 y1 y2 y3
      unfold impl_GetPrefix.l0
      repeat' first
      | (with_reducible exact ih0 _ _ _ _)
      | (with_reducible exact ih1 _ _ _ _)
      | (with_reducible exact ih2 _ _ _ _ _ _)
      | (with_reducible exact LeO.refl _)
      | (with_reducible exact LeO.none _)
      | (with_reducible refine LeO.ite ?_ ?_)
      | (with_reducible refine LeO.bind ?_ (fun _ => ?_))
      | exact ih0 _ _ _ _
      | exact ih1 _ _ _ _
      | exact ih2 _ _ _ _ _ _
      | exact LeO.none _
      | refine LeO.ite ?_ ?_
      | refine LeO.bind ?_ (fun _ => ?_)
    · intro y0 y1 y2 y3 y4 y5
      unfold impl_GetPrefix.j2
      repeat' first
      | (with_reducible exact ih0 _ _ _ _)
      | (with_reducible exact ih1 _ _ _ _)
      | (with_reducible exact ih2 _ _ _ _ _ _)
      | (with_reducible exact LeO.refl _)
      | (with_reducible exact LeO.none _)
      | (with_reducible refine LeO.ite ?_ ?_)
      | (with_reducible refine LeO.bind ?_ (fun _ => ?_))
      | exact ih0 _ _ _ _
      | exact ih1 _ _ _ _
      | exact ih2 _ _ _ _ _ _
      | exact LeO.none _
      | refine LeO.ite ?_ ?_
      | refine LeO.bind ?_ (fun _ => ?_)
theorem impl_GetPrefix.mono : ∀ a0 a1 a2 k, LeO (impl_GetPrefix.f k a0 a1 a2) (impl_GetPrefix.f (k + 1) a0 a1 a2) := by
  intro a0 a1 a2 k
  obtain ⟨ih0, ih1, ih2⟩ := impl_GetPrefix.mono_l k
  unfold impl_GetPrefix.f
  repeat' first
      | (with_reducible exact ih0 _ _ _ _)
      | (with_reducible exact ih1 _ _ _ _)
      | (with_reducible exact ih2 _ _ _ _ _ _)
      | (with_reducible exact LeO.refl _)
      | (with_reducible exact LeO.none _)
      | (with_reducible refine LeO.ite ?_ ?_)
      | (with_reducible refine LeO.bind ?_ (fun _ => ?_))
      | exact ih0 _ _ _ _
      | exact ih1 _ _ _ _
      | exact ih2 _ _ _ _ _ _
      | exact LeO.none _
      | refine LeO.ite ?_ ?_
      | refine LeO.bind ?_ (fun _ => ?_)
set_option maxHeartbeats 8000000 in
set_option maxRecDepth 100000 in
theorem impl_GetPrefix.calls (k : Nat) (A0 : Option Addr) (c0 : Nat) (l0 : List Int) (a1 : Int) (a2 : Int) (r1 : Int) (r2 : Int) (r3 : Int) (w : World) (hr0 : Kd.C (Kd.int .u8) w A0 l0.length l0) (hc0 : l0.length ≤ c0) (h : impl_GetPrefix.f k l0 a1 a2 = some (r1, r2, r3)) :
    Calls Try.prog 36 #[.slice A0 l0.length c0, .int .i64 a1, .int .i64 a2] w fun e w' => e = .returned (.tuple #[.int .i64 r1, .int .i64 r2, .int .i64 r3]) ∧ Drawn0 w w' := by
  have HR0 := Aside0.mk hr0
  have HC0 := Aside0.mk hc0
  clear hr0 hc0
  have H : ((impl_tooLong.f l0).bind fun t136 => (if t136 = true then (some (0, 0, 4)) else (if a2 < 1 then (impl_GetPrefix.j0 k l0 a1 a2 true) else (if a2 > 8 then (impl_GetPrefix.j0 k l0 a1 a2 true) else (if a1 < 0 then (impl_GetPrefix.j0 k l0 a1 a2 true) else (impl_GetPrefix.j0 k l0 a1 a2 (decide (a1 > (l0.length : Int))))))))) = some (r1, r2, r3) := h
  clear h
  replace H := Option.bind_eq_some_iff.mp H
  obtain ⟨t136, A40, H⟩ := H
  replace H : (if t136 = true then (some (0, 0, 4)) else (if a2 < 1 then (impl_GetPrefix.j0 k l0 a1 a2 true) else (if a2 > 8 then (impl_GetPrefix.j0 k l0 a1 a2 true) else (if a1 < 0 then (impl_GetPrefix.j0 k l0 a1 a2 true) else (impl_GetPrefix.j0 k l0 a1 a2 (decide (a1 > (l0.length : Int)))))))) = some (r1, r2, r3) := H
  have A4 := Aside0.mk A40
  clear A40
  by_cases c5 : t136 = true
  · subst c5
    have H1 : (some (0, 0, 4)) = some (r1, r2, r3) := by rw [if_pos rfl] at H; exact H
    clear H
    have H := H1
    clear H1
    simp only [Option.some.injEq, Prod.mk.injEq] at H
    obtain ⟨rfl, rfl, rfl⟩ := H
    go_enter Try.func36, Try.ntmps36
    go_wp2_with (first | ((with_reducible refine gate_callee (f := 71) rfl ?_); refine goesL_ (some 14) rfl rfl Try.func71 (by kernel_rfl) rfl #[.slice A0 l0.length c0] rfl (by (try simp only [List.map_toArray, List.map_cons, List.map_nil]); first | done | rfl | (simp only [List.length_drop, List.length_take]; rfl)) ?_; (with_reducible refine (impl_tooLong.calls _ _ l0 true _ ?side1 ?side2 A4.out).mono ?_); (case side1 => repeat (first | exact HR0.out | (with_reducible refine Kd.C_alloc ?_ _) | (with_reducible refine Kd.C_drewN ?_ _) | (with_reducible refine Kd.C_drew ?_))); (case side2 => exact HC0.out); rintro e w' ⟨rfl, ⟨nd, rfl⟩⟩; refine ⟨_, rfl, ?_⟩))
    go_ret3
    exact ⟨by first | rfl | (simp; done) | (simp [*]; done), by repeat (first | exact Drawn0.refl _ | apply Drawn0.step)⟩
  · replace c5 := Bool.eq_false_iff.mpr c5
    subst c5
    have H1 : (if a2 < 1 then (impl_GetPrefix.j0 k l0 a1 a2 true) else (if a2 > 8 then (impl_GetPrefix.j0 k l0 a1 a2 true) else (if a1 < 0 then (impl_GetPrefix.j0 k l0 a1 a2 true) else (impl_GetPrefix.j0 k l0 a1 a2 (decide (a1 > (l0.length : Int))))))) = some (r1, r2, r3) := by rw [if_neg (show ¬ (false = true) by decide)] at H; exact H
    clear H
    have H := H1
    clear H1
    have HC6 := Aside0.mk H
    clear H
    go_enter Try.func36, Try.ntmps36
    go_upto_region 3 with (first | ((with_reducible refine gate_callee (f := 71) rfl ?_); refine goesL_ (some 14) rfl rfl Try.func71 (by kernel_rfl) rfl #[.slice A0 l0.length c0] rfl (by (try simp only [List.map_toArray, List.map_cons, List.map_nil]); first | done | rfl | (simp only [List.length_drop, List.length_take]; rfl)) ?_; (with_reducible refine (impl_tooLong.calls _ _ l0 false _ ?side1 ?side2 A4.out).mono ?_); (case side1 => repeat (first | exact HR0.out | (with_reducible refine Kd.C_alloc ?_ _) | (with_reducible refine Kd.C_drewN ?_ _) | (with_reducible refine Kd.C_drew ?_))); (case side2 => exact HC0.out); rintro e w' ⟨rfl, ⟨nd, rfl⟩⟩; refine ⟨_, rfl, ?_⟩))
    (try simp only [Act.put, List.setIfInBounds_toArray, List.set_cons_zero, List.set_cons_succ])
    go_cut [30] (fun v30 wc => ∃ (kq : Nat) (x30_5 : Bool), v30 = .bool x30_5 ∧ Aside0 (impl_GetPrefix.j0 kq l0 a1 a2 x30_5 = some (r1, r2, r3)) ∧ Aside0 (kq ≤ k) ∧ Drawn0 w wc)
    case first =>
      have H := HC6.out
      clear HC6
      by_cases c7 : a2 < 1
      · rw [if_pos c7] at H
        have c7b0 : decide (a2 < 1) = true := decide_eq_true c7
        clear c7
        (first | rw [c7b0] | (simp only [i64_w, i32_w]; rw [c7b0]) | skip)
        have H' := Aside0.mk H
        clear H
        go_wp2
        go_meet
        case rel => exact ⟨_, (true), (by first | rfl | (simp; done) | (simp [*]; done)), H', ⟨by first | omega | exact Nat.le_refl _⟩, by repeat (first | exact Drawn0.refl _ | apply Drawn0.step)⟩
      · rw [if_neg c7] at H
        have c7b0 : decide (a2 < 1) = false := decide_eq_false c7
        clear c7
        (first | rw [c7b0] | (simp only [i64_w, i32_w]; rw [c7b0]) | skip)
        by_cases c8 : a2 > 8
        · rw [if_pos c8] at H
          have c8b0 : decide (8 < a2) = true := decide_eq_true c8
          clear c8
          have H' := Aside0.mk H
          clear H
          go_wp2
          go_meet
          case rel => exact ⟨_, (true), (by first | rfl | (simp; done) | (simp [*]; done)), H', ⟨by first | omega | exact Nat.le_refl _⟩, by repeat (first | exact Drawn0.refl _ | apply Drawn0.step)⟩
        · rw [if_neg c8] at H
          have c8b0 : decide (8 < a2) = false := decide_eq_false c8
          clear c8
          by_cases c9 : a1 < 0
          · rw [if_pos c9] at H
            have c9b0 : decide (a1 < 0) = true := decide_eq_true c9
            clear c9
            have H' := Aside0.mk H
            clear H
            go_wp2
            go_meet
            case rel => exact ⟨_, (true), (by first | rfl | (simp; done) | (simp [*]; done)), H', ⟨by first | omega | exact Nat.le_refl _⟩, by repeat (first | exact Drawn0.refl _ | apply Drawn0.step)⟩
          · rw [if_neg c9] at H
            have c9b0 : decide (a1 < 0) = false := decide_eq_false c9
            clear c9
            have H' := Aside0.mk H
            clear H
            go_wp2
            go_meet
            case rel => exact ⟨_, (decide (a1 > (l0.length : Int))), (by first | rfl | (simp; done) | (simp [*]; done)), H', ⟨by first | omega | exact Nat.le_refl _⟩, by repeat (first | exact Drawn0.refl _ | apply Drawn0.step)⟩
    case rest =>
      clear HC6
      try clear p2
      try clear c3
      try clear c5
      try clear c7
      try clear c7b0
      try clear c8
      try clear c8b0
      try clear c9
      try clear c9b0
      obtain ⟨kq, x30_5, rfl, HA, HJ5, ⟨mc5, rfl⟩⟩ := hcut
      cases kq with
      | zero => exact absurd HA.out (by simp [impl_GetPrefix.j0])
      | succ kj5 =>
        have H := HA.out
        clear HA
        simp only [impl_GetPrefix.j0] at H
        by_cases c10 : x30_5 = true
        · subst c10
          have H1 : (some (0, 0, 1)) = some (r1, r2, r3) := by rw [if_pos rfl] at H; exact H
          clear H
          have H := H1
          clear H1
          simp only [Option.some.injEq, Prod.mk.injEq] at H
          obtain ⟨rfl, rfl, rfl⟩ := H
          go_wp2
          go_ret3
          exact ⟨by first | rfl | (simp; done) | (simp [*]; done), by repeat (first | exact Drawn0.refl _ | apply Drawn0.step)⟩
        · replace c10 := Bool.eq_false_iff.mpr c10
          subst c10
          have H1 : (if a1 = (l0.length : Int) then (some (0, 0, 2)) else (if 0 ≤ a2 then (if 0 ≤ a1 then (if a1 < (l0.length : Int) then (if (Go.bits .and .i64 (wrap64 (rd l0 a1)) (wrap64 ((shl .i64 1 a2) - 1))) < (wrap64 ((shl .i64 1 a2) - 1)) then (some (Go.bits .and .i64 (wrap64 (rd l0 a1)) (wrap64 ((shl .i64 1 a2) - 1)), wrap64 (a1 + 1), 0)) else (impl_GetPrefix.l0 kj5 l0 (wrap64 (a1 + 1)) (Go.bits .and .i64 (wrap64 (rd l0 a1)) (wrap64 ((shl .i64 1 a2) - 1))) 0)) else (none)) else (none)) else (none))) = some (r1, r2, r3) := by rw [if_neg (show ¬ (false = true) by decide)] at H; exact H
          clear H
          have H := H1
          clear H1
          by_cases c11 : a1 = (l0.length : Int)
          · rw [if_pos c11] at H
            have c11b0 : (a1 == (l0.length : Int)) = true := beq_iff_eq.mpr c11
            have c11b1 : (a1 != (l0.length : Int)) = false := bne_eq_false_iff_eq.mpr c11
            clear c11
            simp only [Option.some.injEq, Prod.mk.injEq] at H
            obtain ⟨rfl, rfl, rfl⟩ := H
            go_wp2
            go_ret3
            exact ⟨by first | rfl | (simp; done) | (simp [*]; done), by repeat (first | exact Drawn0.refl _ | apply Drawn0.step)⟩
          · rw [if_neg c11] at H
            have c11b0 : (a1 == (l0.length : Int)) = false := beq_eq_false_iff_ne.mpr c11
            have c11b1 : (a1 != (l0.length : Int)) = true := bne_iff_ne.mpr c11
            by_cases c12 : 0 ≤ a2
            · rw [if_pos c12] at H
              have c12b0 := eq_true c12
              have c12b1 : decide (0 ≤ a2) = true := decide_eq_true c12
              clear c12
              obtain ⟨ji13, hji13⟩ : ∃ j_ : Int, (shl .i64 1 a2) = j_ := ⟨_, rfl⟩
              replace H : (if 0 ≤ a1 then (if a1 < (l0.length : Int) then (if (Go.bits .and .i64 (wrap64 (rd l0 a1)) (wrap64 ((ji13) - 1))) < (wrap64 ((ji13) - 1)) then (some (Go.bits .and .i64 (wrap64 (rd l0 a1)) (wrap64 ((ji13) - 1)), wrap64 (a1 + 1), 0)) else (impl_GetPrefix.l0 kj5 l0 (wrap64 (a1 + 1)) (Go.bits .and .i64 (wrap64 (rd l0 a1)) (wrap64 ((ji13) - 1))) 0)) else (none)) else (none)) = some (r1, r2, r3) := by first | (rw [hji13] at H; exact H) | (simp only [hji13] at H ⊢; exact H)
              have hji13_ : (IntKind.i64.wrap (1 * 2 ^ min a2.toNat 64)) = ji13 := hji13
              have hji13z : a2 ≤ 64 → (IntKind.i64.wrap (1 * 2 ^ a2.toNat)) = ji13 := shl_small hji13
              have hji13u : (IntKind.i64.wrap (2 ^ min a2.toNat 64)) = ji13 := by have h_ := hji13_; rw [Int.one_mul] at h_; exact h_
              have hji13v : a2 ≤ 64 → (IntKind.i64.wrap (2 ^ a2.toNat)) = ji13 := fun hle_ => by have h_ := hji13z hle_; rw [Int.one_mul] at h_; exact h_
              have hji13y : (wrap64 (1 * 2 ^ min a2.toNat 64)) = ji13 := (i64_w _).symm.trans hji13_
              have hji13x : a2 ≤ 64 → (wrap64 (1 * 2 ^ a2.toNat)) = ji13 := fun h_ => (i64_w _).symm.trans (hji13z h_)
              by_cases c14 : 0 ≤ a1
              · rw [if_pos c14] at H
                have c14b0 : decide (0 ≤ a1) = true := decide_eq_true c14
                clear c14
                by_cases c15 : a1 < (l0.length : Int)
                · rw [if_pos c15] at H
                  have c15b0 : decide (a1 < (l0.length : Int)) = true := decide_eq_true c15
                  clear c15
                  by_cases c16 : (Go.bits .and .i64 (wrap64 (rd l0 a1)) (wrap64 ((ji13) - 1))) < (wrap64 ((ji13) - 1))
                  · rw [if_pos c16] at H
                    have c16b0 : decide ((Go.bits .and .i64 (wrap64 (rd l0 a1)) (wrap64 ((ji13) - 1))) < (wrap64 ((ji13) - 1))) = true := decide_eq_true c16
                    clear c16
                    simp only [Option.some.injEq, Prod.mk.injEq] at H
                    obtain ⟨rfl, rfl, rfl⟩ := H
                    have p137 : 0 ≤ (a1 : Int) := of_decide_eq_true (by first | (with_reducible assumption) | assumption)
                    have q137 : a1 < (l0.length : Int) := of_decide_eq_true (by first | (with_reducible assumption) | assumption)
                    obtain ⟨ad137, e137, hx137_0⟩ := Kd.at_int HR0.out a1 p137 q137
                    cases e137
                    replace p137 := eq_true p137
                    replace q137 := eq_true q137
                    go_wp2
                    go_ret3
                    exact ⟨by first | rfl | (simp; done) | (simp only [← hji13] <;> (first | rfl | simp)) | (simp [*]; done), by repeat (first | exact Drawn0.refl _ | apply Drawn0.step)⟩
                  · rw [if_neg c16] at H
                    have c16b0 : decide ((Go.bits .and .i64 (wrap64 (rd l0 a1)) (wrap64 ((ji13) - 1))) < (wrap64 ((ji13) - 1))) = false := decide_eq_false c16
                    clear c16
                    have H' := Aside0.mk H
                    clear H
                    have p137 : 0 ≤ (a1 : Int) := of_decide_eq_true (by first | (with_reducible assumption) | assumption)
                    have q137 : a1 < (l0.length : Int) := of_decide_eq_true (by first | (with_reducible assumption) | assumption)
                    obtain ⟨ad137, e137, hx137_0⟩ := Kd.at_int HR0.out a1 p137 q137
                    cases e137
                    replace p137 := eq_true p137
                    replace q137 := eq_true q137
                    go_wp2
                    go_loopg [1, 10, 11] kj5 (fun kq v1 v10 v11 w' => ∃ (x1_2 : Int) (x10_2 : Int) (x11_2 : Int), v1 = .int .i64 x1_2 ∧ v10 = .int .i64 x10_2 ∧ v11 = .int .i64 x11_2 ∧ Aside0 (impl_GetPrefix.l0 kq l0 x1_2 x10_2 x11_2 = some (r1, r2, r3)) ∧ Aside0 (kq ≤ kj5) ∧ Drawn0 w w')
                    case atStart => exact ⟨(wrap64 (a1 + 1)), (Go.bits .and .i64 (wrap64 (rd l0 a1)) (wrap64 ((ji13) - 1))), (0), (by first | rfl | (simp; done) | (simp [*]; done)), (by first | rfl | (simp; done) | (simp only [← hji13] <;> (first | rfl | simp)) | (simp [*]; done)), (by first | rfl | (simp; done) | (simp [*]; done)), H', ⟨Nat.le_refl _⟩, by repeat (first | exact Drawn0.refl _ | apply Drawn0.step)⟩
                    case round =>
                      clear H'
                      try clear c1
                      try clear p1
                      try clear q1
                      try clear hx1
                      try clear p2
                      try clear c3
                      try clear c5
                      try clear p6
                      try clear c7
                      try clear c7b0
                      try clear c8
                      try clear c8b0
                      try clear c9
                      try clear c9b0
                      try clear c10
                      try clear c11
                      try clear c11b0
                      try clear c11b1
                      try clear c12
                      try clear c12b0
                      try clear c12b1
                      try clear p13
                      try clear q13
                      try clear hx13
                      try clear c14
                      try clear c14b0
                      try clear c15
                      try clear c15b0
                      try clear c16
                      try clear c16b0
                      try clear hx137_0
                      try clear p137
                      try clear p2
                      try clear q137
                      obtain ⟨x1_2, x10_2, x11_2, rfl, rfl, rfl, HA, HK2, ⟨m2, rfl⟩⟩ := hrel
                      cases gk with
                      | zero => exact absurd HA.out (by simp [impl_GetPrefix.l0])
                      | succ k2 =>
                        have H := HA.out
                        clear HA
                        simp only [impl_GetPrefix.l0] at H
                        by_cases c17 : x11_2 < 10
                        · rw [if_pos c17] at H
                          have c17b0 : decide (x11_2 < 10) = true := decide_eq_true c17
                          clear c17
                          by_cases c18 : x1_2 = (l0.length : Int)
                          · rw [if_pos c18] at H
                            have c18b0 : (x1_2 == (l0.length : Int)) = true := beq_iff_eq.mpr c18
                            have c18b1 : (x1_2 != (l0.length : Int)) = false := bne_eq_false_iff_eq.mpr c18
                            clear c18
                            simp only [Option.some.injEq, Prod.mk.injEq] at H
                            obtain ⟨rfl, rfl, rfl⟩ := H
                            go_wp2
                            go_ret3
                            exact ⟨by first | rfl | (simp; done) | (simp only [← hji13] <;> (first | rfl | simp)) | (simp [*]; done), by repeat (first | exact Drawn0.refl _ | apply Drawn0.step)⟩
                          · rw [if_neg c18] at H
                            have c18b0 : (x1_2 == (l0.length : Int)) = false := beq_eq_false_iff_ne.mpr c18
                            have c18b1 : (x1_2 != (l0.length : Int)) = true := bne_iff_ne.mpr c18
                            by_cases c19 : 0 ≤ x1_2
                            · rw [if_pos c19] at H
                              have c19b0 : decide (0 ≤ x1_2) = true := decide_eq_true c19
                              clear c19
                              by_cases c20 : x1_2 < (l0.length : Int)
                              · rw [if_pos c20] at H
                                have c20b0 : decide (x1_2 < (l0.length : Int)) = true := decide_eq_true c20
                                clear c20
                                have HC21 := Aside0.mk H
                                clear H
                                have p138 : 0 ≤ (x1_2 : Int) := of_decide_eq_true (by first | (with_reducible assumption) | assumption)
                                have q138 : x1_2 < (l0.length : Int) := of_decide_eq_true (by first | (with_reducible assumption) | assumption)
                                obtain ⟨ad138, e138, hx138_0⟩ := Kd.at_int HR0.out x1_2 p138 q138
                                obtain rfl : ad137 = ad138 := (by injection e138)
                                replace p138 := eq_true p138
                                replace q138 := eq_true q138
                                go_upto_region 18 with (fail)
                                go_cut [84] (fun v84 wc => ∃ (kq : Nat) (x84_20 : Bool), v84 = .bool x84_20 ∧ Aside0 (impl_GetPrefix.j2 kq l0 x1_2 x10_2 x11_2 (wrap64 (Go.bits .and .u8 (rd l0 x1_2) 127)) x84_20 = some (r1, r2, r3)) ∧ Aside0 (kq ≤ k2) ∧ Drawn0 w wc)
                                case first =>
                                  have H := HC21.out
                                  clear HC21
                                  by_cases c22 : x11_2 = 9
                                  · rw [if_pos c22] at H
                                    have c22b0 : (x11_2 == 9) = true := beq_iff_eq.mpr c22
                                    have c22b1 : (x11_2 != 9) = false := bne_eq_false_iff_eq.mpr c22
                                    clear c22
                                    (first | rw [c22b0] | (simp only [i64_w, i32_w]; rw [c22b0]) | skip)
                                    by_cases c23 : (wrap64 (Go.bits .and .u8 (rd l0 x1_2) 127)) = 0
                                    · rw [if_pos c23] at H
                                      have c23b0 : ((wrap64 (Go.bits .and .u8 (rd l0 x1_2) 127)) == 0) = true := beq_iff_eq.mpr c23
                                      have c23b1 : ((wrap64 (Go.bits .and .u8 (rd l0 x1_2) 127)) != 0) = false := bne_eq_false_iff_eq.mpr c23
                                      clear c23
                                      by_cases c24 : x11_2 < 9
                                      · rw [if_pos c24] at H
                                        have c24b0 : decide (x11_2 < 9) = true := decide_eq_true c24
                                        clear c24
                                        obtain ⟨ji25, hji25⟩ : ∃ j_ : Int, (wrap64 (7 * x11_2)) = j_ := ⟨_, rfl⟩
                                        replace H : (if 0 ≤ (ji25) then (impl_GetPrefix.j2 k2 l0 x1_2 x10_2 x11_2 (wrap64 (Go.bits .and .u8 (rd l0 x1_2) 127)) (decide ((wrap64 (Go.bits .and .u8 (rd l0 x1_2) 127)) > (shr .i64 (wrap64 (4611686018427387903 - x10_2)) (ji25))))) else (none)) = some (r1, r2, r3) := by first | (rw [hji25] at H; exact H) | (simp only [hji25] at H ⊢; exact H)
                                        have hji25w : (IntKind.i64.wrap (7 * x11_2)) = ji25 := (i64_w _).trans hji25
                                        by_cases c26 : 0 ≤ (ji25)
                                        · rw [if_pos c26] at H
                                          have c26b0 := eq_true c26
                                          have c26b1 : decide (0 ≤ (ji25)) = true := decide_eq_true c26
                                          clear c26
                                          obtain ⟨ji27, hji27⟩ : ∃ j_ : Int, (shr .i64 (wrap64 (4611686018427387903 - x10_2)) (ji25)) = j_ := ⟨_, rfl⟩
                                          replace H : (impl_GetPrefix.j2 k2 l0 x1_2 x10_2 x11_2 (wrap64 (Go.bits .and .u8 (rd l0 x1_2) 127)) (decide ((wrap64 (Go.bits .and .u8 (rd l0 x1_2) 127)) > (ji27)))) = some (r1, r2, r3) := by first | (rw [hji27] at H; exact H) | (simp only [hji27] at H ⊢; exact H)
                                          have hji27_ : ((wrap64 (4611686018427387903 - x10_2)) / 2 ^ min (ji25).toNat 64) = ji27 := hji27
                                          have hji27z : (ji25) ≤ 64 → ((wrap64 (4611686018427387903 - x10_2)) / 2 ^ (ji25).toNat) = ji27 := shr_small hji27
                                          have H' := Aside0.mk H
                                          clear H
                                          go_wp2
                                          go_meet
                                          case rel => exact ⟨_, (decide ((wrap64 (Go.bits .and .u8 (rd l0 x1_2) 127)) > (ji27))), (by first | rfl | (simp; done) | (simp only [← hji27] <;> (first | rfl | simp)) | (simp [*]; done)), H', ⟨by have := HJ5.out; have := HK2.out; first | omega | exact Nat.le_refl _⟩, by repeat (first | exact Drawn0.refl _ | apply Drawn0.step)⟩
                                        · rw [if_neg c26] at H
                                          exact absurd H (by simp)
                                      · rw [if_neg c24] at H
                                        have c24b0 : decide (x11_2 < 9) = false := decide_eq_false c24
                                        clear c24
                                        have H' := Aside0.mk H
                                        clear H
                                        go_wp2
                                        go_meet
                                        case rel => exact ⟨_, (false), (by first | rfl | (simp; done) | (simp [*]; done)), H', ⟨by have := HJ5.out; have := HK2.out; first | omega | exact Nat.le_refl _⟩, by repeat (first | exact Drawn0.refl _ | apply Drawn0.step)⟩
                                    · rw [if_neg c23] at H
                                      have c23b0 : ((wrap64 (Go.bits .and .u8 (rd l0 x1_2) 127)) == 0) = false := beq_eq_false_iff_ne.mpr c23
                                      have c23b1 : ((wrap64 (Go.bits .and .u8 (rd l0 x1_2) 127)) != 0) = true := bne_iff_ne.mpr c23
                                      have H' := Aside0.mk H
                                      clear H
                                      go_wp2
                                      go_meet
                                      case rel => exact ⟨_, (true), (by first | rfl | (simp; done) | (simp [*]; done)), H', ⟨by have := HJ5.out; have := HK2.out; first | omega | exact Nat.le_refl _⟩, by repeat (first | exact Drawn0.refl _ | apply Drawn0.step)⟩
                                  · rw [if_neg c22] at H
                                    have c22b0 : (x11_2 == 9) = false := beq_eq_false_iff_ne.mpr c22
                                    have c22b1 : (x11_2 != 9) = true := bne_iff_ne.mpr c22
                                    (first | rw [c22b0] | (simp only [i64_w, i32_w]; rw [c22b0]) | skip)
                                    by_cases c28 : x11_2 < 9
                                    · rw [if_pos c28] at H
                                      have c28b0 : decide (x11_2 < 9) = true := decide_eq_true c28
                                      clear c28
                                      obtain ⟨ji29, hji29⟩ : ∃ j_ : Int, (wrap64 (7 * x11_2)) = j_ := ⟨_, rfl⟩
                                      replace H : (if 0 ≤ (ji29) then (impl_GetPrefix.j2 k2 l0 x1_2 x10_2 x11_2 (wrap64 (Go.bits .and .u8 (rd l0 x1_2) 127)) (decide ((wrap64 (Go.bits .and .u8 (rd l0 x1_2) 127)) > (shr .i64 (wrap64 (4611686018427387903 - x10_2)) (ji29))))) else (none)) = some (r1, r2, r3) := by first | (rw [hji29] at H; exact H) | (simp only [hji29] at H ⊢; exact H)
                                      have hji29w : (IntKind.i64.wrap (7 * x11_2)) = ji29 := (i64_w _).trans hji29
                                      by_cases c30 : 0 ≤ (ji29)
                                      · rw [if_pos c30] at H
                                        have c30b0 := eq_true c30
                                        have c30b1 : decide (0 ≤ (ji29)) = true := decide_eq_true c30
                                        clear c30
                                        obtain ⟨ji31, hji31⟩ : ∃ j_ : Int, (shr .i64 (wrap64 (4611686018427387903 - x10_2)) (ji29)) = j_ := ⟨_, rfl⟩
                                        replace H : (impl_GetPrefix.j2 k2 l0 x1_2 x10_2 x11_2 (wrap64 (Go.bits .and .u8 (rd l0 x1_2) 127)) (decide ((wrap64 (Go.bits .and .u8 (rd l0 x1_2) 127)) > (ji31)))) = some (r1, r2, r3) := by first | (rw [hji31] at H; exact H) | (simp only [hji31] at H ⊢; exact H)
                                        have hji31_ : ((wrap64 (4611686018427387903 - x10_2)) / 2 ^ min (ji29).toNat 64) = ji31 := hji31
                                        have hji31z : (ji29) ≤ 64 → ((wrap64 (4611686018427387903 - x10_2)) / 2 ^ (ji29).toNat) = ji31 := shr_small hji31
                                        have H' := Aside0.mk H
                                        clear H
                                        go_wp2
                                        go_meet
                                        case rel => exact ⟨_, (decide ((wrap64 (Go.bits .and .u8 (rd l0 x1_2) 127)) > (ji31))), (by first | rfl | (simp; done) | (simp only [← hji31] <;> (first | rfl | simp)) | (simp [*]; done)), H', ⟨by have := HJ5.out; have := HK2.out; first | omega | exact Nat.le_refl _⟩, by repeat (first | exact Drawn0.refl _ | apply Drawn0.step)⟩
                                      · rw [if_neg c30] at H
                                        exact absurd H (by simp)
                                    · rw [if_neg c28] at H
                                      have c28b0 : decide (x11_2 < 9) = false := decide_eq_false c28
                                      clear c28
                                      have H' := Aside0.mk H
                                      clear H
                                      go_wp2
                                      go_meet
                                      case rel => exact ⟨_, (false), (by first | rfl | (simp; done) | (simp [*]; done)), H', ⟨by have := HJ5.out; have := HK2.out; first | omega | exact Nat.le_refl _⟩, by repeat (first | exact Drawn0.refl _ | apply Drawn0.step)⟩
                                case rest =>
                                  clear HC21
                                  try clear c1
                                  try clear p1
                                  try clear q1
                                  try clear hx1
                                  try clear c2
                                  try clear p2
                                  try clear c3
                                  try clear c5
                                  try clear p6
                                  try clear c7
                                  try clear c7b0
                                  try clear c8
                                  try clear c8b0
                                  try clear c9
                                  try clear c9b0
                                  try clear c10
                                  try clear c11
                                  try clear c11b0
                                  try clear c11b1
                                  try clear c12
                                  try clear c12b0
                                  try clear c12b1
                                  try clear p13
                                  try clear q13
                                  try clear hx13
                                  try clear c14
                                  try clear c14b0
                                  try clear c15
                                  try clear c15b0
                                  try clear c16
                                  try clear c16b0
                                  try clear c17
                                  try clear c17b0
                                  try clear c18
                                  try clear c18b0
                                  try clear c18b1
                                  try clear c19
                                  try clear c19b0
                                  try clear c20
                                  try clear c20b0
                                  try clear c22
                                  try clear c22b0
                                  try clear c22b1
                                  try clear c23
                                  try clear c23b0
                                  try clear c23b1
                                  try clear c24
                                  try clear c24b0
                                  try clear c26
                                  try clear c26b0
                                  try clear c26b1
                                  try clear c28
                                  try clear c28b0
                                  try clear c30
                                  try clear c30b0
                                  try clear c30b1
                                  try clear hx137_0
                                  try clear hx138_0
                                  try clear p1
                                  try clear p13
                                  try clear p137
                                  try clear p138
                                  try clear p2
                                  try clear p6
                                  try clear q1
                                  try clear q13
                                  try clear q137
                                  try clear q138
                                  obtain ⟨kq, x84_20, rfl, HA, HJ20, ⟨mc20, rfl⟩⟩ := hcut
                                  cases kq with
                                  | zero => exact absurd HA.out (by simp [impl_GetPrefix.j2])
                                  | succ kj20 =>
                                    have H := HA.out
                                    clear HA
                                    simp only [impl_GetPrefix.j2] at H
                                    by_cases c32 : x84_20 = true
                                    · subst c32
                                      have H1 : (some (0, 0, 3)) = some (r1, r2, r3) := by rw [if_pos rfl] at H; exact H
                                      clear H
                                      have H := H1
                                      clear H1
                                      simp only [Option.some.injEq, Prod.mk.injEq] at H
                                      obtain ⟨rfl, rfl, rfl⟩ := H
                                      go_wp2
                                      go_ret3
                                      exact ⟨by first | rfl | (simp; done) | (simp only [← hji13] <;> (first | rfl | simp)) | (simp [*]; done), by repeat (first | exact Drawn0.refl _ | apply Drawn0.step)⟩
                                    · replace c32 := Bool.eq_false_iff.mpr c32
                                      subst c32
                                      have H1 : (if x11_2 < 9 then (if 0 ≤ (wrap64 (7 * x11_2)) then (if 0 ≤ (wrap64 ((wrap64 (x1_2 + 1)) - 1)) then (if (wrap64 ((wrap64 (x1_2 + 1)) - 1)) < (l0.length : Int) then (if (rd l0 (wrap64 ((wrap64 (x1_2 + 1)) - 1))) < 128 then (some (wrap64 (x10_2 + (shl .i64 (wrap64 (Go.bits .and .u8 (rd l0 x1_2) 127)) (wrap64 (7 * x11_2)))), wrap64 (x1_2 + 1), 0)) else (impl_GetPrefix.l0 kj20 l0 (wrap64 (x1_2 + 1)) (wrap64 (x10_2 + (shl .i64 (wrap64 (Go.bits .and .u8 (rd l0 x1_2) 127)) (wrap64 (7 * x11_2))))) (wrap64 (x11_2 + 1)))) else (none)) else (none)) else (none)) else (if 0 ≤ (wrap64 ((wrap64 (x1_2 + 1)) - 1)) then (if (wrap64 ((wrap64 (x1_2 + 1)) - 1)) < (l0.length : Int) then (if (rd l0 (wrap64 ((wrap64 (x1_2 + 1)) - 1))) < 128 then (some (x10_2, wrap64 (x1_2 + 1), 0)) else (impl_GetPrefix.l0 kj20 l0 (wrap64 (x1_2 + 1)) x10_2 (wrap64 (x11_2 + 1)))) else (none)) else (none))) = some (r1, r2, r3) := by rw [if_neg (show ¬ (false = true) by decide)] at H; exact H
                                      clear H
                                      have H := H1
                                      clear H1
                                      by_cases c33 : x11_2 < 9
                                      · rw [if_pos c33] at H
                                        have c33b0 : decide (x11_2 < 9) = true := decide_eq_true c33
                                        clear c33
                                        obtain ⟨ji34, hji34⟩ : ∃ j_ : Int, (wrap64 (7 * x11_2)) = j_ := ⟨_, rfl⟩
                                        replace H : (if 0 ≤ (ji34) then (if 0 ≤ (wrap64 ((wrap64 (x1_2 + 1)) - 1)) then (if (wrap64 ((wrap64 (x1_2 + 1)) - 1)) < (l0.length : Int) then (if (rd l0 (wrap64 ((wrap64 (x1_2 + 1)) - 1))) < 128 then (some (wrap64 (x10_2 + (shl .i64 (wrap64 (Go.bits .and .u8 (rd l0 x1_2) 127)) (ji34))), wrap64 (x1_2 + 1), 0)) else (impl_GetPrefix.l0 kj20 l0 (wrap64 (x1_2 + 1)) (wrap64 (x10_2 + (shl .i64 (wrap64 (Go.bits .and .u8 (rd l0 x1_2) 127)) (ji34)))) (wrap64 (x11_2 + 1)))) else (none)) else (none)) else (none)) = some (r1, r2, r3) := by first | (rw [hji34] at H; exact H) | (simp only [hji34] at H ⊢; exact H)
                                        have hji34w : (IntKind.i64.wrap (7 * x11_2)) = ji34 := (i64_w _).trans hji34
                                        by_cases c35 : 0 ≤ (ji34)
                                        · rw [if_pos c35] at H
                                          have c35b0 := eq_true c35
                                          have c35b1 : decide (0 ≤ (ji34)) = true := decide_eq_true c35
                                          clear c35
                                          obtain ⟨ji36, hji36⟩ : ∃ j_ : Int, (shl .i64 (wrap64 (Go.bits .and .u8 (rd l0 x1_2) 127)) (ji34)) = j_ := ⟨_, rfl⟩
                                          replace H : (if 0 ≤ (wrap64 ((wrap64 (x1_2 + 1)) - 1)) then (if (wrap64 ((wrap64 (x1_2 + 1)) - 1)) < (l0.length : Int) then (if (rd l0 (wrap64 ((wrap64 (x1_2 + 1)) - 1))) < 128 then (some (wrap64 (x10_2 + (ji36)), wrap64 (x1_2 + 1), 0)) else (impl_GetPrefix.l0 kj20 l0 (wrap64 (x1_2 + 1)) (wrap64 (x10_2 + (ji36))) (wrap64 (x11_2 + 1)))) else (none)) else (none)) = some (r1, r2, r3) := by first | (rw [hji36] at H; exact H) | (simp only [hji36] at H ⊢; exact H)
                                          have hji36_ : (IntKind.i64.wrap ((wrap64 (Go.bits .and .u8 (rd l0 x1_2) 127)) * 2 ^ min (ji34).toNat 64)) = ji36 := hji36
                                          have hji36z : (ji34) ≤ 64 → (IntKind.i64.wrap ((wrap64 (Go.bits .and .u8 (rd l0 x1_2) 127)) * 2 ^ (ji34).toNat)) = ji36 := shl_small hji36
                                          have hji36y : (wrap64 ((wrap64 (Go.bits .and .u8 (rd l0 x1_2) 127)) * 2 ^ min (ji34).toNat 64)) = ji36 := (i64_w _).symm.trans hji36_
                                          have hji36x : (ji34) ≤ 64 → (wrap64 ((wrap64 (Go.bits .and .u8 (rd l0 x1_2) 127)) * 2 ^ (ji34).toNat)) = ji36 := fun h_ => (i64_w _).symm.trans (hji36z h_)
                                          obtain ⟨ji37, hji37⟩ : ∃ j_ : Int, (wrap64 ((wrap64 (x1_2 + 1)) - 1)) = j_ := ⟨_, rfl⟩
                                          replace H : (if 0 ≤ (ji37) then (if (ji37) < (l0.length : Int) then (if (rd l0 (ji37)) < 128 then (some (wrap64 (x10_2 + (ji36)), wrap64 (x1_2 + 1), 0)) else (impl_GetPrefix.l0 kj20 l0 (wrap64 (x1_2 + 1)) (wrap64 (x10_2 + (ji36))) (wrap64 (x11_2 + 1)))) else (none)) else (none)) = some (r1, r2, r3) := by first | (rw [hji37] at H; exact H) | (simp only [hji37] at H ⊢; exact H)
                                          have hji37w : (IntKind.i64.wrap ((wrap64 (x1_2 + 1)) - 1)) = ji37 := (i64_w _).trans hji37
                                          by_cases c38 : 0 ≤ (ji37)
                                          · rw [if_pos c38] at H
                                            have c38b0 : decide (0 ≤ (ji37)) = true := decide_eq_true c38
                                            clear c38
                                            by_cases c39 : (ji37) < (l0.length : Int)
                                            · rw [if_pos c39] at H
                                              have c39b0 : decide ((ji37) < (l0.length : Int)) = true := decide_eq_true c39
                                              clear c39
                                              by_cases c40 : (rd l0 (ji37)) < 128
                                              · rw [if_pos c40] at H
                                                have c40b0 : decide ((rd l0 (ji37)) < 128) = true := decide_eq_true c40
                                                clear c40
                                                simp only [Option.some.injEq, Prod.mk.injEq] at H
                                                obtain ⟨rfl, rfl, rfl⟩ := H
                                                have p139 : 0 ≤ ((ji37) : Int) := of_decide_eq_true (by first | (with_reducible assumption) | assumption)
                                                have q139 : (ji37) < (l0.length : Int) := of_decide_eq_true (by first | (with_reducible assumption) | assumption)
                                                obtain ⟨ad139, e139, hx139_0⟩ := Kd.at_int HR0.out (ji37) p139 q139
                                                obtain rfl : ad137 = ad139 := (by injection e139)
                                                replace p139 := eq_true p139
                                                replace q139 := eq_true q139
                                                go_wp2
                                                go_ret3
                                                exact ⟨by first | rfl | (simp; done) | (simp only [← hji13, ← hji34, ← hji36, ← hji37] <;> (first | rfl | simp)) | (simp [*]; done), by repeat (first | exact Drawn0.refl _ | apply Drawn0.step)⟩
                                              · rw [if_neg c40] at H
                                                have c40b0 : decide ((rd l0 (ji37)) < 128) = false := decide_eq_false c40
                                                clear c40
                                                have H' := Aside0.mk H
                                                clear H
                                                have p139 : 0 ≤ ((ji37) : Int) := of_decide_eq_true (by first | (with_reducible assumption) | assumption)
                                                have q139 : (ji37) < (l0.length : Int) := of_decide_eq_true (by first | (with_reducible assumption) | assumption)
                                                obtain ⟨ad139, e139, hx139_0⟩ := Kd.at_int HR0.out (ji37) p139 q139
                                                obtain rfl : ad137 = ad139 := (by injection e139)
                                                replace p139 := eq_true p139
                                                replace q139 := eq_true q139
                                                go_wp2
                                                go_roundg kj20
                                                case measure => have := HJ5.out; have := HK2.out; have := HJ20.out; omega
                                                case rel => exact ⟨(wrap64 (x1_2 + 1)), (wrap64 (x10_2 + (ji36))), (wrap64 (x11_2 + 1)), (by first | rfl | (simp; done) | (simp [*]; done)), (by first | rfl | (simp; done) | (simp only [← hji36] <;> (first | rfl | simp)) | (simp [*]; done)), (by first | rfl | (simp; done) | (simp [*]; done)), H', ⟨by have := HJ5.out; have := HK2.out; have := HJ20.out; omega⟩, by repeat (first | exact Drawn0.refl _ | apply Drawn0.step)⟩
                                            · rw [if_neg c39] at H
                                              exact absurd H (by simp)
                                          · rw [if_neg c38] at H
                                            exact absurd H (by simp)
                                        · rw [if_neg c35] at H
                                          exact absurd H (by simp)
                                      · rw [if_neg c33] at H
                                        have c33b0 : decide (x11_2 < 9) = false := decide_eq_false c33
                                        clear c33
                                        obtain ⟨ji41, hji41⟩ : ∃ j_ : Int, (wrap64 ((wrap64 (x1_2 + 1)) - 1)) = j_ := ⟨_, rfl⟩
                                        replace H : (if 0 ≤ (ji41) then (if (ji41) < (l0.length : Int) then (if (rd l0 (ji41)) < 128 then (some (x10_2, wrap64 (x1_2 + 1), 0)) else (impl_GetPrefix.l0 kj20 l0 (wrap64 (x1_2 + 1)) x10_2 (wrap64 (x11_2 + 1)))) else (none)) else (none)) = some (r1, r2, r3) := by first | (rw [hji41] at H; exact H) | (simp only [hji41] at H ⊢; exact H)
                                        have hji41w : (IntKind.i64.wrap ((wrap64 (x1_2 + 1)) - 1)) = ji41 := (i64_w _).trans hji41
                                        by_cases c42 : 0 ≤ (ji41)
                                        · rw [if_pos c42] at H
                                          have c42b0 : decide (0 ≤ (ji41)) = true := decide_eq_true c42
                                          clear c42
                                          by_cases c43 : (ji41) < (l0.length : Int)
                                          · rw [if_pos c43] at H
                                            have c43b0 : decide ((ji41) < (l0.length : Int)) = true := decide_eq_true c43
                                            clear c43
                                            by_cases c44 : (rd l0 (ji41)) < 128
                                            · rw [if_pos c44] at H
                                              have c44b0 : decide ((rd l0 (ji41)) < 128) = true := decide_eq_true c44
                                              clear c44
                                              simp only [Option.some.injEq, Prod.mk.injEq] at H
                                              obtain ⟨rfl, rfl, rfl⟩ := H
                                              have p140 : 0 ≤ ((ji41) : Int) := of_decide_eq_true (by first | (with_reducible assumption) | assumption)
                                              have q140 : (ji41) < (l0.length : Int) := of_decide_eq_true (by first | (with_reducible assumption) | assumption)
                                              obtain ⟨ad140, e140, hx140_0⟩ := Kd.at_int HR0.out (ji41) p140 q140
                                              obtain rfl : ad137 = ad140 := (by injection e140)
                                              replace p140 := eq_true p140
                                              replace q140 := eq_true q140
                                              go_wp2
                                              go_ret3
                                              exact ⟨by first | rfl | (simp; done) | (simp only [← hji13, ← hji41] <;> (first | rfl | simp)) | (simp [*]; done), by repeat (first | exact Drawn0.refl _ | apply Drawn0.step)⟩
                                            · rw [if_neg c44] at H
                                              have c44b0 : decide ((rd l0 (ji41)) < 128) = false := decide_eq_false c44
                                              clear c44
                                              have H' := Aside0.mk H
                                              clear H
                                              have p140 : 0 ≤ ((ji41) : Int) := of_decide_eq_true (by first | (with_reducible assumption) | assumption)
                                              have q140 : (ji41) < (l0.length : Int) := of_decide_eq_true (by first | (with_reducible assumption) | assumption)
                                              obtain ⟨ad140, e140, hx140_0⟩ := Kd.at_int HR0.out (ji41) p140 q140
                                              obtain rfl : ad137 = ad140 := (by injection e140)
                                              replace p140 := eq_true p140
                                              replace q140 := eq_true q140
                                              go_wp2
                                              go_roundg kj20
                                              case measure => have := HJ5.out; have := HK2.out; have := HJ20.out; omega
                                              case rel => exact ⟨(wrap64 (x1_2 + 1)), (x10_2), (wrap64 (x11_2 + 1)), (by first | rfl | (simp; done) | (simp [*]; done)), (by first | rfl | (simp; done) | (simp [*]; done)), (by first | rfl | (simp; done) | (simp [*]; done)), H', ⟨by have := HJ5.out; have := HK2.out; have := HJ20.out; omega⟩, by repeat (first | exact Drawn0.refl _ | apply Drawn0.step)⟩
                                          · rw [if_neg c43] at H
                                            exact absurd H (by simp)
                                        · rw [if_neg c42] at H
                                          exact absurd H (by simp)
                              · rw [if_neg c20] at H
                                exact absurd H (by simp)
                            · rw [if_neg c19] at H
                              exact absurd H (by simp)
                        · rw [if_neg c17] at H
                          have c17b0 : decide (x11_2 < 10) = false := decide_eq_false c17
                          clear c17
                          simp only [Option.some.injEq, Prod.mk.injEq] at H
                          obtain ⟨rfl, rfl, rfl⟩ := H
                          go_wp2
                          go_ret3
                          exact ⟨by first | rfl | (simp; done) | (simp only [← hji13] <;> (first | rfl | simp)) | (simp [*]; done), by repeat (first | exact Drawn0.refl _ | apply Drawn0.step)⟩
                · rw [if_neg c15] at H
                  exact absurd H (by simp)
              · rw [if_neg c14] at H
                exact absurd H (by simp)
            · rw [if_neg c12] at H
              exact absurd H (by simp)

/-- A state of type 137 at block g of W; what its slices lead to came in by w0. -/
def IsS137 (w0 W : World) (g : Nat) (f0 : List Int) (f1 : Int) (f2 : Int) : Prop := ∃ A0 c0, W.heap[g]? = some (.cells #[.slice A0 f0.length c0, .int .i64 f1, .int .i64 f2] 137 (0, 0)) ∧ w0.heap.size ≤ g ∧ Kd.C (Kd.int .u8) w0 A0 f0.length f0
theorem IsS137.grown {w0 W : World} {g : Nat} {f0 : List Int} {f1 : Int} {f2 : Int} {W1 : World} {row : Option Nat} (h : IsS137 w0 W g f0 f1 f2) (hw : W.grownBy W1 row) (hne : some g ≠ row) : IsS137 w0 W1 g f0 f1 f2 := by
  obtain ⟨A0, c0, hb, hg, hr0⟩ := h
  exact ⟨A0, c0, blk_grown hb hw hne, hg, hr0⟩
theorem IsS137.own_neN {w0 W : World} {g : Nat} {f0 : List Int} {f1 : Int} {f2 : Int} {α : Type} {d : Kd α} {e : Nat} {base : Nat} {ok : Nat → Prop} {v : Value} {xs : List α} (h : IsS137 w0 W g f0 f1 f2) (ho : Kd.N d e W base ok v xs) (ht : e ≠ 137) : some g ≠ v.ownBlock := by
  obtain ⟨A0, c0, hb, hg, hr0⟩ := h
  exact Kd.N_ne ho hb ht
theorem IsS137.fresh {w0 W : World} {g : Nat} {f0 : List Int} {f1 : Int} {f2 : Int} (h : IsS137 w0 W g f0 f1 f2) : ∀ k, W.heap.size ≤ k → k ≠ g := by
  obtain ⟨A0, c0, hb, hg, hr0⟩ := h
  exact Kd.freshB hb
theorem IsS137.kept {w0 W : World} {g : Nat} {f0 : List Int} {f1 : Int} {f2 : Int} {W1 : World} {S : Nat → Prop} (h : IsS137 w0 W g f0 f1 f2) (hk : Kept W W1 S) (hne : ¬ S g) : IsS137 w0 W1 g f0 f1 f2 := by
  obtain ⟨A0, c0, hb, hg, hr0⟩ := h
  exact ⟨A0, c0, blk_kept hb hk hne, hg, hr0⟩
theorem IsS137.below {w0 W : World} {g : Nat} {f0 : List Int} {f1 : Int} {f2 : Int} {W1 : World} (h : IsS137 w0 W g f0 f1 f2) (hw : Below W.heap.size W W1) : IsS137 w0 W1 g f0 f1 f2 := h.grown (grown_of_below hw none) (by simp)
theorem IsS137.alloc {w0 W : World} {g : Nat} {f0 : List Int} {f1 : Int} {f2 : Int} (h : IsS137 w0 W g f0 f1 f2) (o : Obj) : IsS137 w0 (W.alloc o) g f0 f1 f2 := h.below (below_alloc (Below.refl _ _) o)
theorem IsS137.drewN {w0 W : World} {g : Nat} {f0 : List Int} {f1 : Int} {f2 : Int} (h : IsS137 w0 W g f0 f1 f2) (m : Nat) : IsS137 w0 (W.drewN m) g f0 f1 f2 := h
theorem IsS137.drew {w0 W : World} {g : Nat} {f0 : List Int} {f1 : Int} {f2 : Int} (h : IsS137 w0 W g f0 f1 f2) : IsS137 w0 W.drew g f0 f1 f2 := h
theorem IsS137.at_ {w0 W : World} {g : Nat} {f0 : List Int} {f1 : Int} {f2 : Int} {w' : World} {m : Nat} (hq : W.drewN m = w') (h : IsS137 w0 W g f0 f1 f2) : IsS137 w0 w' g f0 f1 f2 := by subst hq; exact IsS137.drewN h m
theorem IsS137.apart {w0 W : World} {g : Nat} {f0 : List Int} {f1 : Int} {f2 : Int} {α : Type} {d : Kd α} {e : Nat} {base : Nat} {ok : Nat → Prop} {v : Value} {xs : List α} (h : IsS137 w0 W g f0 f1 f2) (ho : d.R e W base ok v xs) (ht : ∀ q, q ∈ e :: d.E → q ≠ 137) : d.R e W base (fun k => ok k ∧ k ≠ g) v xs := by
  obtain ⟨A0, c0, hb, hg, hr0⟩ := h
  exact Kd.R_types ho hb ht
theorem IsS137.own_ne {w0 W : World} {g : Nat} {f0 : List Int} {f1 : Int} {f2 : Int} {α : Type} {d : Kd α} {e : Nat} {base : Nat} {ok : Nat → Prop} {v : Value} {xs : List α} (h : IsS137 w0 W g f0 f1 f2) (ho : d.R e W base ok v xs) (ht : e ≠ 137) : some g ≠ v.ownBlock := by
  obtain ⟨A0, c0, hb, hg, hr0⟩ := h
  exact Kd.R_ne ho hb ht
theorem IsS137.apartQ {w0 W : World} {g : Nat} {f0 : List Int} {f1 : Int} {f2 : Int} {α : Type} {d : Kd α} {e : Nat} {base : Nat} {ok : Nat → Prop} {v : Value} {xs : List α} (h : IsS137 w0 W g f0 f1 f2) (ho : d.Q e W base ok v xs) (ht : ∀ q, q ∈ e :: d.E → q ≠ 137) : d.Q e W base (fun k => ok k ∧ k ≠ g) v xs := by
  obtain ⟨A0, c0, hb, hg, hr0⟩ := h
  exact Kd.Q_types ho hb ht
theorem IsS137.own_neQ {w0 W : World} {g : Nat} {f0 : List Int} {f1 : Int} {f2 : Int} {α : Type} {d : Kd α} {e : Nat} {base : Nat} {ok : Nat → Prop} {v : Value} {xs : List α} (h : IsS137 w0 W g f0 f1 f2) (ho : d.Q e W base ok v xs) (ht : e ≠ 137) : some g ≠ v.ownBlock := by
  obtain ⟨A0, c0, hb, hg, hr0⟩ := h
  exact Kd.Q_ne ho hb ht
theorem IsS137.apartS {w0 W : World} {g : Nat} {f0 : List Int} {f1 : Int} {f2 : Int} {α : Type} {d : Kd α} {e : Nat} {base : Nat} {ok : Nat → Prop} {v : Value} {xs : List α} (h : IsS137 w0 W g f0 f1 f2) (ho : d.S e W base ok v xs) (ht : ∀ q, q ∈ e :: d.E → q ≠ 137) : d.S e W base (fun k => ok k ∧ k ≠ g) v xs := by
  obtain ⟨A0, c0, hb, hg, hr0⟩ := h
  exact Kd.S_types ho hb ht
theorem IsS137.own_neS {w0 W : World} {g : Nat} {f0 : List Int} {f1 : Int} {f2 : Int} {α : Type} {d : Kd α} {e : Nat} {base : Nat} {ok : Nat → Prop} {v : Value} {xs : List α} (h : IsS137 w0 W g f0 f1 f2) (ho : d.S e W base ok v xs) (ht : e ≠ 137) : some g ≠ v.ownBlock := by
  obtain ⟨A0, c0, hb, hg, hr0⟩ := h
  exact Kd.S_ne ho hb ht
theorem IsS137.lt {w0 W : World} {g : Nat} {f0 : List Int} {f1 : Int} {f2 : Int} (h : IsS137 w0 W g f0 f1 f2) : g < W.heap.size := by
  obtain ⟨A0, c0, hb, hg, hr0⟩ := h
  exact blk_lt hb
theorem IsS137.ge {w0 W : World} {g : Nat} {f0 : List Int} {f1 : Int} {f2 : Int} (h : IsS137 w0 W g f0 f1 f2) : w0.heap.size ≤ g := by
  obtain ⟨A0, c0, hb, hg, hr0⟩ := h
  exact hg
theorem IsS137.ne_blk {w0 W : World} {g : Nat} {f0 : List Int} {f1 : Int} {f2 : Int} {a : Nat} {cs : Array Value} {t : TypeId} {fr : Nat × Nat} (h : IsS137 w0 W g f0 f1 f2) (hb2 : W.heap[a]? = some (.cells cs t fr)) (ht : t ≠ 137) : g ≠ a := by
  obtain ⟨A0, c0, hb, hg, hr0⟩ := h
  rintro rfl
  rw [hb] at hb2
  injection hb2 with hb2
  injection hb2 with _ ht2
  exact ht ht2.symm
theorem IsS137.far {w0 W : World} {g : Nat} {f0 : List Int} {f1 : Int} {f2 : Int} {p : Addr} (h : IsS137 w0 W g f0 f1 f2) (hne : g ≠ p.block) (u : Value) : IsS137 w0 (W.setCell p u) g f0 f1 f2 := by
  obtain ⟨A0, c0, hb, hg, hr0⟩ := h
  exact ⟨A0, c0, blk_far hb hne u, hg, hr0⟩
theorem cellS137_0 {W : World} {g : Nat} {A0 : Option Addr} {c0 : Nat} {f0 : List Int} {f1 : Int} {f2 : Int} (h : W.heap[g]? = some (.cells #[.slice A0 f0.length c0, .int .i64 f1, .int .i64 f2] 137 (0, 0))) : W.cell? ⟨g, 0, none⟩ = some (.slice A0 f0.length c0) := (blk_cell h 0).trans rfl
theorem cellS137_1 {W : World} {g : Nat} {A0 : Option Addr} {c0 : Nat} {f0 : List Int} {f1 : Int} {f2 : Int} (h : W.heap[g]? = some (.cells #[.slice A0 f0.length c0, .int .i64 f1, .int .i64 f2] 137 (0, 0))) : W.cell? ⟨g, 1, none⟩ = some (.int .i64 f1) := (blk_cell h 1).trans rfl
theorem IsS137.set_1 {w0 W : World} {g : Nat} {f0 : List Int} {f1 : Int} {f2 : Int} (h : IsS137 w0 W g f0 f1 f2) (x : Int) : IsS137 w0 (W.setCell ⟨g, 1, none⟩ (.int .i64 x)) g f0 x f2 := by
  obtain ⟨A0, c0, hb, hg, hr0⟩ := h
  exact ⟨A0, c0, by simpa using blk_set hb 1 (.int .i64 x), hg, hr0⟩
theorem cellS137_2 {W : World} {g : Nat} {A0 : Option Addr} {c0 : Nat} {f0 : List Int} {f1 : Int} {f2 : Int} (h : W.heap[g]? = some (.cells #[.slice A0 f0.length c0, .int .i64 f1, .int .i64 f2] 137 (0, 0))) : W.cell? ⟨g, 2, none⟩ = some (.int .i64 f2) := (blk_cell h 2).trans rfl
theorem IsS137.set_2 {w0 W : World} {g : Nat} {f0 : List Int} {f1 : Int} {f2 : Int} (h : IsS137 w0 W g f0 f1 f2) (x : Int) : IsS137 w0 (W.setCell ⟨g, 2, none⟩ (.int .i64 x)) g f0 f1 x := by
  obtain ⟨A0, c0, hb, hg, hr0⟩ := h
  exact ⟨A0, c0, by simpa using blk_set hb 2 (.int .i64 x), hg, hr0⟩
theorem IsS137.new (w0 W : World) (A0 : Option Addr) (c0 : Nat) (f0 : List Int) (f1 : Int) (f2 : Int) (hB : Below w0.heap.size w0 W) (hr0 : Kd.C (Kd.int .u8) w0 A0 f0.length f0) : IsS137 w0 (W.alloc (.cells #[.slice A0 f0.length c0, .int .i64 f1, .int .i64 f2] 137)) W.heap.size f0 f1 f2 := ⟨A0, c0, by simpa using heap_alloc_new W _, hB.size, hr0⟩

/-! ### spec_l01Source: function 80 -/
def spec_l01Source.f (l0 : List Int) : Option (List Int × Int × Int) := some (l0, 0, (l0.length : Int) % 1000)
set_option maxHeartbeats 8000000 in
set_option maxRecDepth 100000 in
theorem spec_l01Source.calls (A0 : Option Addr) (c0 : Nat) (l0 : List Int) (r1 : List Int) (r2 : Int) (r3 : Int) (w0 w : World) (hB : Below w0.heap.size w0 w) (hr0 : Kd.C (Kd.int .u8) w0 A0 l0.length l0) (hc0 : l0.length ≤ c0) (h : spec_l01Source.f l0 = some (r1, r2, r3)) :
    Calls Try.prog 80 #[.slice A0 l0.length c0] w fun e w' => ∃ g_ : Nat, e = .returned (.pointer (some ⟨g_, 0, none⟩)) ∧ IsS137 w0 w' g_ r1 r2 r3 ∧ Below w0.heap.size w0 w' ∧ Below w.heap.size w w' := by
  have hu137 := Try.underlying137
  have HR0 := Aside0.mk hr0
  have HC0 := Aside0.mk hc0
  clear hr0 hc0
  have HBW := Aside0.mk (Below.refl w.heap.size w)
  have HW0 := Aside0.mk hB.size
  have HB := Aside0.mk hB
  clear hB
  have H : (some (l0, 0, (l0.length : Int) % 1000)) = some (r1, r2, r3) := h
  clear h
  simp only [Option.some.injEq, Prod.mk.injEq] at H
  obtain ⟨rfl, rfl, rfl⟩ := H
  go_enter Try.func80, Try.ntmps80
  go_wp2_with (first | ((with_reducible refine gate_dst (N := 8) rfl ?_); refine box_event ?hg (N := 8) ?hd (cs := #[.slice A0 l0.length c0, .int .i64 0, .int .i64 ((l0.length : Int) % 1000)]) (t := 137) ?hr ?_; (case hd => rfl); (case hg => rfl); (case hr => first | (go_simp; done) | (go_simp; rfl)); intro gb141 hg w2 hbox hb; have n0_ := Aside0.mk (below_step HBW.out hb); have n1_ := Aside0.mk (below_step (by repeat (first | (with_reducible first | exact HB.out | apply below_alloc | apply pw_below_drewN | apply below_drew1) | exact HB.out)) hb); have n2_ := Aside0.mk (hbox); have n3_ := Aside0.mk ((by rw [hg]; exact (below_size (by repeat (first | (with_reducible first | exact HBW.out | apply below_alloc | apply pw_below_drewN | apply below_drew1) | exact HBW.out))) : w.heap.size ≤ gb141)); have n4_ := Aside0.mk ((Nat.le_trans HW0.out (by rw [hg]; exact (below_size (by repeat (first | (with_reducible first | exact HBW.out | apply below_alloc | apply pw_below_drewN | apply below_drew1) | exact HBW.out))) : w.heap.size ≤ gb141) : w0.heap.size ≤ gb141)); clear HBW; clear HB; have HBW := n0_; have HB := n1_; have BK141 := n2_; have GW141 := n3_; have GE141 := n4_; clear n0_ n1_ n2_ n3_ n4_; clear hb hbox hg))
  go_ret
  exact ⟨_, rfl, (show IsS137 w0 _ gb141 l0 0 ((l0.length : Int) % 1000) from ⟨_, _, by (with_reducible repeat (first | refine blk_drewN ?_ _ | refine blk_drew ?_ | refine blk_alloc ?_ _)); exact BK141.out, GE141.out, HR0.out⟩), by repeat (first | (with_reducible first | exact HB.out | apply below_alloc | apply pw_below_drewN | apply below_drew1 | refine below_set ?_ GE141.out) | exact HB.out), by repeat (first | (with_reducible first | exact HBW.out | apply below_alloc | apply pw_below_drewN | apply below_drew1 | refine below_set ?_ GW141.out) | exact HBW.out)⟩

/-! ### spec_l01Src_byte: function 106 -/
def spec_l01Src_byte.f (s0_0 : List Int) (s0_1 : Int) (s0_2 : Int) : Option (Int × Int × Int) :=
  if 0 ≤ s0_1 ∧ s0_1 < 1000000000000 ∧ 0 ≤ s0_2 ∧ s0_2 < 2147483648 ∧ s0_0.length < 1000000000000 then
    (if s0_1 < (s0_0.length : Int) then (if 0 ≤ rd s0_0 s0_1 ∧ rd s0_0 s0_1 ≤ 255 then some (rd s0_0 s0_1, s0_1 + 1, (s0_2 * 31 + rd s0_0 s0_1 + 7) % 2147483648) else none)
    else if 4000 + 4 * (s0_0.length : Int) < s0_1 + 1 then some (0, s0_1 + 1, s0_2)
    else some ((s0_2 * 1103515245 + 12345) % 2147483648 / 65536 % 256, s0_1 + 1, (s0_2 * 1103515245 + 12345) % 2147483648))
  else none
set_option maxHeartbeats 8000000 in
set_option maxRecDepth 100000 in
theorem spec_l01Src_byte.calls (g : Nat) (s0_0 : List Int) (s0_1 : Int) (s0_2 : Int) (r1 : Int) (r2 : Int) (r3 : Int) (w0 w : World) (hI : IsS137 w0 w g s0_0 s0_1 s0_2) (hB : Below w0.heap.size w0 w) (h : spec_l01Src_byte.f s0_0 s0_1 s0_2 = some (r1, r2, r3)) :
    Calls Try.prog 106 #[.pointer (some ⟨g, 0, none⟩)] w fun e w' => e = .returned (.int .i64 r1) ∧ IsS137 w0 w' g s0_0 r2 r3 ∧ Below w0.heap.size w0 w' ∧ KeepBut w w' g none := by
  unfold spec_l01Src_byte.f at h
  by_cases hb : 0 ≤ s0_1 ∧ s0_1 < 1000000000000 ∧ 0 ≤ s0_2 ∧ s0_2 < 2147483648 ∧ s0_0.length < 1000000000000
  · rw [if_pos hb] at h
    obtain ⟨b1, b2, b3, b4, b5⟩ := hb
    obtain ⟨A0, c0, HG, hge, HC⟩ := hI
    have hc0 := cellS137_0 HG
    have hc1 := cellS137_1 HG
    have hc2 := cellS137_2 HG
    have hf1 := blk_frozen HG 1
    have hf2 := blk_frozen HG 2
    have HG' := Aside0.mk HG
    clear HG
    have HCw := Aside0.mk (Kd.C_below HC hB)
    have HC' := Aside0.mk HC
    clear HC
    have HB := Aside0.mk hB
    clear hB
    by_cases h1 : s0_1 < (s0_0.length : Int)
    · rw [if_pos h1] at h
      by_cases h2 : 0 ≤ rd s0_0 s0_1 ∧ rd s0_0 s0_1 ≤ 255
      · rw [if_pos h2] at h
        simp only [Option.some.injEq, Prod.mk.injEq] at h
        have H := Aside0.mk h
        clear h
        obtain ⟨h3, h4⟩ := h2
        obtain ⟨ad, ea, hx⟩ := Kd.at_int HCw.out s0_1 b1 h1
        have h1b : decide (s0_1 + 1 ≤ (s0_0.length : Int)) = true := decide_eq_true (by omega)
        subst ea
        go_enter Try.func106, Try.ntmps106
        go_wp2
        go_quiet (fail)
        go_wp2
        obtain ⟨W2, hW2⟩ : ∃ W2 : World, W2 = (((w.setCell ⟨g, 1, none⟩ (.int .i64 (s0_1 + 1))).drewN nq).drew) := ⟨_, rfl⟩
        have HB2 : Aside0 (Below w0.heap.size w0 W2) := ⟨by rw [hW2]; exact below_drew1 (pw_below_drewN (below_set HB.out hge) _)⟩
        have HG2 : Aside0 (W2.heap[g]? = some (.cells #[.slice (some ad) s0_0.length c0, .int .i64 (s0_1 + 1), .int .i64 s0_2] 137 (0, 0))) := ⟨by rw [hW2]; exact blk_drew (blk_drewN (blk_put HG'.out 1 _ rfl) _)⟩
        have HK2 : Aside0 (KeepBut w W2 g none) := ⟨by rw [hW2]; exact (KeepBut.refl w g none).set_ 1 _⟩
        refine wp_region_still_tail 23 (by kernel_rfl) (by kernel_rfl) ?_
        change wpStill _ _ (((w.setCell ⟨g, 1, none⟩ (.int .i64 (s0_1 + 1))).drewN nq).drew) (fun a' => wpList _ _ _ _ a' (((w.setCell ⟨g, 1, none⟩ (.int .i64 (s0_1 + 1))).drewN nq).drew)) _ _
        rw [← hW2]
        clear hW2 hc0 hc1 hc2 hf1 hf2 hx
        simp only [List.take_succ_cons, List.take_zero, List.drop_succ_cons, List.drop_zero]
        have hc0 := cellS137_0 HG2.out
        have hc1 := cellS137_1 HG2.out
        have hc2 := cellS137_2 HG2.out
        have hf2 := blk_frozen HG2.out 2
        obtain ⟨ad', ea, hx⟩ := Kd.at_int (Kd.C_below HC'.out HB2.out) s0_1 b1 h1
        cases ea
        have e0 : IntKind.i64.wrap s0_1 = s0_1 := IntWalk.i64_in _ (by omega)
        have e1 : IntKind.i64.wrap (s0_2 * 31) = s0_2 * 31 := IntWalk.i64_in _ (by omega)
        have e2 : IntKind.i64.wrap (s0_2 * 31 + rd s0_0 s0_1) = s0_2 * 31 + rd s0_0 s0_1 := IntWalk.i64_in _ (by omega)
        have e3 : IntKind.i64.wrap (s0_2 * 31 + rd s0_0 s0_1 + 7) = s0_2 * 31 + rd s0_0 s0_1 + 7 := IntWalk.i64_in _ (by omega)
        have e4 : IntKind.i64.wrap (rd s0_0 s0_1) = rd s0_0 s0_1 := IntWalk.i64_in _ (by omega)
        have e5 : (s0_2 * 31 + rd s0_0 s0_1 + 7).tmod 2147483648 = (s0_2 * 31 + rd s0_0 s0_1 + 7) % 2147483648 := Int.tmod_eq_emod_of_nonneg (by omega)
        repeat still_step
        refine wpStill_nil ?_
        clear e1 e2 e3 e5
        have HX := Aside0.mk (show 0 ≤ (s0_2 * 31 + rd s0_0 s0_1 + 7) % 2147483648 ∧ (s0_2 * 31 + rd s0_0 s0_1 + 7) % 2147483648 < 2147483648 from by omega)
        generalize (s0_2 * 31 + rd s0_0 s0_1 + 7) % 2147483648 = z at *
        go_wp2
        obtain ⟨W3, hW3⟩ : ∃ W3 : World, W3 = W2.setCell ⟨g, 2, none⟩ (.int .i64 z) := ⟨_, rfl⟩
        have HB3 : Aside0 (Below w0.heap.size w0 W3) := ⟨by rw [hW3]; exact below_set HB2.out hge⟩
        have HG3 : Aside0 (W3.heap[g]? = some (.cells #[.slice (some ad) s0_0.length c0, .int .i64 (s0_1 + 1), .int .i64 z] 137 (0, 0))) := ⟨by rw [hW3]; exact blk_put HG2.out 2 _ rfl⟩
        have HK3 : Aside0 (KeepBut w W3 g none) := ⟨by rw [hW3]; exact HK2.out.set_ 2 _⟩
        rw [← hW3]
        clear hW3 hc0 hc1 hc2 hf2 hx
        have hc0 := cellS137_0 HG3.out
        have hc1 := cellS137_1 HG3.out
        obtain ⟨ad', ea, hx⟩ := Kd.at_int (Kd.C_below HC'.out HB3.out) s0_1 b1 h1
        cases ea
        go_quiet (fail)
        go_wp2
        go_ret
        obtain ⟨rfl, rfl, rfl⟩ := H.out
        exact ⟨rfl, ⟨some ad, c0, HG3.out, hge, HC'.out⟩, pw_below_drewN HB3.out _, HK3.out⟩
      · rw [if_neg h2] at h; exact absurd h (by simp)
    · rw [if_neg h1] at h
      have h1b : decide (s0_1 + 1 ≤ (s0_0.length : Int)) = false := decide_eq_false (by omega)
      by_cases h2 : 4000 + 4 * (s0_0.length : Int) < s0_1 + 1
      · rw [if_pos h2] at h
        simp only [Option.some.injEq, Prod.mk.injEq] at h
        have H := Aside0.mk h
        clear h
        have h2b : decide (4000 + 4 * (s0_0.length : Int) < s0_1 + 1) = true := decide_eq_true h2
        go_enter Try.func106, Try.ntmps106
        go_wp2
        go_quiet (fail)
        go_wp2
        go_quiet (fail)
        go_wp2
        go_ret
        obtain ⟨rfl, rfl, rfl⟩ := H.out
        exact ⟨rfl, ⟨A0, c0, blk_drewN (blk_drewN (blk_put HG'.out 1 _ rfl) _) _, hge, HC'.out⟩, pw_below_drewN (pw_below_drewN (below_set HB.out hge) _) _, (KeepBut.refl w g none).set_ 1 _⟩
      · rw [if_neg h2] at h
        simp only [Option.some.injEq, Prod.mk.injEq] at h
        have H := Aside0.mk h
        clear h
        have h2b : decide (4000 + 4 * (s0_0.length : Int) < s0_1 + 1) = false := decide_eq_false h2
        have hm : s0_2 * 1103515245 ≤ 2369780942852710400 := by omega
        go_enter Try.func106, Try.ntmps106
        go_wp2
        go_quiet (fail)
        go_wp2
        go_quiet (fail)
        go_wp2
        go_ret
        obtain ⟨rfl, rfl, rfl⟩ := H.out
        exact ⟨rfl, ⟨A0, c0, blk_put (blk_drewN (blk_put HG'.out 1 _ rfl) _) 2 _ rfl, hge, HC'.out⟩, below_set (pw_below_drewN (below_set HB.out hge) _) hge, ((KeepBut.refl w g none).set_ 1 _).set_ 2 _⟩
  · rw [if_neg hb] at h; exact absurd h (by simp)

end Go.Proofs.Ytffmebjogdemhaa.PFnPrefix
