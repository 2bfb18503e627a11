-- Written by a program of this repo (xprint.py) out of the translation; Lean checks it. SHRUNK
import Derived.Test.YtkmopmoglgcamaaPFnPipex0
namespace Go.Proofs.Ytkmopmoglgcamaa.PFnPipe
open Go.RowKit Go.Proofs.YtkmopmoglgcamaaW.PrintWords Go.Proofs.YtkmopmoglgcamaaW.PrintLast Go.Proofs.YtkmopmoglgcamaaW.PrintMore
attribute [local go_sem] max2_int min2_int max_two min_two max_three min_three max_four min_four   -- for this text's walks alone
set_option linter.unusedVariables false
set_option linter.unusedSimpArgs false

/-! ### impl_inVar: function 23 -/
def impl_inVar.f (a0 : Int) : Option (Bool) := if a0 ≥ 0 then (some (decide (a0 ≤ 4611686018427387903))) else (some false)
set_option maxHeartbeats 8000000 in
set_option maxRecDepth 100000 in
theorem impl_inVar.calls (a0 : Int) (r : Bool) (w : World) (h : impl_inVar.f a0 = some r) :
    Calls Try.prog 23 #[.int .i64 a0] w fun e w' => e = .returned (.bool r) ∧ Drawn0 w w' := by
 have H : (if a0 ≥ 0 then (some (decide (a0 ≤ 4611686018427387903))) else (some false)) = some r := h; clear h; by_cases c2 : a0 ≥ 0
 ·rw [if_pos c2] at H; have c2b0 : decide (0 ≤ a0) = true := decide_eq_true c2; clear c2; obtain rfl := Option.some.inj H; (go_enter Try.func23, Try.ntmps23); (go_wp2); (go_ret); exact ⟨by first | rfl | (simp; done) | (simp [*]; done), by repeat (first | exact Drawn0.refl _ | apply Drawn0.step)⟩
 ·rw [if_neg c2] at H; have c2b0 : decide (0 ≤ a0) = false := decide_eq_false c2; clear c2; obtain rfl := Option.some.inj H; (go_enter Try.func23, Try.ntmps23); (go_wp2); (go_ret); exact ⟨by first | rfl | (simp; done) | (simp [*]; done), by repeat (first | exact Drawn0.refl _ | apply Drawn0.step)⟩

/-! ### impl_CreditNext: function 25 -/
def impl_CreditNext.j0 : Nat → Int → Int → Int → Bool → Option (Int)
  | 0, _, _, _, _ => none
  | k + 1, x0, x1, x2, x28 => if x28 = true then (some (-1)) else (if (wrap64 ((wrap64 (x0 + x1)) - x2)) ≥ (wrap64 (Int.tdiv (wrap64 (x1 + 1)) 2)) then (some (wrap64 (x0 + x1))) else (some x2))
def impl_CreditNext.f (k : Nat) (a0 : Int) (a1 : Int) (a2 : Int) : Option (Int) := if a0 < 0 then (impl_CreditNext.j0 k a0 a1 a2 true) else (if a0 > 4611686018427371519 then (impl_CreditNext.j0 k a0 a1 a2 true) else (if a2 < 0 then (impl_CreditNext.j0 k a0 a1 a2 true) else (if a2 > 4611686018427371519 then (impl_CreditNext.j0 k a0 a1 a2 true) else (if a1 < 1 then (impl_CreditNext.j0 k a0 a1 a2 true) else (impl_CreditNext.j0 k a0 a1 a2 (decide (a1 > 16384)))))))
theorem impl_CreditNext.mono_l : ∀ k, (∀ y0 y1 y2 y3, LeO (impl_CreditNext.j0 k y0 y1 y2 y3) (impl_CreditNext.j0 (k + 1) y0 y1 y2 y3))
  | 0 => fun _ _ _ _ r h => by simp [impl_CreditNext.j0] at h
  | k + 1 => by
    have ih0 := impl_CreditNext.mono_l k
    · intro y0 y1 y2 y3
      unfold impl_CreditNext.j0
      repeat' first
      | (with_reducible exact ih0 _ _ _ _)
      | (with_reducible exact LeO.refl _)
      | (with_reducible exact LeO.none _)
      | (with_reducible refine LeO.ite ?_ ?_)
      | (with_reducible refine LeO.bind ?_ (fun _ => ?_))
      | exact ih0 _ _ _ _
      | exact LeO.none _
      | refine LeO.ite ?_ ?_
      | refine LeO.bind ?_ (fun _ => ?_)
theorem impl_CreditNext.mono : ∀ a0 a1 a2 k, LeO (impl_CreditNext.f k a0 a1 a2) (impl_CreditNext.f (k + 1) a0 a1 a2) := by
  intro a0 a1 a2 k
  have ih0 := impl_CreditNext.mono_l k
  unfold impl_CreditNext.f
  repeat' first
      | (with_reducible exact ih0 _ _ _ _)
      | (with_reducible exact LeO.refl _)
      | (with_reducible exact LeO.none _)
      | (with_reducible refine LeO.ite ?_ ?_)
      | (with_reducible refine LeO.bind ?_ (fun _ => ?_))
      | exact ih0 _ _ _ _
      | exact LeO.none _
      | refine LeO.ite ?_ ?_
      | refine LeO.bind ?_ (fun _ => ?_)
set_option maxHeartbeats 8000000 in
set_option maxRecDepth 100000 in
theorem impl_CreditNext.calls (k : Nat) (a0 : Int) (a1 : Int) (a2 : Int) (r : Int) (w : World) (h : impl_CreditNext.f k a0 a1 a2 = some r) :
    Calls Try.prog 25 #[.int .i64 a0, .int .i64 a1, .int .i64 a2] w fun e w' => e = .returned (.int .i64 r) ∧ Drawn0 w w' := by
 have H : (if a0 < 0 then (impl_CreditNext.j0 k a0 a1 a2 true) else (if a0 > 4611686018427371519 then (impl_CreditNext.j0 k a0 a1 a2 true) else (if a2 < 0 then (impl_CreditNext.j0 k a0 a1 a2 true) else (if a2 > 4611686018427371519 then (impl_CreditNext.j0 k a0 a1 a2 true) else (if a1 < 1 then (impl_CreditNext.j0 k a0 a1 a2 true) else (impl_CreditNext.j0 k a0 a1 a2 (decide (a1 > 16384)))))))) = some r := h; clear h; have HC4 := Aside0.mk H; clear H; (go_enter Try.func25, Try.ntmps25); (go_upto_region 1 with (fail)); (go_cut [28] (fun v28 wc => ∃ (kq : Nat) (x28_3 : Bool), v28 = .bool x28_3 ∧ Aside0 (impl_CreditNext.j0 kq a0 a1 a2 x28_3 = some r) ∧ Aside0 (kq ≤ k) ∧ Drawn0 w wc))
 case first =>
  have H := HC4.out; clear HC4; by_cases c5 : a0 < 0
  ·rw [if_pos c5] at H; have c5b0 : decide (a0 < 0) = true := decide_eq_true c5; clear c5; (first | rw [c5b0] | (simp only [i64_w, i32_w]; rw [c5b0]) | skip); have H' := Aside0.mk H; clear H; (go_wp2); (go_meet)
   case rel => exact ⟨_, (true), (by first | rfl | (simp; done) | (simp [*]; done)), H', ⟨by first | omega | exact Nat.le_refl _⟩, by repeat (first | exact Drawn0.refl _ | apply Drawn0.step)⟩
  ·rw [if_neg c5] at H; have c5b0 : decide (a0 < 0) = false := decide_eq_false c5; clear c5; (first | rw [c5b0] | (simp only [i64_w, i32_w]; rw [c5b0]) | skip); by_cases c6 : a0 > 4611686018427371519
   ·rw [if_pos c6] at H; have c6b0 : decide (4611686018427371519 < a0) = true := decide_eq_true c6; clear c6; have H' := Aside0.mk H; clear H; (go_wp2); (go_meet)
    case rel => exact ⟨_, (true), (by first | rfl | (simp; done) | (simp [*]; done)), H', ⟨by first | omega | exact Nat.le_refl _⟩, by repeat (first | exact Drawn0.refl _ | apply Drawn0.step)⟩
   ·rw [if_neg c6] at H; have c6b0 : decide (4611686018427371519 < a0) = false := decide_eq_false c6; clear c6; by_cases c7 : a2 < 0
    ·rw [if_pos c7] at H; have c7b0 : decide (a2 < 0) = true := decide_eq_true c7; clear c7; have H' := Aside0.mk H; clear H; (go_wp2); (go_meet)
     case rel => exact ⟨_, (true), (by first | rfl | (simp; done) | (simp [*]; done)), H', ⟨by first | omega | exact Nat.le_refl _⟩, by repeat (first | exact Drawn0.refl _ | apply Drawn0.step)⟩
    ·rw [if_neg c7] at H; have c7b0 : decide (a2 < 0) = false := decide_eq_false c7; clear c7; by_cases c8 : a2 > 4611686018427371519
     ·rw [if_pos c8] at H; have c8b0 : decide (4611686018427371519 < a2) = true := decide_eq_true c8; clear c8; have H' := Aside0.mk H; clear H; (go_wp2); (go_meet)
      case rel => exact ⟨_, (true), (by first | rfl | (simp; done) | (simp [*]; done)), H', ⟨by first | omega | exact Nat.le_refl _⟩, by repeat (first | exact Drawn0.refl _ | apply Drawn0.step)⟩
     ·rw [if_neg c8] at H; have c8b0 : decide (4611686018427371519 < a2) = false := decide_eq_false c8; clear c8; by_cases c9 : a1 < 1
      ·rw [if_pos c9] at H; have c9b0 : decide (a1 < 1) = true := decide_eq_true c9; clear c9; have H' := Aside0.mk H; clear H; (go_wp2); (go_meet)
       case rel => exact ⟨_, (true), (by first | rfl | (simp; done) | (simp [*]; done)), H', ⟨by first | omega | exact Nat.le_refl _⟩, by repeat (first | exact Drawn0.refl _ | apply Drawn0.step)⟩
      ·rw [if_neg c9] at H; have c9b0 : decide (a1 < 1) = false := decide_eq_false c9; clear c9; have H' := Aside0.mk H; clear H; (go_wp2); (go_meet)
       case rel => exact ⟨_, (decide (a1 > 16384)), (by first | rfl | (simp; done) | (simp [*]; done)), H', ⟨by first | omega | exact Nat.le_refl _⟩, by repeat (first | exact Drawn0.refl _ | apply Drawn0.step)⟩
 case rest =>
  clear HC4; (try clear c2); (try clear p2); (try clear c5); (try clear c5b0); (try clear c6); (try clear c6b0); (try clear c7); (try clear c7b0); (try clear c8); (try clear c8b0); (try clear c9); (try clear c9b0); obtain ⟨kq, x28_3, rfl, HA, HJ3, ⟨mc3, rfl⟩⟩ := hcut
  cases kq with
  | zero => exact absurd HA.out (by simp [impl_CreditNext.j0])
  | succ kj3 =>
   have H := HA.out; clear HA; simp only [impl_CreditNext.j0] at H; by_cases c10 : x28_3 = true
   ·subst c10; (have H1 : (some (-1)) = some r := by rw [if_pos rfl] at H; exact H); clear H; have H := H1; clear H1; obtain rfl := Option.some.inj H; (go_wp2); (go_ret); exact ⟨by first | rfl | (simp; done) | (simp [*]; done), by repeat (first | exact Drawn0.refl _ | apply Drawn0.step)⟩
   ·replace c10 := Bool.eq_false_iff.mpr c10; subst c10; (have H1 : (if (wrap64 ((wrap64 (a0 + a1)) - a2)) ≥ (wrap64 (Int.tdiv (wrap64 (a1 + 1)) 2)) then (some (wrap64 (a0 + a1))) else (some a2)) = some r := by rw [if_neg (show ¬ (false = true) by decide)] at H; exact H); clear H; have H := H1; clear H1; by_cases c11 : (wrap64 ((wrap64 (a0 + a1)) - a2)) ≥ (wrap64 (Int.tdiv (wrap64 (a1 + 1)) 2))
    ·rw [if_pos c11] at H; have c11b0 : decide ((wrap64 (Int.tdiv (wrap64 (a1 + 1)) 2)) ≤ (wrap64 ((wrap64 (a0 + a1)) - a2))) = true := decide_eq_true c11; clear c11; obtain rfl := Option.some.inj H; (go_wp2); (go_ret); exact ⟨by first | rfl | (simp; done) | (simp [*]; done), by repeat (first | exact Drawn0.refl _ | apply Drawn0.step)⟩
    ·rw [if_neg c11] at H; have c11b0 : decide ((wrap64 (Int.tdiv (wrap64 (a1 + 1)) 2)) ≤ (wrap64 ((wrap64 (a0 + a1)) - a2))) = false := decide_eq_false c11; clear c11; obtain rfl := Option.some.inj H; (go_wp2); (go_ret); exact ⟨by first | rfl | (simp; done) | (simp [*]; done), by repeat (first | exact Drawn0.refl _ | apply Drawn0.step)⟩

end Go.Proofs.Ytkmopmoglgcamaa.PFnPipe
