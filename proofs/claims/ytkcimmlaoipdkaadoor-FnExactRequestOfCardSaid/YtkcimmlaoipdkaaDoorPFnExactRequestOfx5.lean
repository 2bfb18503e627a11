-- Written by a program of this repo (xprint.py) out of the translation; Lean checks it.
import Derived.Test.YtkcimmlaoipdkaaDoorPFnExactRequestOfx0
namespace Go.Proofs.YtkcimmlaoipdkaaDoor.PFnExactRequestOf
open Go.RowKit Go.Proofs.YtkcimmlaoipdkaaDoorW.PrintWords Go.Proofs.YtkcimmlaoipdkaaDoorW.PrintLast Go.Proofs.YtkcimmlaoipdkaaDoorW.PrintMore
attribute [local go_sem] max2_int min2_int max_two min_two max_three min_three max_four min_four   -- for this text's walks alone
set_option linter.unusedVariables false
set_option linter.unusedSimpArgs false

/-! ### spec_l15Heads: function 56 -/
def spec_l15Heads.l0 : Nat → List (S78) → Int → Option (Int)
  | 0, _, _ => none
  | k + 1, x0, x3 => if x3 < (x0.length : Int) then (if 0 ≤ x3 then (if (((rd_T78 x0 x3).f0).size : Int) > 0 then (if 0 < (((rd_T78 x0 x3).f0).size : Int) then (if (bt ((rd_T78 x0 x3).f0) 0) = 58 then (spec_l15Heads.l0 k x0 (wrap64 (x3 + 1))) else (some x3)) else (none)) else (some x3)) else (none)) else (some x3)
def spec_l15Heads.f (k : Nat) (l0 : List (S78)) : Option (Int) := spec_l15Heads.l0 k l0 0
theorem spec_l15Heads.mono_l : ∀ k, (∀ y0 y1, LeO (spec_l15Heads.l0 k y0 y1) (spec_l15Heads.l0 (k + 1) y0 y1))
  | 0 => fun _ _ r h => by simp [spec_l15Heads.l0] at h
  | k + 1 => by
    have ih0 := spec_l15Heads.mono_l k
    · intro y0 y1
      unfold spec_l15Heads.l0
      repeat' first
      | (with_reducible exact ih0 _ _)
      | (with_reducible exact LeO.refl _)
      | (with_reducible exact LeO.none _)
      | (with_reducible refine LeO.ite ?_ ?_)
      | (with_reducible refine LeO.bind ?_ (fun _ => ?_))
      | exact ih0 _ _
      | exact LeO.none _
      | refine LeO.ite ?_ ?_
      | refine LeO.bind ?_ (fun _ => ?_)
theorem spec_l15Heads.mono : ∀ a0 k, LeO (spec_l15Heads.f k a0) (spec_l15Heads.f (k + 1) a0) := by
  intro a0 k
  have ih0 := spec_l15Heads.mono_l k
  unfold spec_l15Heads.f
  repeat' first
      | (with_reducible exact ih0 _ _)
      | (with_reducible exact LeO.refl _)
      | (with_reducible exact LeO.none _)
      | (with_reducible refine LeO.ite ?_ ?_)
      | (with_reducible refine LeO.bind ?_ (fun _ => ?_))
      | exact ih0 _ _
      | exact LeO.none _
      | refine LeO.ite ?_ ?_
      | refine LeO.bind ?_ (fun _ => ?_)
set_option maxHeartbeats 8000000 in
set_option maxRecDepth 100000 in
theorem spec_l15Heads.calls (k : Nat) (A0 : Option Addr) (c0 : Nat) (l0 : List (S78)) (r : Int) (w : World) (hr0 : Kd.C k78 w A0 l0.length l0) (hc0 : l0.length ≤ c0) (h : spec_l15Heads.f k l0 = some r) :
    Calls Tryd.prog 56 #[.slice A0 l0.length c0] w fun e w' => e = .returned (.int .i64 r) ∧ Drawn0 w w' := by
  have HR0 := Aside0.mk hr0
  have HC0 := Aside0.mk hc0
  clear hr0 hc0
  have H : (spec_l15Heads.l0 k l0 0) = some r := h
  clear h
  have H' := Aside0.mk H
  clear H
  go_enter Tryd.func56, Tryd.ntmps56
  go_wp2
  go_loopg [3] k (fun kq v3 w' => ∃ (x3_1 : Int), v3 = .int .i64 x3_1 ∧ Aside0 (spec_l15Heads.l0 kq l0 x3_1 = some r) ∧ Aside0 (kq ≤ k) ∧ Drawn0 w w')
  case atStart => exact ⟨(0), (by first | rfl | (simp; done) | (simp [*]; done)), H', ⟨Nat.le_refl _⟩, by repeat (first | exact Drawn0.refl _ | apply Drawn0.step)⟩
  case round =>
    clear H'
    obtain ⟨x3_1, rfl, HA, HK1, ⟨m1, rfl⟩⟩ := hrel
    cases gk with
    | zero => exact absurd HA.out (by simp [spec_l15Heads.l0])
    | succ k1 =>
      have H := HA.out
      clear HA
      simp only [spec_l15Heads.l0] at H
      by_cases c2 : x3_1 < (l0.length : Int)
      · rw [if_pos c2] at H
        have c2b0 : decide (x3_1 < (l0.length : Int)) = true := decide_eq_true c2
        clear c2
        by_cases c3 : 0 ≤ x3_1
        · rw [if_pos c3] at H
          have c3b0 : decide (0 ≤ x3_1) = true := decide_eq_true c3
          clear c3
          by_cases c4 : (((rd_T78 l0 x3_1).f0).size : Int) > 0
          · rw [if_pos c4] at H
            have c4b0 : decide (0 < (((rd_T78 l0 x3_1).f0).size : Int)) = true := decide_eq_true c4
            have c4b1 : decide (0 < ((rd_T78 l0 x3_1).f0).size) = true := decide_eq_true (by omega)
            clear c4
            by_cases c5 : 0 < (((rd_T78 l0 x3_1).f0).size : Int)
            · rw [if_pos c5] at H
              have c5b0 : decide (0 < (((rd_T78 l0 x3_1).f0).size : Int)) = true := decide_eq_true c5
              have c5b1 : decide (0 < ((rd_T78 l0 x3_1).f0).size) = true := decide_eq_true (by omega)
              clear c5
              by_cases c7 : (bt ((rd_T78 l0 x3_1).f0) 0) = 58
              · rw [if_pos c7] at H
                have c7b0 : ((bt ((rd_T78 l0 x3_1).f0) 0) == 58) = true := beq_iff_eq.mpr c7
                have c7b1 : ((bt ((rd_T78 l0 x3_1).f0) 0) != 58) = false := bne_eq_false_iff_eq.mpr c7
                clear c7
                have H' := Aside0.mk H
                clear H
                have p149 : 0 ≤ (x3_1 : Int) := of_decide_eq_true (by first | (with_reducible assumption) | assumption)
                have q149 : x3_1 < (l0.length : Int) := of_decide_eq_true (by first | (with_reducible assumption) | assumption)
                obtain ⟨ad149, e149, hx149_0, hx149_1⟩ := at_T78 HR0.out x3_1 p149 q149
                cases e149
                replace p149 := eq_true p149
                replace q149 := eq_true q149
                have p150 : 0 ≤ (x3_1 : Int) := of_decide_eq_true (by first | (with_reducible assumption) | assumption)
                have q150 : x3_1 < (l0.length : Int) := of_decide_eq_true (by first | (with_reducible assumption) | assumption)
                obtain ⟨ad150, e150, hx150_0, hx150_1⟩ := at_T78 HR0.out x3_1 p150 q150
                obtain rfl : ad149 = ad150 := (by injection e150)
                replace p150 := eq_true p150
                replace q150 := eq_true q150
                have p6 : 0 ≤ (0 : Int) := (by omega)
                have q6 : 0 < ((rd_T78 l0 x3_1).f0).size := (by have : (0 : Int) < (((rd_T78 l0 x3_1).f0).size : Int) := of_decide_eq_true (by first | (with_reducible assumption) | assumption); omega)
                have hx6 : ∀ h : 0 < ((rd_T78 l0 x3_1).f0).size, ((((rd_T78 l0 x3_1).f0)[0]'h).toNat : Int) = bt ((rd_T78 l0 x3_1).f0) 0 := bt_at ((rd_T78 l0 x3_1).f0) 0
                clear p6
                have qi6 : (0 < (((rd_T78 l0 x3_1).f0).size : Int)) = True := eq_true (of_decide_eq_true (by first | (with_reducible assumption) | assumption))
                replace q6 := eq_true q6
                go_wp2
                go_roundg k1
                case measure => have := HK1.out; omega
                case rel => exact ⟨(wrap64 (x3_1 + 1)), (by first | rfl | (simp; done) | (simp [*]; done)), H', ⟨by have := HK1.out; omega⟩, by repeat (first | exact Drawn0.refl _ | apply Drawn0.step)⟩
              · rw [if_neg c7] at H
                have c7b0 : ((bt ((rd_T78 l0 x3_1).f0) 0) == 58) = false := beq_eq_false_iff_ne.mpr c7
                have c7b1 : ((bt ((rd_T78 l0 x3_1).f0) 0) != 58) = true := bne_iff_ne.mpr c7
                obtain rfl := Option.some.inj H
                have p149 : 0 ≤ (x3_1 : Int) := of_decide_eq_true (by first | (with_reducible assumption) | assumption)
                have q149 : x3_1 < (l0.length : Int) := of_decide_eq_true (by first | (with_reducible assumption) | assumption)
                obtain ⟨ad149, e149, hx149_0, hx149_1⟩ := at_T78 HR0.out x3_1 p149 q149
                cases e149
                replace p149 := eq_true p149
                replace q149 := eq_true q149
                have p150 : 0 ≤ (x3_1 : Int) := of_decide_eq_true (by first | (with_reducible assumption) | assumption)
                have q150 : x3_1 < (l0.length : Int) := of_decide_eq_true (by first | (with_reducible assumption) | assumption)
                obtain ⟨ad150, e150, hx150_0, hx150_1⟩ := at_T78 HR0.out x3_1 p150 q150
                obtain rfl : ad149 = ad150 := (by injection e150)
                replace p150 := eq_true p150
                replace q150 := eq_true q150
                have p6 : 0 ≤ (0 : Int) := (by omega)
                have q6 : 0 < ((rd_T78 l0 x3_1).f0).size := (by have : (0 : Int) < (((rd_T78 l0 x3_1).f0).size : Int) := of_decide_eq_true (by first | (with_reducible assumption) | assumption); omega)
                have hx6 : ∀ h : 0 < ((rd_T78 l0 x3_1).f0).size, ((((rd_T78 l0 x3_1).f0)[0]'h).toNat : Int) = bt ((rd_T78 l0 x3_1).f0) 0 := bt_at ((rd_T78 l0 x3_1).f0) 0
                clear p6
                have qi6 : (0 < (((rd_T78 l0 x3_1).f0).size : Int)) = True := eq_true (of_decide_eq_true (by first | (with_reducible assumption) | assumption))
                replace q6 := eq_true q6
                go_wp2
                go_ret
                exact ⟨by first | rfl | (simp; done) | (simp [*]; done), by repeat (first | exact Drawn0.refl _ | apply Drawn0.step)⟩
            · rw [if_neg c5] at H
              exact absurd H (by simp)
          · rw [if_neg c4] at H
            have c4b0 : decide (0 < (((rd_T78 l0 x3_1).f0).size : Int)) = false := decide_eq_false c4
            have c4b1 : decide (0 < ((rd_T78 l0 x3_1).f0).size) = false := decide_eq_false (by omega)
            clear c4
            obtain rfl := Option.some.inj H
            have p149 : 0 ≤ (x3_1 : Int) := of_decide_eq_true (by first | (with_reducible assumption) | assumption)
            have q149 : x3_1 < (l0.length : Int) := of_decide_eq_true (by first | (with_reducible assumption) | assumption)
            obtain ⟨ad149, e149, hx149_0, hx149_1⟩ := at_T78 HR0.out x3_1 p149 q149
            cases e149
            replace p149 := eq_true p149
            replace q149 := eq_true q149
            go_wp2
            go_ret
            exact ⟨by first | rfl | (simp; done) | (simp [*]; done), by repeat (first | exact Drawn0.refl _ | apply Drawn0.step)⟩
        · rw [if_neg c3] at H
          exact absurd H (by simp)
      · rw [if_neg c2] at H
        have c2b0 : decide (x3_1 < (l0.length : Int)) = false := decide_eq_false c2
        clear c2
        obtain rfl := Option.some.inj H
        go_wp2
        go_ret
        exact ⟨by first | rfl | (simp; done) | (simp [*]; done), by repeat (first | exact Drawn0.refl _ | apply Drawn0.step)⟩

end Go.Proofs.YtkcimmlaoipdkaaDoor.PFnExactRequestOf
