-- Written by a program of this repo (xprint.py) out of the translation; Lean checks it.
import Derived.Test.YtkcimmlaoipdkaaDoorPFnExactResponseFieldsx0
namespace Go.Proofs.YtkcimmlaoipdkaaDoor.PFnExactResponseFields
open Go.RowKit Go.Proofs.YtkcimmlaoipdkaaDoorW.PrintWords Go.Proofs.YtkcimmlaoipdkaaDoorW.PrintLast Go.Proofs.YtkcimmlaoipdkaaDoorW.PrintMore
attribute [local go_sem] max2_int min2_int max_two min_two max_three min_three max_four min_four   -- for this text's walks alone
set_option linter.unusedVariables false
set_option linter.unusedSimpArgs false

/-! ### spec_LengthOf: function 17 -/
mutual
def spec_LengthOf.l0 : Nat → List (S78) → Int → Int → Option (Int × Int)
  | 0, _, _, _ => none
  | k + 1, x0, x4, x5 => if x5 < (x0.length : Int) then (if 0 ≤ x5 then (if ((rd_T78 x0 x5).f0).toList = ([99, 111, 110, 116, 101, 110, 116, 45, 108, 101, 110, 103, 116, 104] : List UInt8) then (if x4 ≥ 0 then (spec_LengthOf.j1 k x0 x5 ((rd_T78 x0 x5).f1) true) else (if (((rd_T78 x0 x5).f1).size : Int) < 1 then (spec_LengthOf.j1 k x0 x5 ((rd_T78 x0 x5).f1) true) else (spec_LengthOf.j1 k x0 x5 ((rd_T78 x0 x5).f1) (decide ((((rd_T78 x0 x5).f1).size : Int) > 9))))) else (spec_LengthOf.l0 k x0 x4 (wrap64 (x5 + 1)))) else (none)) else (some (x4, 0))
def spec_LengthOf.j1 : Nat → List (S78) → Int → ByteArray → Bool → Option (Int × Int)
  | 0, _, _, _, _ => none
  | k + 1, x0, x5, x6, x39 => if x39 = true then (some (0, 17)) else (spec_LengthOf.l1 k x0 0 x5 x6 0)
def spec_LengthOf.l1 : Nat → List (S78) → Int → Int → ByteArray → Int → Option (Int × Int)
  | 0, _, _, _, _, _ => none
  | k + 1, x0, x4, x5, x6, x7 => if x7 < (x6.size : Int) then (if 0 ≤ x7 then (if (bt x6 x7) < 48 then (some (0, 17)) else (if (bt x6 x7) > 57 then (some (0, 17)) else (spec_LengthOf.l1 k x0 (wrap64 ((wrap64 (10 * x4)) + (((bt x6 x7) - 48) % 256))) x5 x6 (wrap64 (x7 + 1))))) else (none)) else (spec_LengthOf.l0 k x0 x4 (wrap64 (x5 + 1)))
end
def spec_LengthOf.f (k : Nat) (l0 : List (S78)) : Option (Int × Int) := if (l0.length : Int) > 64 then (some (0, 4)) else (spec_LengthOf.l0 k l0 (-1) 0)
theorem spec_LengthOf.mono_l : ∀ k, (∀ y0 y1 y2, LeO (spec_LengthOf.l0 k y0 y1 y2) (spec_LengthOf.l0 (k + 1) y0 y1 y2)) ∧ (∀ y0 y1 y2 y3, LeO (spec_LengthOf.j1 k y0 y1 y2 y3) (spec_LengthOf.j1 (k + 1) y0 y1 y2 y3)) ∧ (∀ y0 y1 y2 y3 y4, LeO (spec_LengthOf.l1 k y0 y1 y2 y3 y4) (spec_LengthOf.l1 (k + 1) y0 y1 y2 y3 y4))
  | 0 => ⟨fun _ _ _ r h => by simp [spec_LengthOf.l0] at h, fun _ _ _ _ r h => by simp [spec_LengthOf.j1] at h, fun _ _ _ _ _ r h => by simp [spec_LengthOf.l1] at h⟩
  | k + 1 => by
    obtain ⟨ih0, ih1, ih2⟩ := spec_LengthOf.mono_l k
    refine ⟨?_, ?_, ?_⟩
    · intro y0 y1 y2
      unfold spec_LengthOf.l0
      repeat' first
      | (with_reducible exact ih0 _ _ _)
      | (with_reducible exact ih1 _ _ _ _)
      | (with_reducible exact ih2 _ _ _ _ _)
      | (with_reducible exact LeO.refl _)
      | (with_reducible exact LeO.none _)
      | (with_reducible refine LeO.ite ?_ ?_)
      | (with_reducible refine LeO.bind ?_ (fun _ => ?_))
      | exact ih0 _ _ _
      | exact ih1 _ _ _ _
      | exact ih2 _ _ _ _ _
      | exact LeO.none _
      | refine LeO.ite ?_ ?_
      | refine LeO.bind ?_ (fun _ => ?_)
    · intro y0 y1 y2 y3
      unfold spec_LengthOf.j1
      repeat' first
      | (with_reducible exact ih0 _ _ _)
      | (with_reducible exact ih1 _ _ _ _)
      | (with_reducible exact ih2 _ _ _ _ _)
      | (with_reducible exact LeO.refl _)
      | (with_reducible exact LeO.none _)
      | (with_reducible refine LeO.ite ?_ ?_)
      | (with_reducible refine LeO.bind ?_ (fun _ => ?_))
      | exact ih0 _ _ _
      | exact ih1 _ _ _ _
      | exact ih2 _ _ _ _ _
      | exact LeO.none _
      | refine LeO.ite ?_ ?_
      | refine LeO.bind ?_ (fun _ => ?_)
    · intro y0 y1 y2 y3 y4
      unfold spec_LengthOf.l1
      repeat' first
      | (with_reducible exact ih0 _ _ _)
      | (with_reducible exact ih1 _ _ _ _)
      | (with_reducible exact ih2 _ _ _ _ _)
      | (with_reducible exact LeO.refl _)
      | (with_reducible exact LeO.none _)
      | (with_reducible refine LeO.ite ?_ ?_)
      | (with_reducible refine LeO.bind ?_ (fun _ => ?_))
      | exact ih0 _ _ _
      | exact ih1 _ _ _ _
      | exact ih2 _ _ _ _ _
      | exact LeO.none _
      | refine LeO.ite ?_ ?_
      | refine LeO.bind ?_ (fun _ => ?_)
theorem spec_LengthOf.mono : ∀ a0 k, LeO (spec_LengthOf.f k a0) (spec_LengthOf.f (k + 1) a0) := by
  intro a0 k
  obtain ⟨ih0, ih1, ih2⟩ := spec_LengthOf.mono_l k
  unfold spec_LengthOf.f
  repeat' first
      | (with_reducible exact ih0 _ _ _)
      | (with_reducible exact ih1 _ _ _ _)
      | (with_reducible exact ih2 _ _ _ _ _)
      | (with_reducible exact LeO.refl _)
      | (with_reducible exact LeO.none _)
      | (with_reducible refine LeO.ite ?_ ?_)
      | (with_reducible refine LeO.bind ?_ (fun _ => ?_))
      | exact ih0 _ _ _
      | exact ih1 _ _ _ _
      | exact ih2 _ _ _ _ _
      | exact LeO.none _
      | refine LeO.ite ?_ ?_
      | refine LeO.bind ?_ (fun _ => ?_)
set_option maxHeartbeats 8000000 in
set_option maxRecDepth 100000 in
theorem spec_LengthOf.calls (k : Nat) (A0 : Option Addr) (c0 : Nat) (l0 : List (S78)) (r1 : Int) (r2 : Int) (w : World) (hr0 : Kd.C k78 w A0 l0.length l0) (hc0 : l0.length ≤ c0) (h : spec_LengthOf.f k l0 = some (r1, r2)) :
    Calls Tryd.prog 17 #[.slice A0 l0.length c0] w fun e w' => e = .returned (.tuple #[.int .i64 r1, .int .i64 r2]) ∧ Drawn0 w w' := by
  have HR0 := Aside0.mk hr0
  have HC0 := Aside0.mk hc0
  clear hr0 hc0
  have H : (if (l0.length : Int) > 64 then (some (0, 4)) else (spec_LengthOf.l0 k l0 (-1) 0)) = some (r1, r2) := h
  clear h
  by_cases c2 : (l0.length : Int) > 64
  · rw [if_pos c2] at H
    have c2b0 : decide (64 < (l0.length : Int)) = true := decide_eq_true c2
    have c2b1 : decide (64 < l0.length) = true := decide_eq_true (by omega)
    clear c2
    simp only [Option.some.injEq, Prod.mk.injEq] at H
    obtain ⟨rfl, rfl⟩ := H
    go_enter Tryd.func17, Tryd.ntmps17
    go_wp2
    go_ret2
    exact ⟨by first | rfl | (simp; done) | (simp [*]; done), by repeat (first | exact Drawn0.refl _ | apply Drawn0.step)⟩
  · rw [if_neg c2] at H
    have c2b0 : decide (64 < (l0.length : Int)) = false := decide_eq_false c2
    have c2b1 : decide (64 < l0.length) = false := decide_eq_false (by omega)
    clear c2
    have H' := Aside0.mk H
    clear H
    go_enter Tryd.func17, Tryd.ntmps17
    go_wp2
    go_loopg [4, 5] k (fun kq v4 v5 w' => ∃ (x4_1 : Int) (x5_1 : Int), v4 = .int .i64 x4_1 ∧ v5 = .int .i64 x5_1 ∧ Aside0 (spec_LengthOf.l0 kq l0 x4_1 x5_1 = some (r1, r2)) ∧ Aside0 (kq ≤ k) ∧ Drawn0 w w')
    case atStart => exact ⟨((-1)), (0), (by first | rfl | (simp; done) | (simp [*]; done)), (by first | rfl | (simp; done) | (simp [*]; done)), H', ⟨Nat.le_refl _⟩, by repeat (first | exact Drawn0.refl _ | apply Drawn0.step)⟩
    case round =>
      clear H'
      try clear c1
      try clear c2
      try clear c2b0
      try clear c2b1
      try clear p2
      obtain ⟨x4_1, x5_1, rfl, rfl, HA, HK1, ⟨m1, rfl⟩⟩ := hrel
      cases gk with
      | zero => exact absurd HA.out (by simp [spec_LengthOf.l0])
      | succ k1 =>
        have H := HA.out
        clear HA
        simp only [spec_LengthOf.l0] at H
        by_cases c3 : x5_1 < (l0.length : Int)
        · rw [if_pos c3] at H
          have c3b0 : decide (x5_1 < (l0.length : Int)) = true := decide_eq_true c3
          clear c3
          by_cases c4 : 0 ≤ x5_1
          · rw [if_pos c4] at H
            have c4b0 : decide (0 ≤ x5_1) = true := decide_eq_true c4
            clear c4
            by_cases c5 : ((rd_T78 l0 x5_1).f0).toList = ([99, 111, 110, 116, 101, 110, 116, 45, 108, 101, 110, 103, 116, 104] : List UInt8)
            · rw [if_pos c5] at H
              have c5b0 : (((rd_T78 l0 x5_1).f0).toList == ([99, 111, 110, 116, 101, 110, 116, 45, 108, 101, 110, 103, 116, 104] : List UInt8)) = true := beq_iff_eq.mpr c5
              have c5b1 : (((rd_T78 l0 x5_1).f0).toList != ([99, 111, 110, 116, 101, 110, 116, 45, 108, 101, 110, 103, 116, 104] : List UInt8)) = false := bne_eq_false_iff_eq.mpr c5
              clear c5
              have HC6 := Aside0.mk H
              clear H
              have p122 : 0 ≤ (x5_1 : Int) := of_decide_eq_true (by first | (with_reducible assumption) | assumption)
              have q122 : x5_1 < (l0.length : Int) := of_decide_eq_true (by first | (with_reducible assumption) | assumption)
              obtain ⟨ad122, e122, hx122_0, hx122_1⟩ := at_T78 HR0.out x5_1 p122 q122
              cases e122
              replace p122 := eq_true p122
              replace q122 := eq_true q122
              have p123 : 0 ≤ (x5_1 : Int) := of_decide_eq_true (by first | (with_reducible assumption) | assumption)
              have q123 : x5_1 < (l0.length : Int) := of_decide_eq_true (by first | (with_reducible assumption) | assumption)
              obtain ⟨ad123, e123, hx123_0, hx123_1⟩ := at_T78 HR0.out x5_1 p123 q123
              obtain rfl : ad122 = ad123 := (by injection e123)
              replace p123 := eq_true p123
              replace q123 := eq_true q123
              go_upto_region 9 with (fail)
              go_cut [39] (fun v39 wc => ∃ (kq : Nat) (x39_5 : Bool), v39 = .bool x39_5 ∧ Aside0 (spec_LengthOf.j1 kq l0 x5_1 ((rd_T78 l0 x5_1).f1) x39_5 = some (r1, r2)) ∧ Aside0 (kq ≤ k1) ∧ Drawn0 w wc)
              case first =>
                have H := HC6.out
                clear HC6
                by_cases c7 : x4_1 ≥ 0
                · rw [if_pos c7] at H
                  have c7b0 : decide (0 ≤ x4_1) = true := decide_eq_true c7
                  clear c7
                  (first | rw [c7b0] | (simp only [i64_w, i32_w]; rw [c7b0]) | skip)
                  have H' := Aside0.mk H
                  clear H
                  go_wp2
                  go_meet
                  case rel => exact ⟨_, (true), (by first | rfl | (simp; done) | (simp [*]; done)), H', ⟨by have := HK1.out; first | omega | exact Nat.le_refl _⟩, by repeat (first | exact Drawn0.refl _ | apply Drawn0.step)⟩
                · rw [if_neg c7] at H
                  have c7b0 : decide (0 ≤ x4_1) = false := decide_eq_false c7
                  clear c7
                  (first | rw [c7b0] | (simp only [i64_w, i32_w]; rw [c7b0]) | skip)
                  by_cases c8 : (((rd_T78 l0 x5_1).f1).size : Int) < 1
                  · rw [if_pos c8] at H
                    have c8b0 : decide ((((rd_T78 l0 x5_1).f1).size : Int) < 1) = true := decide_eq_true c8
                    have c8b1 : decide (((rd_T78 l0 x5_1).f1).size < 1) = true := decide_eq_true (by omega)
                    clear c8
                    have H' := Aside0.mk H
                    clear H
                    go_wp2
                    go_meet
                    case rel => exact ⟨_, (true), (by first | rfl | (simp; done) | (simp [*]; done)), H', ⟨by have := HK1.out; first | omega | exact Nat.le_refl _⟩, by repeat (first | exact Drawn0.refl _ | apply Drawn0.step)⟩
                  · rw [if_neg c8] at H
                    have c8b0 : decide ((((rd_T78 l0 x5_1).f1).size : Int) < 1) = false := decide_eq_false c8
                    have c8b1 : decide (((rd_T78 l0 x5_1).f1).size < 1) = false := decide_eq_false (by omega)
                    clear c8
                    have H' := Aside0.mk H
                    clear H
                    go_wp2
                    go_meet
                    case rel => exact ⟨_, (decide ((((rd_T78 l0 x5_1).f1).size : Int) > 9)), (by first | rfl | (simp; done) | (simp [*]; done)), H', ⟨by have := HK1.out; first | omega | exact Nat.le_refl _⟩, by repeat (first | exact Drawn0.refl _ | apply Drawn0.step)⟩
              case rest =>
                clear HC6
                try clear c1
                try clear p1
                try clear q1
                try clear hx1
                try clear c2
                try clear c2b0
                try clear c2b1
                try clear p2
                try clear c3
                try clear c3b0
                try clear c4
                try clear c4b0
                try clear c5
                try clear c5b0
                try clear c5b1
                try clear c7
                try clear c7b0
                try clear c8
                try clear c8b0
                try clear c8b1
                try clear hx122_0
                try clear hx122_1
                try clear hx123_0
                try clear hx123_1
                try clear p122
                try clear p123
                try clear p2
                try clear q122
                try clear q123
                obtain ⟨kq, x39_5, rfl, HA, HJ5, ⟨mc5, rfl⟩⟩ := hcut
                cases kq with
                | zero => exact absurd HA.out (by simp [spec_LengthOf.j1])
                | succ kj5 =>
                  have H := HA.out
                  clear HA
                  simp only [spec_LengthOf.j1] at H
                  by_cases c9 : x39_5 = true
                  · subst c9
                    have H1 : (some (0, 17)) = some (r1, r2) := by rw [if_pos rfl] at H; exact H
                    clear H
                    have H := H1
                    clear H1
                    simp only [Option.some.injEq, Prod.mk.injEq] at H
                    obtain ⟨rfl, rfl⟩ := H
                    go_wp2
                    go_ret2
                    exact ⟨by first | rfl | (simp; done) | (simp [*]; done), by repeat (first | exact Drawn0.refl _ | apply Drawn0.step)⟩
                  · replace c9 := Bool.eq_false_iff.mpr c9
                    subst c9
                    have H1 : (spec_LengthOf.l1 kj5 l0 0 x5_1 ((rd_T78 l0 x5_1).f1) 0) = some (r1, r2) := by rw [if_neg (show ¬ (false = true) by decide)] at H; exact H
                    clear H
                    have H := H1
                    clear H1
                    have H' := Aside0.mk H
                    clear H
                    go_wp2
                    go_loopg [4, 7] kj5 (fun kq v4 v7 w' => ∃ (x4_3 : Int) (x7_3 : Int), v4 = .int .i64 x4_3 ∧ v7 = .int .i64 x7_3 ∧ Aside0 (spec_LengthOf.l1 kq l0 x4_3 x5_1 ((rd_T78 l0 x5_1).f1) x7_3 = some (r1, r2)) ∧ Aside0 (kq ≤ kj5) ∧ Drawn0 w w')
                    case atStart => exact ⟨(0), (0), (by first | rfl | (simp; done) | (simp [*]; done)), (by first | rfl | (simp; done) | (simp [*]; done)), H', ⟨Nat.le_refl _⟩, by repeat (first | exact Drawn0.refl _ | apply Drawn0.step)⟩
                    case round =>
                      clear H'
                      try clear c1
                      try clear p1
                      try clear q1
                      try clear hx1
                      try clear c2
                      try clear c2b0
                      try clear c2b1
                      try clear p2
                      try clear c3
                      try clear c3b0
                      try clear c4
                      try clear c4b0
                      try clear c5
                      try clear c5b0
                      try clear c5b1
                      try clear c7
                      try clear c7b0
                      try clear c8
                      try clear c8b0
                      try clear c8b1
                      try clear c9
                      try clear hx122_0
                      try clear hx122_1
                      try clear hx123_0
                      try clear hx123_1
                      try clear p1
                      try clear p122
                      try clear p123
                      try clear p2
                      try clear q1
                      try clear q122
                      try clear q123
                      obtain ⟨x4_3, x7_3, rfl, rfl, HA, HK3, ⟨m3, rfl⟩⟩ := hrel
                      cases gk with
                      | zero => exact absurd HA.out (by simp [spec_LengthOf.l1])
                      | succ k3 =>
                        have H := HA.out
                        clear HA
                        simp only [spec_LengthOf.l1] at H
                        by_cases c10 : x7_3 < (((rd_T78 l0 x5_1).f1).size : Int)
                        · rw [if_pos c10] at H
                          have c10b0 : decide (x7_3 < (((rd_T78 l0 x5_1).f1).size : Int)) = true := decide_eq_true c10
                          clear c10
                          by_cases c11 : 0 ≤ x7_3
                          · rw [if_pos c11] at H
                            have c11b0 : decide (0 ≤ x7_3) = true := decide_eq_true c11
                            clear c11
                            by_cases c13 : (bt ((rd_T78 l0 x5_1).f1) x7_3) < 48
                            · rw [if_pos c13] at H
                              have c13b0 : decide ((bt ((rd_T78 l0 x5_1).f1) x7_3) < 48) = true := decide_eq_true c13
                              clear c13
                              simp only [Option.some.injEq, Prod.mk.injEq] at H
                              obtain ⟨rfl, rfl⟩ := H
                              have p12 : 0 ≤ (x7_3 : Int) := of_decide_eq_true (by first | (with_reducible assumption) | assumption)
                              have q12 : x7_3 < (((rd_T78 l0 x5_1).f1).size : Int) := of_decide_eq_true (by first | (with_reducible assumption) | assumption)
                              have hx12 := bt_at ((rd_T78 l0 x5_1).f1) x7_3
                              replace p12 := eq_true p12
                              replace q12 := eq_true q12
                              go_wp2
                              go_ret2
                              exact ⟨by first | rfl | (simp; done) | (simp [*]; done), by repeat (first | exact Drawn0.refl _ | apply Drawn0.step)⟩
                            · rw [if_neg c13] at H
                              have c13b0 : decide ((bt ((rd_T78 l0 x5_1).f1) x7_3) < 48) = false := decide_eq_false c13
                              clear c13
                              by_cases c15 : (bt ((rd_T78 l0 x5_1).f1) x7_3) > 57
                              · rw [if_pos c15] at H
                                have c15b0 : decide (57 < (bt ((rd_T78 l0 x5_1).f1) x7_3)) = true := decide_eq_true c15
                                clear c15
                                simp only [Option.some.injEq, Prod.mk.injEq] at H
                                obtain ⟨rfl, rfl⟩ := H
                                have p12 : 0 ≤ (x7_3 : Int) := of_decide_eq_true (by first | (with_reducible assumption) | assumption)
                                have q12 : x7_3 < (((rd_T78 l0 x5_1).f1).size : Int) := of_decide_eq_true (by first | (with_reducible assumption) | assumption)
                                have hx12 := bt_at ((rd_T78 l0 x5_1).f1) x7_3
                                replace p12 := eq_true p12
                                replace q12 := eq_true q12
                                have p14 : 0 ≤ (x7_3 : Int) := of_decide_eq_true (by first | (with_reducible assumption) | assumption)
                                have q14 : x7_3 < (((rd_T78 l0 x5_1).f1).size : Int) := of_decide_eq_true (by first | (with_reducible assumption) | assumption)
                                have hx14 := bt_at ((rd_T78 l0 x5_1).f1) x7_3
                                replace p14 := eq_true p14
                                replace q14 := eq_true q14
                                go_wp2
                                go_ret2
                                exact ⟨by first | rfl | (simp; done) | (simp [*]; done), by repeat (first | exact Drawn0.refl _ | apply Drawn0.step)⟩
                              · rw [if_neg c15] at H
                                have c15b0 : decide (57 < (bt ((rd_T78 l0 x5_1).f1) x7_3)) = false := decide_eq_false c15
                                clear c15
                                have H' := Aside0.mk H
                                clear H
                                have p12 : 0 ≤ (x7_3 : Int) := of_decide_eq_true (by first | (with_reducible assumption) | assumption)
                                have q12 : x7_3 < (((rd_T78 l0 x5_1).f1).size : Int) := of_decide_eq_true (by first | (with_reducible assumption) | assumption)
                                have hx12 := bt_at ((rd_T78 l0 x5_1).f1) x7_3
                                replace p12 := eq_true p12
                                replace q12 := eq_true q12
                                have p14 : 0 ≤ (x7_3 : Int) := of_decide_eq_true (by first | (with_reducible assumption) | assumption)
                                have q14 : x7_3 < (((rd_T78 l0 x5_1).f1).size : Int) := of_decide_eq_true (by first | (with_reducible assumption) | assumption)
                                have hx14 := bt_at ((rd_T78 l0 x5_1).f1) x7_3
                                replace p14 := eq_true p14
                                replace q14 := eq_true q14
                                have p16 : 0 ≤ (x7_3 : Int) := of_decide_eq_true (by first | (with_reducible assumption) | assumption)
                                have q16 : x7_3 < (((rd_T78 l0 x5_1).f1).size : Int) := of_decide_eq_true (by first | (with_reducible assumption) | assumption)
                                have hx16 := bt_at ((rd_T78 l0 x5_1).f1) x7_3
                                replace p16 := eq_true p16
                                replace q16 := eq_true q16
                                go_wp2
                                go_roundg k3
                                case measure => have := HK1.out; have := HJ5.out; have := HK3.out; omega
                                case rel => exact ⟨(wrap64 ((wrap64 (10 * x4_3)) + (((bt ((rd_T78 l0 x5_1).f1) x7_3) - 48) % 256))), (wrap64 (x7_3 + 1)), (by first | rfl | (simp; done) | (simp [*]; done)), (by first | rfl | (simp; done) | (simp [*]; done)), H', ⟨by have := HK1.out; have := HJ5.out; have := HK3.out; omega⟩, by repeat (first | exact Drawn0.refl _ | apply Drawn0.step)⟩
                          · rw [if_neg c11] at H
                            exact absurd H (by simp)
                        · rw [if_neg c10] at H
                          have c10b0 : decide (x7_3 < (((rd_T78 l0 x5_1).f1).size : Int)) = false := decide_eq_false c10
                          clear c10
                          have H' := Aside0.mk H
                          clear H
                          go_wp2
                          go_roundg k3
                          case measure => have := HK1.out; have := HJ5.out; have := HK3.out; omega
                          case rel => exact ⟨(x4_3), (wrap64 (x5_1 + 1)), (by first | rfl | (simp; done) | (simp [*]; done)), (by first | rfl | (simp; done) | (simp [*]; done)), H', ⟨by have := HK1.out; have := HJ5.out; have := HK3.out; omega⟩, by repeat (first | exact Drawn0.refl _ | apply Drawn0.step)⟩
            · rw [if_neg c5] at H
              have c5b0 : (((rd_T78 l0 x5_1).f0).toList == ([99, 111, 110, 116, 101, 110, 116, 45, 108, 101, 110, 103, 116, 104] : List UInt8)) = false := beq_eq_false_iff_ne.mpr c5
              have c5b1 : (((rd_T78 l0 x5_1).f0).toList != ([99, 111, 110, 116, 101, 110, 116, 45, 108, 101, 110, 103, 116, 104] : List UInt8)) = true := bne_iff_ne.mpr c5
              have H' := Aside0.mk H
              clear H
              have p122 : 0 ≤ (x5_1 : Int) := of_decide_eq_true (by first | (with_reducible assumption) | assumption)
              have q122 : x5_1 < (l0.length : Int) := of_decide_eq_true (by first | (with_reducible assumption) | assumption)
              obtain ⟨ad122, e122, hx122_0, hx122_1⟩ := at_T78 HR0.out x5_1 p122 q122
              cases e122
              replace p122 := eq_true p122
              replace q122 := eq_true q122
              go_wp2
              go_roundg k1
              case measure => have := HK1.out; omega
              case rel => exact ⟨(x4_1), (wrap64 (x5_1 + 1)), (by first | rfl | (simp; done) | (simp [*]; done)), (by first | rfl | (simp; done) | (simp [*]; done)), H', ⟨by have := HK1.out; omega⟩, by repeat (first | exact Drawn0.refl _ | apply Drawn0.step)⟩
          · rw [if_neg c4] at H
            exact absurd H (by simp)
        · rw [if_neg c3] at H
          have c3b0 : decide (x5_1 < (l0.length : Int)) = false := decide_eq_false c3
          clear c3
          simp only [Option.some.injEq, Prod.mk.injEq] at H
          obtain ⟨rfl, rfl⟩ := H
          go_wp2
          go_ret2
          exact ⟨by first | rfl | (simp; done) | (simp [*]; done), by repeat (first | exact Drawn0.refl _ | apply Drawn0.step)⟩

end Go.Proofs.YtkcimmlaoipdkaaDoor.PFnExactResponseFields
