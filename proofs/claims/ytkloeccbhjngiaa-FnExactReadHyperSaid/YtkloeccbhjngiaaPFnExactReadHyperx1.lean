-- Written by a program of this repo (xprint.py) out of the translation; Lean checks it.
import Derived.Test.YtkloeccbhjngiaaPFnExactReadHyperx0
namespace Go.Proofs.Ytkloeccbhjngiaa.PFnExactReadHyper
open Go.RowKit Go.Proofs.YtkloeccbhjngiaaW.PrintWords Go.Proofs.YtkloeccbhjngiaaW.PrintLast Go.Proofs.YtkloeccbhjngiaaW.PrintMore
attribute [local go_sem] max2_int min2_int max_two min_two max_three min_three max_four min_four   -- for this text's walks alone
set_option linter.unusedVariables false
set_option linter.unusedSimpArgs false

/-! ### spec_l05Var: function 158 -/
def spec_l05Var.f (a0 : Int) : Option (Bool) := if a0 ≥ 0 then (some (decide (a0 ≤ 4611686018427387903))) else (some false)
set_option maxHeartbeats 8000000 in
set_option maxRecDepth 100000 in
theorem spec_l05Var.calls (a0 : Int) (r : Bool) (w : World) (h : spec_l05Var.f a0 = some r) :
    Calls Try.prog 158 #[.int .i64 a0] w fun e w' => e = .returned (.bool r) ∧ Drawn0 w w' := by
  have H : (if a0 ≥ 0 then (some (decide (a0 ≤ 4611686018427387903))) else (some false)) = some r := h
  clear h
  by_cases c2 : a0 ≥ 0
  · rw [if_pos c2] at H
    have c2b0 : decide (0 ≤ a0) = true := decide_eq_true c2
    clear c2
    obtain rfl := Option.some.inj H
    go_enter Try.func158, Try.ntmps158
    go_wp2
    go_ret
    exact ⟨by first | rfl | (simp; done) | (simp [*]; done), by repeat (first | exact Drawn0.refl _ | apply Drawn0.step)⟩
  · rw [if_neg c2] at H
    have c2b0 : decide (0 ≤ a0) = false := decide_eq_false c2
    clear c2
    obtain rfl := Option.some.inj H
    go_enter Try.func158, Try.ntmps158
    go_wp2
    go_ret
    exact ⟨by first | rfl | (simp; done) | (simp [*]; done), by repeat (first | exact Drawn0.refl _ | apply Drawn0.step)⟩

/-! ### spec_l15SetOK: function 159 -/
mutual
def spec_l15SetOK.l0 : Nat → List (S122) → Int → Option (Bool)
  | 0, _, _ => none
  | k + 1, x0, x3 => if x3 < (x0.length : Int) then (if 0 ≤ x3 then ((spec_l05Var.f ((rd_T122 x0 x3).f0)).bind fun t102 => (if t102 = true then ((spec_l05Var.f ((rd_T122 x0 x3).f1)).bind fun t104 => (spec_l15SetOK.j1 k x0 x3 (!t104))) else (spec_l15SetOK.j1 k x0 x3 true))) else (none)) else (some true)
def spec_l15SetOK.j1 : Nat → List (S122) → Int → Bool → Option (Bool)
  | 0, _, _, _ => none
  | k + 1, x0, x3, x29 => if x29 = true then (some false) else (spec_l15SetOK.l1 k x0 x3 0)
def spec_l15SetOK.l1 : Nat → List (S122) → Int → Int → Option (Bool)
  | 0, _, _, _ => none
  | k + 1, x0, x3, x4 => if x4 < x3 then (if 0 ≤ x4 then (if x4 < (x0.length : Int) then (if 0 ≤ x3 then (if x3 < (x0.length : Int) then (if ((rd_T122 x0 x4).f0) = ((rd_T122 x0 x3).f0) then (some false) else (spec_l15SetOK.l1 k x0 x3 (wrap64 (x4 + 1)))) else (none)) else (none)) else (none)) else (none)) else (spec_l15SetOK.l0 k x0 (wrap64 (x3 + 1)))
end
def spec_l15SetOK.f (k : Nat) (l0 : List (S122)) : Option (Bool) := if (l0.length : Int) > 16 then (some false) else (spec_l15SetOK.l0 k l0 0)
theorem spec_l15SetOK.mono_l : ∀ k, (∀ y0 y1, LeO (spec_l15SetOK.l0 k y0 y1) (spec_l15SetOK.l0 (k + 1) y0 y1)) ∧ (∀ y0 y1 y2, LeO (spec_l15SetOK.j1 k y0 y1 y2) (spec_l15SetOK.j1 (k + 1) y0 y1 y2)) ∧ (∀ y0 y1 y2, LeO (spec_l15SetOK.l1 k y0 y1 y2) (spec_l15SetOK.l1 (k + 1) y0 y1 y2))
  | 0 => ⟨fun _ _ r h => by simp [spec_l15SetOK.l0] at h, fun _ _ _ r h => by simp [spec_l15SetOK.j1] at h, fun _ _ _ r h => by simp [spec_l15SetOK.l1] at h⟩
  | k + 1 => by
    obtain ⟨ih0, ih1, ih2⟩ := spec_l15SetOK.mono_l k
    refine ⟨?_, ?_, ?_⟩
    · intro y0 y1
      unfold spec_l15SetOK.l0
      repeat' first
      | (with_reducible exact ih0 _ _)
      | (with_reducible exact ih1 _ _ _)
      | (with_reducible exact ih2 _ _ _)
      | (with_reducible exact LeO.refl _)
      | (with_reducible exact LeO.none _)
      | (with_reducible refine LeO.ite ?_ ?_)
      | (with_reducible refine LeO.bind ?_ (fun _ => ?_))
      | exact ih0 _ _
      | exact ih1 _ _ _
      | exact ih2 _ _ _
      | exact LeO.none _
      | refine LeO.ite ?_ ?_
      | refine LeO.bind ?_ (fun _ => ?_)
    · intro y0 y1 y2
      unfold spec_l15SetOK.j1
      repeat' first
      | (with_reducible exact ih0 _ _)
      | (with_reducible exact ih1 _ _ _)
      | (with_reducible exact ih2 _ _ _)
      | (with_reducible exact LeO.refl _)
      | (with_reducible exact LeO.none _)
      | (with_reducible refine LeO.ite ?_ ?_)
      | (with_reducible refine LeO.bind ?_ (fun _ => ?_))
      | exact ih0 _ _
      | exact ih1 _ _ _
      | exact ih2 _ _ _
      | exact LeO.none _
      | refine LeO.ite ?_ ?_
      | refine LeO.bind ?_ (fun _ => ?_)
    · intro y0 y1 y2
      unfold spec_l15SetOK.l1
      repeat' first
      | (with_reducible exact ih0 _ _)
      | (with_reducible exact ih1 _ _ _)
      | (with_reducible exact ih2 _ _ _)
      | (with_reducible exact LeO.refl _)
      | (with_reducible exact LeO.none _)
      | (with_reducible refine LeO.ite ?_ ?_)
      | (with_reducible refine LeO.bind ?_ (fun _ => ?_))
      | exact ih0 _ _
      | exact ih1 _ _ _
      | exact ih2 _ _ _
      | exact LeO.none _
      | refine LeO.ite ?_ ?_
      | refine LeO.bind ?_ (fun _ => ?_)
theorem spec_l15SetOK.mono : ∀ a0 k, LeO (spec_l15SetOK.f k a0) (spec_l15SetOK.f (k + 1) a0) := by
  intro a0 k
  obtain ⟨ih0, ih1, ih2⟩ := spec_l15SetOK.mono_l k
  unfold spec_l15SetOK.f
  repeat' first
      | (with_reducible exact ih0 _ _)
      | (with_reducible exact ih1 _ _ _)
      | (with_reducible exact ih2 _ _ _)
      | (with_reducible exact LeO.refl _)
      | (with_reducible exact LeO.none _)
      | (with_reducible refine LeO.ite ?_ ?_)
      | (with_reducible refine LeO.bind ?_ (fun _ => ?_))
      | exact ih0 _ _
      | exact ih1 _ _ _
      | exact ih2 _ _ _
      | exact LeO.none _
      | refine LeO.ite ?_ ?_
      | refine LeO.bind ?_ (fun _ => ?_)
set_option maxHeartbeats 8000000 in
set_option maxRecDepth 100000 in
theorem spec_l15SetOK.calls (k : Nat) (A0 : Option Addr) (c0 : Nat) (l0 : List (S122)) (r : Bool) (w : World) (hr0 : Kd.C k122 w A0 l0.length l0) (hc0 : l0.length ≤ c0) (h : spec_l15SetOK.f k l0 = some r) :
    Calls Try.prog 159 #[.slice A0 l0.length c0] w fun e w' => e = .returned (.bool r) ∧ Drawn0 w w' := by
  have HR0 := Aside0.mk hr0
  have HC0 := Aside0.mk hc0
  clear hr0 hc0
  have H : (if (l0.length : Int) > 16 then (some false) else (spec_l15SetOK.l0 k l0 0)) = some r := h
  clear h
  by_cases c2 : (l0.length : Int) > 16
  · rw [if_pos c2] at H
    have c2b0 : decide (16 < (l0.length : Int)) = true := decide_eq_true c2
    have c2b1 : decide (16 < l0.length) = true := decide_eq_true (by omega)
    clear c2
    obtain rfl := Option.some.inj H
    go_enter Try.func159, Try.ntmps159
    go_wp2
    repeat (go_quiet (fail); try go_wp2)
    go_ret
    exact ⟨by first | rfl | (simp; done) | (simp [*]; done), by repeat (first | exact Drawn0.refl _ | apply Drawn0.step)⟩
  · rw [if_neg c2] at H
    have c2b0 : decide (16 < (l0.length : Int)) = false := decide_eq_false c2
    have c2b1 : decide (16 < l0.length) = false := decide_eq_false (by omega)
    clear c2
    have H' := Aside0.mk H
    clear H
    go_enter Try.func159, Try.ntmps159
    go_wp2
    repeat (go_quiet (fail); try go_wp2)
    go_loopg [3] k (fun kq v3 w' => ∃ (x3_1 : Int), v3 = .int .i64 x3_1 ∧ Aside0 (spec_l15SetOK.l0 kq l0 x3_1 = some r) ∧ Aside0 (kq ≤ k) ∧ Drawn0 w w')
    case atStart => exact ⟨(0), (by first | rfl | (simp; done) | (simp [*]; done)), H', ⟨Nat.le_refl _⟩, by repeat (first | exact Drawn0.refl _ | apply Drawn0.step)⟩
    case round =>
      clear H'
      try clear c1
      try clear c2
      try clear c2b0
      try clear c2b1
      try clear p2
      obtain ⟨x3_1, rfl, HA, HK1, ⟨m1, rfl⟩⟩ := hrel
      cases gk with
      | zero => exact absurd HA.out (by simp [spec_l15SetOK.l0])
      | succ k1 =>
        have H := HA.out
        clear HA
        simp only [spec_l15SetOK.l0] at H
        by_cases c3 : x3_1 < (l0.length : Int)
        · rw [if_pos c3] at H
          have c3b0 : decide (x3_1 < (l0.length : Int)) = true := decide_eq_true c3
          clear c3
          have HC4 := Aside0.mk H
          clear H
          go_upto_region 6 with (fail)
          repeat (go_quiet (fail); go_upto_region 6 with (fail))
          go_cut [29] (fun v29 wc => ∃ (kq : Nat) (x29_3 : Bool), v29 = .bool x29_3 ∧ Aside0 (spec_l15SetOK.j1 kq l0 x3_1 x29_3 = some r) ∧ Aside0 (kq ≤ k1) ∧ Drawn0 w wc)
          case first =>
            have H := HC4.out
            clear HC4
            by_cases c5 : 0 ≤ x3_1
            · rw [if_pos c5] at H
              have c5b0 : decide (0 ≤ x3_1) = true := decide_eq_true c5
              clear c5
              (first | rw [c5b0] | (simp only [i64_w, i32_w]; rw [c5b0]) | skip)
              replace H := Option.bind_eq_some_iff.mp H
              obtain ⟨t102, A60, H⟩ := H
              replace H : (if t102 = true then ((spec_l05Var.f ((rd_T122 l0 x3_1).f1)).bind fun t104 => (spec_l15SetOK.j1 k1 l0 x3_1 (!t104))) else (spec_l15SetOK.j1 k1 l0 x3_1 true)) = some r := H
              have A6 := Aside0.mk A60
              clear A60
              by_cases c7 : t102 = true
              · subst c7
                have H1 : ((spec_l05Var.f ((rd_T122 l0 x3_1).f1)).bind fun t104 => (spec_l15SetOK.j1 k1 l0 x3_1 (!t104))) = some r := by rw [if_pos rfl] at H; exact H
                clear H
                have H := H1
                clear H1
                replace H := Option.bind_eq_some_iff.mp H
                obtain ⟨t104, A80, H⟩ := H
                replace H : (spec_l15SetOK.j1 k1 l0 x3_1 (!t104)) = some r := H
                have A8 := Aside0.mk A80
                clear A80
                have H' := Aside0.mk H
                clear H
                have p101 : 0 ≤ (x3_1 : Int) := of_decide_eq_true (by first | (with_reducible assumption) | assumption)
                have q101 : x3_1 < (l0.length : Int) := of_decide_eq_true (by first | (with_reducible assumption) | assumption)
                obtain ⟨ad101, e101, hx101_0, hx101_1⟩ := at_T122 HR0.out x3_1 p101 q101
                cases e101
                replace p101 := eq_true p101
                replace q101 := eq_true q101
                go_wp2_with (first | (go_at_call 158; (with_reducible refine (spec_l05Var.calls ((rd_T122 l0 x3_1).f0) true _ A6.out).mono ?_); rintro e w' ⟨rfl, ⟨nd, rfl⟩⟩; (try first | exact ⟨rfl, _, World.drewN_drewN _ _ _⟩ | exact ⟨rfl, _, Eq.trans (World.drewN_drewN _ _ _) (congrArg (World.drewN _) (Nat.add_assoc _ _ _))⟩); have p103 : 0 ≤ (x3_1 : Int) := of_decide_eq_true (by first | (with_reducible assumption) | assumption); have q103 : x3_1 < (l0.length : Int) := of_decide_eq_true (by first | (with_reducible assumption) | assumption); obtain ⟨ad103, e103, hx103_0, hx103_1⟩ := at_T122 HR0.out x3_1 p103 q103; obtain rfl : ad101 = ad103 := (by injection e103); replace p103 := eq_true p103; replace q103 := eq_true q103) | (go_at_call 158; (with_reducible refine (spec_l05Var.calls ((rd_T122 l0 x3_1).f1) t104 _ A8.out).mono ?_); rintro e w' ⟨rfl, ⟨nd, rfl⟩⟩; (try first | exact ⟨rfl, _, World.drewN_drewN _ _ _⟩ | exact ⟨rfl, _, Eq.trans (World.drewN_drewN _ _ _) (congrArg (World.drewN _) (Nat.add_assoc _ _ _))⟩)))
                repeat (go_quiet (first | (go_at_call 158; (with_reducible refine (spec_l05Var.calls ((rd_T122 l0 x3_1).f0) true _ A6.out).mono ?_); rintro e w' ⟨rfl, ⟨nd, rfl⟩⟩; (try first | exact ⟨rfl, _, World.drewN_drewN _ _ _⟩ | exact ⟨rfl, _, Eq.trans (World.drewN_drewN _ _ _) (congrArg (World.drewN _) (Nat.add_assoc _ _ _))⟩); have p103 : 0 ≤ (x3_1 : Int) := of_decide_eq_true (by first | (with_reducible assumption) | assumption); have q103 : x3_1 < (l0.length : Int) := of_decide_eq_true (by first | (with_reducible assumption) | assumption); obtain ⟨ad103, e103, hx103_0, hx103_1⟩ := at_T122 HR0.out x3_1 p103 q103; obtain rfl : ad101 = ad103 := (by injection e103); replace p103 := eq_true p103; replace q103 := eq_true q103) | (go_at_call 158; (with_reducible refine (spec_l05Var.calls ((rd_T122 l0 x3_1).f1) t104 _ A8.out).mono ?_); rintro e w' ⟨rfl, ⟨nd, rfl⟩⟩; (try first | exact ⟨rfl, _, World.drewN_drewN _ _ _⟩ | exact ⟨rfl, _, Eq.trans (World.drewN_drewN _ _ _) (congrArg (World.drewN _) (Nat.add_assoc _ _ _))⟩))); try go_wp2_with (first | (go_at_call 158; (with_reducible refine (spec_l05Var.calls ((rd_T122 l0 x3_1).f0) true _ A6.out).mono ?_); rintro e w' ⟨rfl, ⟨nd, rfl⟩⟩; (try first | exact ⟨rfl, _, World.drewN_drewN _ _ _⟩ | exact ⟨rfl, _, Eq.trans (World.drewN_drewN _ _ _) (congrArg (World.drewN _) (Nat.add_assoc _ _ _))⟩); have p103 : 0 ≤ (x3_1 : Int) := of_decide_eq_true (by first | (with_reducible assumption) | assumption); have q103 : x3_1 < (l0.length : Int) := of_decide_eq_true (by first | (with_reducible assumption) | assumption); obtain ⟨ad103, e103, hx103_0, hx103_1⟩ := at_T122 HR0.out x3_1 p103 q103; obtain rfl : ad101 = ad103 := (by injection e103); replace p103 := eq_true p103; replace q103 := eq_true q103) | (go_at_call 158; (with_reducible refine (spec_l05Var.calls ((rd_T122 l0 x3_1).f1) t104 _ A8.out).mono ?_); rintro e w' ⟨rfl, ⟨nd, rfl⟩⟩; (try first | exact ⟨rfl, _, World.drewN_drewN _ _ _⟩ | exact ⟨rfl, _, Eq.trans (World.drewN_drewN _ _ _) (congrArg (World.drewN _) (Nat.add_assoc _ _ _))⟩))))
                go_meet
                case rel => exact ⟨_, (!t104), (by first | rfl | (simp; done) | (simp [*]; done)), H', ⟨by have := HK1.out; first | omega | exact Nat.le_refl _⟩, by repeat (first | exact Drawn0.refl _ | apply Drawn0.step)⟩
              · replace c7 := Bool.eq_false_iff.mpr c7
                subst c7
                have H1 : (spec_l15SetOK.j1 k1 l0 x3_1 true) = some r := by rw [if_neg (show ¬ (false = true) by decide)] at H; exact H
                clear H
                have H := H1
                clear H1
                have H' := Aside0.mk H
                clear H
                have p101 : 0 ≤ (x3_1 : Int) := of_decide_eq_true (by first | (with_reducible assumption) | assumption)
                have q101 : x3_1 < (l0.length : Int) := of_decide_eq_true (by first | (with_reducible assumption) | assumption)
                obtain ⟨ad101, e101, hx101_0, hx101_1⟩ := at_T122 HR0.out x3_1 p101 q101
                cases e101
                replace p101 := eq_true p101
                replace q101 := eq_true q101
                go_wp2_with (first | (go_at_call 158; (with_reducible refine (spec_l05Var.calls ((rd_T122 l0 x3_1).f0) false _ A6.out).mono ?_); rintro e w' ⟨rfl, ⟨nd, rfl⟩⟩; (try first | exact ⟨rfl, _, World.drewN_drewN _ _ _⟩ | exact ⟨rfl, _, Eq.trans (World.drewN_drewN _ _ _) (congrArg (World.drewN _) (Nat.add_assoc _ _ _))⟩)))
                repeat (go_quiet (first | (go_at_call 158; (with_reducible refine (spec_l05Var.calls ((rd_T122 l0 x3_1).f0) false _ A6.out).mono ?_); rintro e w' ⟨rfl, ⟨nd, rfl⟩⟩; (try first | exact ⟨rfl, _, World.drewN_drewN _ _ _⟩ | exact ⟨rfl, _, Eq.trans (World.drewN_drewN _ _ _) (congrArg (World.drewN _) (Nat.add_assoc _ _ _))⟩))); try go_wp2_with (first | (go_at_call 158; (with_reducible refine (spec_l05Var.calls ((rd_T122 l0 x3_1).f0) false _ A6.out).mono ?_); rintro e w' ⟨rfl, ⟨nd, rfl⟩⟩; (try first | exact ⟨rfl, _, World.drewN_drewN _ _ _⟩ | exact ⟨rfl, _, Eq.trans (World.drewN_drewN _ _ _) (congrArg (World.drewN _) (Nat.add_assoc _ _ _))⟩))))
                go_meet
                case rel => exact ⟨_, (true), (by first | rfl | (simp; done) | (simp [*]; done)), H', ⟨by have := HK1.out; first | omega | exact Nat.le_refl _⟩, by repeat (first | exact Drawn0.refl _ | apply Drawn0.step)⟩
            · rw [if_neg c5] at H
              exact absurd H (by simp)
          case rest =>
            clear HC4
            try clear c1
            try clear p1
            try clear q1
            try clear hx1
            try clear c2
            try clear c2b0
            try clear c2b1
            try clear p2
            try clear c3
            try clear c3b0
            try clear c5
            try clear c5b0
            try clear c7
            try clear hx101_0
            try clear hx101_1
            try clear hx103_0
            try clear hx103_1
            try clear p101
            try clear p103
            try clear p2
            try clear q101
            try clear q103
            obtain ⟨kq, x29_3, rfl, HA, HJ3, ⟨mc3, rfl⟩⟩ := hcut
            cases kq with
            | zero => exact absurd HA.out (by simp [spec_l15SetOK.j1])
            | succ kj3 =>
              have H := HA.out
              clear HA
              simp only [spec_l15SetOK.j1] at H
              by_cases c9 : x29_3 = true
              · subst c9
                have H1 : (some false) = some r := by rw [if_pos rfl] at H; exact H
                clear H
                have H := H1
                clear H1
                obtain rfl := Option.some.inj H
                go_wp2
                repeat (go_quiet (fail); try go_wp2)
                go_ret
                exact ⟨by first | rfl | (simp; done) | (simp [*]; done), by repeat (first | exact Drawn0.refl _ | apply Drawn0.step)⟩
              · replace c9 := Bool.eq_false_iff.mpr c9
                subst c9
                have H1 : (spec_l15SetOK.l1 kj3 l0 x3_1 0) = some r := by rw [if_neg (show ¬ (false = true) by decide)] at H; exact H
                clear H
                have H := H1
                clear H1
                have H' := Aside0.mk H
                clear H
                go_wp2
                repeat (go_quiet (fail); try go_wp2)
                go_loopg [4] kj3 (fun kq v4 w' => ∃ (x4_3 : Int), v4 = .int .i64 x4_3 ∧ Aside0 (spec_l15SetOK.l1 kq l0 x3_1 x4_3 = some r) ∧ Aside0 (kq ≤ kj3) ∧ Drawn0 w w')
                case atStart => exact ⟨(0), (by first | rfl | (simp; done) | (simp [*]; done)), H', ⟨Nat.le_refl _⟩, by repeat (first | exact Drawn0.refl _ | apply Drawn0.step)⟩
                case round =>
                  clear H'
                  try clear c1
                  try clear p1
                  try clear q1
                  try clear hx1
                  try clear c2
                  try clear c2b0
                  try clear c2b1
                  try clear p2
                  try clear c3
                  try clear c3b0
                  try clear c5
                  try clear c5b0
                  try clear c7
                  try clear c9
                  try clear hx101_0
                  try clear hx101_1
                  try clear hx103_0
                  try clear hx103_1
                  try clear p1
                  try clear p101
                  try clear p103
                  try clear p2
                  try clear q1
                  try clear q101
                  try clear q103
                  obtain ⟨x4_3, rfl, HA, HK3, ⟨m3, rfl⟩⟩ := hrel
                  cases gk with
                  | zero => exact absurd HA.out (by simp [spec_l15SetOK.l1])
                  | succ k3 =>
                    have H := HA.out
                    clear HA
                    simp only [spec_l15SetOK.l1] at H
                    by_cases c10 : x4_3 < x3_1
                    · rw [if_pos c10] at H
                      have c10b0 : decide (x4_3 < x3_1) = true := decide_eq_true c10
                      clear c10
                      by_cases c11 : 0 ≤ x4_3
                      · rw [if_pos c11] at H
                        have c11b0 : decide (0 ≤ x4_3) = true := decide_eq_true c11
                        clear c11
                        by_cases c12 : x4_3 < (l0.length : Int)
                        · rw [if_pos c12] at H
                          have c12b0 : decide (x4_3 < (l0.length : Int)) = true := decide_eq_true c12
                          clear c12
                          by_cases c13 : 0 ≤ x3_1
                          · rw [if_pos c13] at H
                            have c13b0 : decide (0 ≤ x3_1) = true := decide_eq_true c13
                            clear c13
                            by_cases c14 : x3_1 < (l0.length : Int)
                            · rw [if_pos c14] at H
                              have c14b0 : decide (x3_1 < (l0.length : Int)) = true := decide_eq_true c14
                              clear c14
                              by_cases c15 : ((rd_T122 l0 x4_3).f0) = ((rd_T122 l0 x3_1).f0)
                              · rw [if_pos c15] at H
                                have c15b0 : (((rd_T122 l0 x4_3).f0) == ((rd_T122 l0 x3_1).f0)) = true := beq_iff_eq.mpr c15
                                have c15b1 : (((rd_T122 l0 x4_3).f0) != ((rd_T122 l0 x3_1).f0)) = false := bne_eq_false_iff_eq.mpr c15
                                clear c15
                                obtain rfl := Option.some.inj H
                                have p105 : 0 ≤ (x4_3 : Int) := of_decide_eq_true (by first | (with_reducible assumption) | assumption)
                                have q105 : x4_3 < (l0.length : Int) := of_decide_eq_true (by first | (with_reducible assumption) | assumption)
                                obtain ⟨ad105, e105, hx105_0, hx105_1⟩ := at_T122 HR0.out x4_3 p105 q105
                                cases e105
                                replace p105 := eq_true p105
                                replace q105 := eq_true q105
                                have p106 : 0 ≤ (x3_1 : Int) := of_decide_eq_true (by first | (with_reducible assumption) | assumption)
                                have q106 : x3_1 < (l0.length : Int) := of_decide_eq_true (by first | (with_reducible assumption) | assumption)
                                obtain ⟨ad106, e106, hx106_0, hx106_1⟩ := at_T122 HR0.out x3_1 p106 q106
                                obtain rfl : ad105 = ad106 := (by injection e106)
                                replace p106 := eq_true p106
                                replace q106 := eq_true q106
                                go_wp2
                                repeat (go_quiet (fail); try go_wp2)
                                go_ret
                                exact ⟨by first | rfl | (simp; done) | (simp [*]; done), by repeat (first | exact Drawn0.refl _ | apply Drawn0.step)⟩
                              · rw [if_neg c15] at H
                                have c15b0 : (((rd_T122 l0 x4_3).f0) == ((rd_T122 l0 x3_1).f0)) = false := beq_eq_false_iff_ne.mpr c15
                                have c15b1 : (((rd_T122 l0 x4_3).f0) != ((rd_T122 l0 x3_1).f0)) = true := bne_iff_ne.mpr c15
                                have H' := Aside0.mk H
                                clear H
                                have p105 : 0 ≤ (x4_3 : Int) := of_decide_eq_true (by first | (with_reducible assumption) | assumption)
                                have q105 : x4_3 < (l0.length : Int) := of_decide_eq_true (by first | (with_reducible assumption) | assumption)
                                obtain ⟨ad105, e105, hx105_0, hx105_1⟩ := at_T122 HR0.out x4_3 p105 q105
                                cases e105
                                replace p105 := eq_true p105
                                replace q105 := eq_true q105
                                have p106 : 0 ≤ (x3_1 : Int) := of_decide_eq_true (by first | (with_reducible assumption) | assumption)
                                have q106 : x3_1 < (l0.length : Int) := of_decide_eq_true (by first | (with_reducible assumption) | assumption)
                                obtain ⟨ad106, e106, hx106_0, hx106_1⟩ := at_T122 HR0.out x3_1 p106 q106
                                obtain rfl : ad105 = ad106 := (by injection e106)
                                replace p106 := eq_true p106
                                replace q106 := eq_true q106
                                go_wp2
                                repeat (go_quiet (fail); try go_wp2)
                                go_roundg k3
                                case measure => have := HK1.out; have := HJ3.out; have := HK3.out; omega
                                case rel => exact ⟨(wrap64 (x4_3 + 1)), (by first | rfl | (simp; done) | (simp [*]; done)), H', ⟨by have := HK1.out; have := HJ3.out; have := HK3.out; omega⟩, by repeat (first | exact Drawn0.refl _ | apply Drawn0.step)⟩
                            · rw [if_neg c14] at H
                              exact absurd H (by simp)
                          · rw [if_neg c13] at H
                            exact absurd H (by simp)
                        · rw [if_neg c12] at H
                          exact absurd H (by simp)
                      · rw [if_neg c11] at H
                        exact absurd H (by simp)
                    · rw [if_neg c10] at H
                      have c10b0 : decide (x4_3 < x3_1) = false := decide_eq_false c10
                      clear c10
                      have H' := Aside0.mk H
                      clear H
                      go_wp2
                      repeat (go_quiet (fail); try go_wp2)
                      go_roundg k3
                      case measure => have := HK1.out; have := HJ3.out; have := HK3.out; omega
                      case rel => exact ⟨(wrap64 (x3_1 + 1)), (by first | rfl | (simp; done) | (simp [*]; done)), H', ⟨by have := HK1.out; have := HJ3.out; have := HK3.out; omega⟩, by repeat (first | exact Drawn0.refl _ | apply Drawn0.step)⟩
        · rw [if_neg c3] at H
          have c3b0 : decide (x3_1 < (l0.length : Int)) = false := decide_eq_false c3
          clear c3
          obtain rfl := Option.some.inj H
          go_wp2
          repeat (go_quiet (fail); try go_wp2)
          go_ret
          exact ⟨by first | rfl | (simp; done) | (simp [*]; done), by repeat (first | exact Drawn0.refl _ | apply Drawn0.step)⟩

/-! ### spec_HyperOK: function 71 -/
def spec_HyperOK.j0 : Nat → Bool → Int → Int → List Int → List (S122) → Option (Bool)
  | 0, _, _, _, _, _ => none
  | k + 1, x24, x108000, x108001, x108002, x108003 => if x24 = true then (some false) else (if x108000 = 4 then (if x108001 = 0 then (some ((x108002.length : Int) == 0)) else (some false)) else (if x108000 = 7 then (if (x108003.length : Int) = 0 then (some ((x108002.length : Int) == 0)) else (some false)) else (if x108000 = 15 then (if (x108003.length : Int) = 0 then (some (decide ((x108002.length : Int) ≤ 1024))) else (some false)) else (if x108001 = 0 then (some ((x108003.length : Int) == 0)) else (some false)))))
def spec_HyperOK.f (k : Nat) (a0_0 : Int) (a0_1 : Int) (l0_2 : List Int) (l0_3 : List (S122)) : Option (Bool) := (spec_l05Var.f a0_0).bind fun t108 => (if t108 = true then ((spec_l05Var.f a0_1).bind fun t109 => (if t109 = true then (if (l0_2.length : Int) > 16384 then (spec_HyperOK.j0 k true a0_0 a0_1 l0_2 l0_3) else ((spec_l15SetOK.f k l0_3).bind fun t110 => (spec_HyperOK.j0 k (!t110) a0_0 a0_1 l0_2 l0_3))) else (spec_HyperOK.j0 k true a0_0 a0_1 l0_2 l0_3))) else (spec_HyperOK.j0 k true a0_0 a0_1 l0_2 l0_3))
theorem spec_HyperOK.mono_l : ∀ k, (∀ y0 y1 y2 y3 y4, LeO (spec_HyperOK.j0 k y0 y1 y2 y3 y4) (spec_HyperOK.j0 (k + 1) y0 y1 y2 y3 y4))
  | 0 => fun _ _ _ _ _ r h => by simp [spec_HyperOK.j0] at h
  | k + 1 => by
    have ih0 := spec_HyperOK.mono_l k
    · intro y0 y1 y2 y3 y4
      unfold spec_HyperOK.j0
      repeat' first
      | (with_reducible exact ih0 _ _ _ _ _)
      | (with_reducible exact spec_l15SetOK.mono _ _)
      | (with_reducible exact LeO.refl _)
      | (with_reducible exact LeO.none _)
      | (with_reducible refine LeO.ite ?_ ?_)
      | (with_reducible refine LeO.bind ?_ (fun _ => ?_))
      | exact ih0 _ _ _ _ _
      | exact spec_l15SetOK.mono _ _
      | exact LeO.none _
      | refine LeO.ite ?_ ?_
      | refine LeO.bind ?_ (fun _ => ?_)
theorem spec_HyperOK.mono : ∀ a0 a1 a2 a3 k, LeO (spec_HyperOK.f k a0 a1 a2 a3) (spec_HyperOK.f (k + 1) a0 a1 a2 a3) := by
  intro a0 a1 a2 a3 k
  have ih0 := spec_HyperOK.mono_l k
  unfold spec_HyperOK.f
  repeat' first
      | (with_reducible exact ih0 _ _ _ _ _)
      | (with_reducible exact spec_l15SetOK.mono _ _)
      | (with_reducible exact LeO.refl _)
      | (with_reducible exact LeO.none _)
      | (with_reducible refine LeO.ite ?_ ?_)
      | (with_reducible refine LeO.bind ?_ (fun _ => ?_))
      | exact ih0 _ _ _ _ _
      | exact spec_l15SetOK.mono _ _
      | exact LeO.none _
      | refine LeO.ite ?_ ?_
      | refine LeO.bind ?_ (fun _ => ?_)
set_option maxHeartbeats 8000000 in
set_option maxRecDepth 100000 in
theorem spec_HyperOK.calls (k : Nat) (a0_0 : Int) (a0_1 : Int) (A0_2 : Option Addr) (c0_2 : Nat) (l0_2 : List Int) (A0_3 : Option Addr) (c0_3 : Nat) (l0_3 : List (S122)) (r : Bool) (w : World) (hr0_2 : Kd.C (Kd.int .u8) w A0_2 l0_2.length l0_2) (hc0_2 : l0_2.length ≤ c0_2) (hr0_3 : Kd.C k122 w A0_3 l0_3.length l0_3) (hc0_3 : l0_3.length ≤ c0_3) (h : spec_HyperOK.f k a0_0 a0_1 l0_2 l0_3 = some r) :
    Calls Try.prog 71 #[.agg #[.int .i64 a0_0, .int .i64 a0_1, .slice A0_2 l0_2.length c0_2, .slice A0_3 l0_3.length c0_3]] w fun e w' => e = .returned (.bool r) ∧ Below w.heap.size w w' := by
  have hu25 := Try.underlying25
  have HR0_2 := Aside0.mk hr0_2
  have HC0_2 := Aside0.mk hc0_2
  clear hr0_2 hc0_2
  have HR0_3 := Aside0.mk hr0_3
  have HC0_3 := Aside0.mk hc0_3
  clear hr0_3 hc0_3
  have HB := Aside0.mk (Below.refl w.heap.size w)
  have H : ((spec_l05Var.f a0_0).bind fun t108 => (if t108 = true then ((spec_l05Var.f a0_1).bind fun t109 => (if t109 = true then (if (l0_2.length : Int) > 16384 then (spec_HyperOK.j0 k true a0_0 a0_1 l0_2 l0_3) else ((spec_l15SetOK.f k l0_3).bind fun t110 => (spec_HyperOK.j0 k (!t110) a0_0 a0_1 l0_2 l0_3))) else (spec_HyperOK.j0 k true a0_0 a0_1 l0_2 l0_3))) else (spec_HyperOK.j0 k true a0_0 a0_1 l0_2 l0_3))) = some r := h
  clear h
  have HC2 := Aside0.mk H
  clear H
  go_enter Try.func71, Try.ntmps71
  go_upto_region 1 with (first | ((with_reducible refine gate_dst (N := 1) rfl ?_); (try (refine gate_guard (by rfl) ?_; dsimp only)); refine box_event ?hg (N := 1) ?hd (cs := #[.int .i64 a0_0, .int .i64 a0_1, .slice A0_2 l0_2.length c0_2, .slice A0_3 l0_3.length c0_3]) (t := 25) ?hr ?_; (case hd => rfl); (case hg => rfl); (case hr => first | (go_simp; done) | (go_simp; rfl)); intro gb107 hg w3 hbox hb; have n0_ := Aside0.mk (below_step (by repeat (first | (with_reducible first | exact HB.out | apply below_alloc | apply pw_below_drewN | apply below_drew1) | exact HB.out)) hb); have n1_ := Aside0.mk (hbox); have n2_ := Aside0.mk ((by rw [hg]; exact (below_size (by repeat (first | (with_reducible first | exact HB.out | apply below_alloc | apply pw_below_drewN | apply below_drew1) | exact HB.out))) : w.heap.size ≤ gb107)); have n3_ := Aside0.mk ((by rw [hg]; exact (below_size (by repeat (first | (with_reducible first | exact HB.out | apply below_alloc | apply pw_below_drewN | apply below_drew1) | exact HB.out))) : w.heap.size ≤ gb107)); clear HB; have HB := n0_; have BK107 := n1_; have GW107 := n2_; have GE107 := n3_; clear n0_ n1_ n2_ n3_; clear hb hbox hg))
  (try simp only [Act.put, List.setIfInBounds_toArray, List.set_cons_zero, List.set_cons_succ])
  go_cut [24] (fun v24 wc => ∃ (kq : Nat) (x24_1 : Bool), v24 = .bool x24_1 ∧ Aside0 (spec_HyperOK.j0 kq x24_1 a0_0 a0_1 l0_2 l0_3 = some r) ∧ Aside0 (kq ≤ k) ∧ Aside0 (wc.heap[gb107]? = some (.cells #[.int .i64 a0_0, .int .i64 a0_1, (.slice A0_2 l0_2.length c0_2), (.slice A0_3 l0_3.length c0_3)] 25 (0, 0))) ∧ Aside0 (Below w.heap.size w wc))
  case first =>
    have H := HC2.out
    clear HC2
    replace H := Option.bind_eq_some_iff.mp H
    obtain ⟨t108, A40, H⟩ := H
    replace H : (if t108 = true then ((spec_l05Var.f a0_1).bind fun t109 => (if t109 = true then (if (l0_2.length : Int) > 16384 then (spec_HyperOK.j0 k true a0_0 a0_1 l0_2 l0_3) else ((spec_l15SetOK.f k l0_3).bind fun t110 => (spec_HyperOK.j0 k (!t110) a0_0 a0_1 l0_2 l0_3))) else (spec_HyperOK.j0 k true a0_0 a0_1 l0_2 l0_3))) else (spec_HyperOK.j0 k true a0_0 a0_1 l0_2 l0_3)) = some r := H
    have A4 := Aside0.mk A40
    clear A40
    by_cases c5 : t108 = true
    · subst c5
      have H1 : ((spec_l05Var.f a0_1).bind fun t109 => (if t109 = true then (if (l0_2.length : Int) > 16384 then (spec_HyperOK.j0 k true a0_0 a0_1 l0_2 l0_3) else ((spec_l15SetOK.f k l0_3).bind fun t110 => (spec_HyperOK.j0 k (!t110) a0_0 a0_1 l0_2 l0_3))) else (spec_HyperOK.j0 k true a0_0 a0_1 l0_2 l0_3))) = some r := by rw [if_pos rfl] at H; exact H
      clear H
      have H := H1
      clear H1
      replace H := Option.bind_eq_some_iff.mp H
      obtain ⟨t109, A60, H⟩ := H
      replace H : (if t109 = true then (if (l0_2.length : Int) > 16384 then (spec_HyperOK.j0 k true a0_0 a0_1 l0_2 l0_3) else ((spec_l15SetOK.f k l0_3).bind fun t110 => (spec_HyperOK.j0 k (!t110) a0_0 a0_1 l0_2 l0_3))) else (spec_HyperOK.j0 k true a0_0 a0_1 l0_2 l0_3)) = some r := H
      have A6 := Aside0.mk A60
      clear A60
      by_cases c7 : t109 = true
      · subst c7
        have H1 : (if (l0_2.length : Int) > 16384 then (spec_HyperOK.j0 k true a0_0 a0_1 l0_2 l0_3) else ((spec_l15SetOK.f k l0_3).bind fun t110 => (spec_HyperOK.j0 k (!t110) a0_0 a0_1 l0_2 l0_3))) = some r := by rw [if_pos rfl] at H; exact H
        clear H
        have H := H1
        clear H1
        by_cases c8 : (l0_2.length : Int) > 16384
        · rw [if_pos c8] at H
          have c8b0 : decide (16384 < (l0_2.length : Int)) = true := decide_eq_true c8
          have c8b1 : decide (16384 < l0_2.length) = true := decide_eq_true (by omega)
          clear c8
          (first | rw [c8b0] | (simp only [i64_w, i32_w]; rw [c8b0]) | skip)
          have H' := Aside0.mk H
          clear H
          have hcz9_0 : w3.cell? ⟨gb107, 0, none⟩ = some (.int .i64 a0_0) := (blk_cell BK107.out 0).trans rfl
          have hcz9_1 : w3.cell? ⟨gb107, 1, none⟩ = some (.int .i64 a0_1) := (blk_cell BK107.out 1).trans rfl
          have hcz9_2 : w3.cell? ⟨gb107, 2, none⟩ = some (.slice A0_2 l0_2.length c0_2) := (blk_cell BK107.out 2).trans rfl
          have hcz9_3 : w3.cell? ⟨gb107, 3, none⟩ = some (.slice A0_3 l0_3.length c0_3) := (blk_cell BK107.out 3).trans rfl
          have hfz9_0 := blk_frozen BK107.out 0
          have hfz9_1 := blk_frozen BK107.out 1
          have hfz9_2 := blk_frozen BK107.out 2
          have hfz9_3 := blk_frozen BK107.out 3
          go_wp2_with (first | ((with_reducible refine gate_callee (f := 158) rfl ?_); refine goesL_ (some 5) rfl rfl Try.func158 (by kernel_rfl) rfl #[.int .i64 a0_0] rfl (by (try simp only [List.map_toArray, List.map_cons, List.map_nil]); first | done | rfl | (simp only [List.length_drop, List.length_take]; rfl)) ?_; (with_reducible refine (spec_l05Var.calls a0_0 true _ A4.out).mono ?_); rintro e w' ⟨rfl, ⟨nd, rfl⟩⟩; refine ⟨_, rfl, ?_⟩) | (go_at_call 158; (with_reducible refine (spec_l05Var.calls a0_1 true _ A6.out).mono ?_); rintro e w' ⟨rfl, ⟨nd, rfl⟩⟩))
          go_meet
          case rel => exact ⟨_, (true), (by first | rfl | (simp; done) | (simp [*]; done)), H', ⟨by first | omega | exact Nat.le_refl _⟩, ⟨by (with_reducible repeat (first | refine blk_drewN ?_ _ | refine blk_drew ?_ | refine blk_alloc ?_ _)); exact BK107.out⟩, ⟨by repeat (first | (with_reducible first | exact HB.out | apply below_alloc | apply pw_below_drewN | apply below_drew1 | refine below_set ?_ GE107.out) | exact HB.out)⟩⟩
        · rw [if_neg c8] at H
          have c8b0 : decide (16384 < (l0_2.length : Int)) = false := decide_eq_false c8
          have c8b1 : decide (16384 < l0_2.length) = false := decide_eq_false (by omega)
          clear c8
          (first | rw [c8b0] | (simp only [i64_w, i32_w]; rw [c8b0]) | skip)
          replace H := Option.bind_eq_some_iff.mp H
          obtain ⟨t110, A100, H⟩ := H
          replace H : (spec_HyperOK.j0 k (!t110) a0_0 a0_1 l0_2 l0_3) = some r := H
          have A10 := Aside0.mk A100
          clear A100
          have H' := Aside0.mk H
          clear H
          have hcz11_0 : w3.cell? ⟨gb107, 0, none⟩ = some (.int .i64 a0_0) := (blk_cell BK107.out 0).trans rfl
          have hcz11_1 : w3.cell? ⟨gb107, 1, none⟩ = some (.int .i64 a0_1) := (blk_cell BK107.out 1).trans rfl
          have hcz11_2 : w3.cell? ⟨gb107, 2, none⟩ = some (.slice A0_2 l0_2.length c0_2) := (blk_cell BK107.out 2).trans rfl
          have hcz11_3 : w3.cell? ⟨gb107, 3, none⟩ = some (.slice A0_3 l0_3.length c0_3) := (blk_cell BK107.out 3).trans rfl
          have hfz11_0 := blk_frozen BK107.out 0
          have hfz11_1 := blk_frozen BK107.out 1
          have hfz11_2 := blk_frozen BK107.out 2
          have hfz11_3 := blk_frozen BK107.out 3
          go_wp2_with (first | ((with_reducible refine gate_callee (f := 158) rfl ?_); refine goesL_ (some 5) rfl rfl Try.func158 (by kernel_rfl) rfl #[.int .i64 a0_0] rfl (by (try simp only [List.map_toArray, List.map_cons, List.map_nil]); first | done | rfl | (simp only [List.length_drop, List.length_take]; rfl)) ?_; (with_reducible refine (spec_l05Var.calls a0_0 true _ A4.out).mono ?_); rintro e w' ⟨rfl, ⟨nd, rfl⟩⟩; refine ⟨_, rfl, ?_⟩) | (go_at_call 158; (with_reducible refine (spec_l05Var.calls a0_1 true _ A6.out).mono ?_); rintro e w' ⟨rfl, ⟨nd, rfl⟩⟩) | (go_at_call 159; (with_reducible refine (spec_l15SetOK.calls k _ _ l0_3 t110 _ ?side1 ?side2 A10.out).mono ?_); (case side1 => repeat (first | exact (Kd.C_below HR0_3.out (by repeat (first | (with_reducible first | exact HB.out | apply below_alloc | apply pw_below_drewN | apply below_drew1 | refine below_set ?_ GE107.out) | exact HB.out))) | (with_reducible refine Kd.C_alloc ?_ _) | (with_reducible refine Kd.C_drewN ?_ _) | (with_reducible refine Kd.C_drew ?_))); (case side2 => exact HC0_3.out); rintro e w' ⟨rfl, ⟨nd, rfl⟩⟩))
          go_meet
          case rel => exact ⟨_, (!t110), (by first | rfl | (simp; done) | (simp [*]; done)), H', ⟨by first | omega | exact Nat.le_refl _⟩, ⟨by (with_reducible repeat (first | refine blk_drewN ?_ _ | refine blk_drew ?_ | refine blk_alloc ?_ _)); exact BK107.out⟩, ⟨by repeat (first | (with_reducible first | exact HB.out | apply below_alloc | apply pw_below_drewN | apply below_drew1 | refine below_set ?_ GE107.out) | exact HB.out)⟩⟩
      · replace c7 := Bool.eq_false_iff.mpr c7
        subst c7
        have H1 : (spec_HyperOK.j0 k true a0_0 a0_1 l0_2 l0_3) = some r := by rw [if_neg (show ¬ (false = true) by decide)] at H; exact H
        clear H
        have H := H1
        clear H1
        have H' := Aside0.mk H
        clear H
        have hcz12_0 : w3.cell? ⟨gb107, 0, none⟩ = some (.int .i64 a0_0) := (blk_cell BK107.out 0).trans rfl
        have hcz12_1 : w3.cell? ⟨gb107, 1, none⟩ = some (.int .i64 a0_1) := (blk_cell BK107.out 1).trans rfl
        have hcz12_2 : w3.cell? ⟨gb107, 2, none⟩ = some (.slice A0_2 l0_2.length c0_2) := (blk_cell BK107.out 2).trans rfl
        have hcz12_3 : w3.cell? ⟨gb107, 3, none⟩ = some (.slice A0_3 l0_3.length c0_3) := (blk_cell BK107.out 3).trans rfl
        have hfz12_0 := blk_frozen BK107.out 0
        have hfz12_1 := blk_frozen BK107.out 1
        have hfz12_2 := blk_frozen BK107.out 2
        have hfz12_3 := blk_frozen BK107.out 3
        go_wp2_with (first | ((with_reducible refine gate_callee (f := 158) rfl ?_); refine goesL_ (some 5) rfl rfl Try.func158 (by kernel_rfl) rfl #[.int .i64 a0_0] rfl (by (try simp only [List.map_toArray, List.map_cons, List.map_nil]); first | done | rfl | (simp only [List.length_drop, List.length_take]; rfl)) ?_; (with_reducible refine (spec_l05Var.calls a0_0 true _ A4.out).mono ?_); rintro e w' ⟨rfl, ⟨nd, rfl⟩⟩; refine ⟨_, rfl, ?_⟩) | (go_at_call 158; (with_reducible refine (spec_l05Var.calls a0_1 false _ A6.out).mono ?_); rintro e w' ⟨rfl, ⟨nd, rfl⟩⟩))
        go_meet
        case rel => exact ⟨_, (true), (by first | rfl | (simp; done) | (simp [*]; done)), H', ⟨by first | omega | exact Nat.le_refl _⟩, ⟨by (with_reducible repeat (first | refine blk_drewN ?_ _ | refine blk_drew ?_ | refine blk_alloc ?_ _)); exact BK107.out⟩, ⟨by repeat (first | (with_reducible first | exact HB.out | apply below_alloc | apply pw_below_drewN | apply below_drew1 | refine below_set ?_ GE107.out) | exact HB.out)⟩⟩
    · replace c5 := Bool.eq_false_iff.mpr c5
      subst c5
      have H1 : (spec_HyperOK.j0 k true a0_0 a0_1 l0_2 l0_3) = some r := by rw [if_neg (show ¬ (false = true) by decide)] at H; exact H
      clear H
      have H := H1
      clear H1
      have H' := Aside0.mk H
      clear H
      have hcz13_0 : w3.cell? ⟨gb107, 0, none⟩ = some (.int .i64 a0_0) := (blk_cell BK107.out 0).trans rfl
      have hcz13_1 : w3.cell? ⟨gb107, 1, none⟩ = some (.int .i64 a0_1) := (blk_cell BK107.out 1).trans rfl
      have hcz13_2 : w3.cell? ⟨gb107, 2, none⟩ = some (.slice A0_2 l0_2.length c0_2) := (blk_cell BK107.out 2).trans rfl
      have hcz13_3 : w3.cell? ⟨gb107, 3, none⟩ = some (.slice A0_3 l0_3.length c0_3) := (blk_cell BK107.out 3).trans rfl
      have hfz13_0 := blk_frozen BK107.out 0
      have hfz13_1 := blk_frozen BK107.out 1
      have hfz13_2 := blk_frozen BK107.out 2
      have hfz13_3 := blk_frozen BK107.out 3
      go_wp2_with (first | ((with_reducible refine gate_callee (f := 158) rfl ?_); refine goesL_ (some 5) rfl rfl Try.func158 (by kernel_rfl) rfl #[.int .i64 a0_0] rfl (by (try simp only [List.map_toArray, List.map_cons, List.map_nil]); first | done | rfl | (simp only [List.length_drop, List.length_take]; rfl)) ?_; (with_reducible refine (spec_l05Var.calls a0_0 false _ A4.out).mono ?_); rintro e w' ⟨rfl, ⟨nd, rfl⟩⟩; refine ⟨_, rfl, ?_⟩))
      go_meet
      case rel => exact ⟨_, (true), (by first | rfl | (simp; done) | (simp [*]; done)), H', ⟨by first | omega | exact Nat.le_refl _⟩, ⟨by (with_reducible repeat (first | refine blk_drewN ?_ _ | refine blk_drew ?_ | refine blk_alloc ?_ _)); exact BK107.out⟩, ⟨by repeat (first | (with_reducible first | exact HB.out | apply below_alloc | apply pw_below_drewN | apply below_drew1 | refine below_set ?_ GE107.out) | exact HB.out)⟩⟩
  case rest =>
    clear HC2
    try clear c1
    try clear p2
    try clear c5
    try clear c7
    try clear c8
    try clear c8b0
    try clear c8b1
    try clear hcz11_0
    try clear hcz11_1
    try clear hcz11_2
    try clear hcz11_3
    try clear hcz12_0
    try clear hcz12_1
    try clear hcz12_2
    try clear hcz12_3
    try clear hcz13_0
    try clear hcz13_1
    try clear hcz13_2
    try clear hcz13_3
    try clear hcz9_0
    try clear hcz9_1
    try clear hcz9_2
    try clear hcz9_3
    try clear hfz11_0
    try clear hfz11_1
    try clear hfz11_2
    try clear hfz11_3
    try clear hfz12_0
    try clear hfz12_1
    try clear hfz12_2
    try clear hfz12_3
    try clear hfz13_0
    try clear hfz13_1
    try clear hfz13_2
    try clear hfz13_3
    try clear hfz9_0
    try clear hfz9_1
    try clear hfz9_2
    try clear hfz9_3
    obtain ⟨kq, x24_1, rfl, HA, HJ1, BK107, HB⟩ := hcut
    cases kq with
    | zero => exact absurd HA.out (by simp [spec_HyperOK.j0])
    | succ kj1 =>
      have H := HA.out
      clear HA
      simp only [spec_HyperOK.j0] at H
      by_cases c14 : x24_1 = true
      · subst c14
        have H1 : (some false) = some r := by rw [if_pos rfl] at H; exact H
        clear H
        have H := H1
        clear H1
        obtain rfl := Option.some.inj H
        go_wp2
        go_ret
        exact ⟨by first | rfl | (simp [errW_none, errW_some] <;> rfl) | (simp [*, errW_none, errW_some] <;> rfl), by repeat (first | (with_reducible first | exact HB.out | apply below_alloc | apply pw_below_drewN | apply below_drew1 | refine below_set ?_ GE107.out) | exact HB.out)⟩
      · replace c14 := Bool.eq_false_iff.mpr c14
        subst c14
        have H1 : (if a0_0 = 4 then (if a0_1 = 0 then (some ((l0_2.length : Int) == 0)) else (some false)) else (if a0_0 = 7 then (if (l0_3.length : Int) = 0 then (some ((l0_2.length : Int) == 0)) else (some false)) else (if a0_0 = 15 then (if (l0_3.length : Int) = 0 then (some (decide ((l0_2.length : Int) ≤ 1024))) else (some false)) else (if a0_1 = 0 then (some ((l0_3.length : Int) == 0)) else (some false))))) = some r := by rw [if_neg (show ¬ (false = true) by decide)] at H; exact H
        clear H
        have H := H1
        clear H1
        by_cases c15 : a0_0 = 4
        · rw [if_pos c15] at H
          have c15b0 : (a0_0 == 4) = true := beq_iff_eq.mpr c15
          have c15b1 : (a0_0 != 4) = false := bne_eq_false_iff_eq.mpr c15
          clear c15
          by_cases c16 : a0_1 = 0
          · rw [if_pos c16] at H
            have c16b0 : (a0_1 == 0) = true := beq_iff_eq.mpr c16
            have c16b1 : (a0_1 != 0) = false := bne_eq_false_iff_eq.mpr c16
            clear c16
            obtain rfl := Option.some.inj H
            have hcz17_0 : wc.cell? ⟨gb107, 0, none⟩ = some (.int .i64 a0_0) := (blk_cell BK107.out 0).trans rfl
            have hcz17_1 : wc.cell? ⟨gb107, 1, none⟩ = some (.int .i64 a0_1) := (blk_cell BK107.out 1).trans rfl
            have hcz17_2 : wc.cell? ⟨gb107, 2, none⟩ = some (.slice A0_2 l0_2.length c0_2) := (blk_cell BK107.out 2).trans rfl
            have hcz17_3 : wc.cell? ⟨gb107, 3, none⟩ = some (.slice A0_3 l0_3.length c0_3) := (blk_cell BK107.out 3).trans rfl
            have hfz17_0 := blk_frozen BK107.out 0
            have hfz17_1 := blk_frozen BK107.out 1
            have hfz17_2 := blk_frozen BK107.out 2
            have hfz17_3 := blk_frozen BK107.out 3
            go_wp2
            go_ret
            exact ⟨by first | rfl | (simp [errW_none, errW_some] <;> rfl) | (simp [*, errW_none, errW_some] <;> rfl), by repeat (first | (with_reducible first | exact HB.out | apply below_alloc | apply pw_below_drewN | apply below_drew1 | refine below_set ?_ GE107.out) | exact HB.out)⟩
          · rw [if_neg c16] at H
            have c16b0 : (a0_1 == 0) = false := beq_eq_false_iff_ne.mpr c16
            have c16b1 : (a0_1 != 0) = true := bne_iff_ne.mpr c16
            obtain rfl := Option.some.inj H
            have hcz18_0 : wc.cell? ⟨gb107, 0, none⟩ = some (.int .i64 a0_0) := (blk_cell BK107.out 0).trans rfl
            have hcz18_1 : wc.cell? ⟨gb107, 1, none⟩ = some (.int .i64 a0_1) := (blk_cell BK107.out 1).trans rfl
            have hcz18_2 : wc.cell? ⟨gb107, 2, none⟩ = some (.slice A0_2 l0_2.length c0_2) := (blk_cell BK107.out 2).trans rfl
            have hcz18_3 : wc.cell? ⟨gb107, 3, none⟩ = some (.slice A0_3 l0_3.length c0_3) := (blk_cell BK107.out 3).trans rfl
            have hfz18_0 := blk_frozen BK107.out 0
            have hfz18_1 := blk_frozen BK107.out 1
            have hfz18_2 := blk_frozen BK107.out 2
            have hfz18_3 := blk_frozen BK107.out 3
            go_wp2
            go_ret
            exact ⟨by first | rfl | (simp [errW_none, errW_some] <;> rfl) | (simp [*, errW_none, errW_some] <;> rfl), by repeat (first | (with_reducible first | exact HB.out | apply below_alloc | apply pw_below_drewN | apply below_drew1 | refine below_set ?_ GE107.out) | exact HB.out)⟩
        · rw [if_neg c15] at H
          have c15b0 : (a0_0 == 4) = false := beq_eq_false_iff_ne.mpr c15
          have c15b1 : (a0_0 != 4) = true := bne_iff_ne.mpr c15
          by_cases c19 : a0_0 = 7
          · rw [if_pos c19] at H
            have c19b0 : (a0_0 == 7) = true := beq_iff_eq.mpr c19
            have c19b1 : (a0_0 != 7) = false := bne_eq_false_iff_eq.mpr c19
            clear c19
            by_cases c20 : (l0_3.length : Int) = 0
            · rw [if_pos c20] at H
              have c20b0 : ((l0_3.length : Int) == 0) = true := beq_iff_eq.mpr c20
              have c20b1 : ((l0_3.length : Int) != 0) = false := bne_eq_false_iff_eq.mpr c20
              clear c20
              obtain rfl := Option.some.inj H
              have hcz21_0 : wc.cell? ⟨gb107, 0, none⟩ = some (.int .i64 a0_0) := (blk_cell BK107.out 0).trans rfl
              have hcz21_1 : wc.cell? ⟨gb107, 1, none⟩ = some (.int .i64 a0_1) := (blk_cell BK107.out 1).trans rfl
              have hcz21_2 : wc.cell? ⟨gb107, 2, none⟩ = some (.slice A0_2 l0_2.length c0_2) := (blk_cell BK107.out 2).trans rfl
              have hcz21_3 : wc.cell? ⟨gb107, 3, none⟩ = some (.slice A0_3 l0_3.length c0_3) := (blk_cell BK107.out 3).trans rfl
              have hfz21_0 := blk_frozen BK107.out 0
              have hfz21_1 := blk_frozen BK107.out 1
              have hfz21_2 := blk_frozen BK107.out 2
              have hfz21_3 := blk_frozen BK107.out 3
              go_wp2
              go_ret
              exact ⟨by first | rfl | (simp [errW_none, errW_some] <;> rfl) | (simp [*, errW_none, errW_some] <;> rfl), by repeat (first | (with_reducible first | exact HB.out | apply below_alloc | apply pw_below_drewN | apply below_drew1 | refine below_set ?_ GE107.out) | exact HB.out)⟩
            · rw [if_neg c20] at H
              have c20b0 : ((l0_3.length : Int) == 0) = false := beq_eq_false_iff_ne.mpr c20
              have c20b1 : ((l0_3.length : Int) != 0) = true := bne_iff_ne.mpr c20
              have c20b2 : ¬ (l0_3 = []) := fun h_ => c20 (by rw [h_]; rfl)
              obtain rfl := Option.some.inj H
              have hcz22_0 : wc.cell? ⟨gb107, 0, none⟩ = some (.int .i64 a0_0) := (blk_cell BK107.out 0).trans rfl
              have hcz22_1 : wc.cell? ⟨gb107, 1, none⟩ = some (.int .i64 a0_1) := (blk_cell BK107.out 1).trans rfl
              have hcz22_2 : wc.cell? ⟨gb107, 2, none⟩ = some (.slice A0_2 l0_2.length c0_2) := (blk_cell BK107.out 2).trans rfl
              have hcz22_3 : wc.cell? ⟨gb107, 3, none⟩ = some (.slice A0_3 l0_3.length c0_3) := (blk_cell BK107.out 3).trans rfl
              have hfz22_0 := blk_frozen BK107.out 0
              have hfz22_1 := blk_frozen BK107.out 1
              have hfz22_2 := blk_frozen BK107.out 2
              have hfz22_3 := blk_frozen BK107.out 3
              go_wp2
              go_ret
              exact ⟨by first | rfl | (simp [errW_none, errW_some] <;> rfl) | (simp [*, errW_none, errW_some] <;> rfl), by repeat (first | (with_reducible first | exact HB.out | apply below_alloc | apply pw_below_drewN | apply below_drew1 | refine below_set ?_ GE107.out) | exact HB.out)⟩
          · rw [if_neg c19] at H
            have c19b0 : (a0_0 == 7) = false := beq_eq_false_iff_ne.mpr c19
            have c19b1 : (a0_0 != 7) = true := bne_iff_ne.mpr c19
            by_cases c23 : a0_0 = 15
            · rw [if_pos c23] at H
              have c23b0 : (a0_0 == 15) = true := beq_iff_eq.mpr c23
              have c23b1 : (a0_0 != 15) = false := bne_eq_false_iff_eq.mpr c23
              clear c23
              by_cases c24 : (l0_3.length : Int) = 0
              · rw [if_pos c24] at H
                have c24b0 : ((l0_3.length : Int) == 0) = true := beq_iff_eq.mpr c24
                have c24b1 : ((l0_3.length : Int) != 0) = false := bne_eq_false_iff_eq.mpr c24
                clear c24
                obtain rfl := Option.some.inj H
                have hcz25_0 : wc.cell? ⟨gb107, 0, none⟩ = some (.int .i64 a0_0) := (blk_cell BK107.out 0).trans rfl
                have hcz25_1 : wc.cell? ⟨gb107, 1, none⟩ = some (.int .i64 a0_1) := (blk_cell BK107.out 1).trans rfl
                have hcz25_2 : wc.cell? ⟨gb107, 2, none⟩ = some (.slice A0_2 l0_2.length c0_2) := (blk_cell BK107.out 2).trans rfl
                have hcz25_3 : wc.cell? ⟨gb107, 3, none⟩ = some (.slice A0_3 l0_3.length c0_3) := (blk_cell BK107.out 3).trans rfl
                have hfz25_0 := blk_frozen BK107.out 0
                have hfz25_1 := blk_frozen BK107.out 1
                have hfz25_2 := blk_frozen BK107.out 2
                have hfz25_3 := blk_frozen BK107.out 3
                go_wp2
                go_ret
                exact ⟨by first | rfl | (simp [errW_none, errW_some] <;> rfl) | (simp [*, errW_none, errW_some] <;> rfl), by repeat (first | (with_reducible first | exact HB.out | apply below_alloc | apply pw_below_drewN | apply below_drew1 | refine below_set ?_ GE107.out) | exact HB.out)⟩
              · rw [if_neg c24] at H
                have c24b0 : ((l0_3.length : Int) == 0) = false := beq_eq_false_iff_ne.mpr c24
                have c24b1 : ((l0_3.length : Int) != 0) = true := bne_iff_ne.mpr c24
                have c24b2 : ¬ (l0_3 = []) := fun h_ => c24 (by rw [h_]; rfl)
                obtain rfl := Option.some.inj H
                have hcz26_0 : wc.cell? ⟨gb107, 0, none⟩ = some (.int .i64 a0_0) := (blk_cell BK107.out 0).trans rfl
                have hcz26_1 : wc.cell? ⟨gb107, 1, none⟩ = some (.int .i64 a0_1) := (blk_cell BK107.out 1).trans rfl
                have hcz26_2 : wc.cell? ⟨gb107, 2, none⟩ = some (.slice A0_2 l0_2.length c0_2) := (blk_cell BK107.out 2).trans rfl
                have hcz26_3 : wc.cell? ⟨gb107, 3, none⟩ = some (.slice A0_3 l0_3.length c0_3) := (blk_cell BK107.out 3).trans rfl
                have hfz26_0 := blk_frozen BK107.out 0
                have hfz26_1 := blk_frozen BK107.out 1
                have hfz26_2 := blk_frozen BK107.out 2
                have hfz26_3 := blk_frozen BK107.out 3
                go_wp2
                go_ret
                exact ⟨by first | rfl | (simp [errW_none, errW_some] <;> rfl) | (simp [*, errW_none, errW_some] <;> rfl), by repeat (first | (with_reducible first | exact HB.out | apply below_alloc | apply pw_below_drewN | apply below_drew1 | refine below_set ?_ GE107.out) | exact HB.out)⟩
            · rw [if_neg c23] at H
              have c23b0 : (a0_0 == 15) = false := beq_eq_false_iff_ne.mpr c23
              have c23b1 : (a0_0 != 15) = true := bne_iff_ne.mpr c23
              by_cases c27 : a0_1 = 0
              · rw [if_pos c27] at H
                have c27b0 : (a0_1 == 0) = true := beq_iff_eq.mpr c27
                have c27b1 : (a0_1 != 0) = false := bne_eq_false_iff_eq.mpr c27
                clear c27
                obtain rfl := Option.some.inj H
                have hcz28_0 : wc.cell? ⟨gb107, 0, none⟩ = some (.int .i64 a0_0) := (blk_cell BK107.out 0).trans rfl
                have hcz28_1 : wc.cell? ⟨gb107, 1, none⟩ = some (.int .i64 a0_1) := (blk_cell BK107.out 1).trans rfl
                have hcz28_2 : wc.cell? ⟨gb107, 2, none⟩ = some (.slice A0_2 l0_2.length c0_2) := (blk_cell BK107.out 2).trans rfl
                have hcz28_3 : wc.cell? ⟨gb107, 3, none⟩ = some (.slice A0_3 l0_3.length c0_3) := (blk_cell BK107.out 3).trans rfl
                have hfz28_0 := blk_frozen BK107.out 0
                have hfz28_1 := blk_frozen BK107.out 1
                have hfz28_2 := blk_frozen BK107.out 2
                have hfz28_3 := blk_frozen BK107.out 3
                go_wp2
                go_ret
                exact ⟨by first | rfl | (simp [errW_none, errW_some] <;> rfl) | (simp [*, errW_none, errW_some] <;> rfl), by repeat (first | (with_reducible first | exact HB.out | apply below_alloc | apply pw_below_drewN | apply below_drew1 | refine below_set ?_ GE107.out) | exact HB.out)⟩
              · rw [if_neg c27] at H
                have c27b0 : (a0_1 == 0) = false := beq_eq_false_iff_ne.mpr c27
                have c27b1 : (a0_1 != 0) = true := bne_iff_ne.mpr c27
                obtain rfl := Option.some.inj H
                have hcz29_0 : wc.cell? ⟨gb107, 0, none⟩ = some (.int .i64 a0_0) := (blk_cell BK107.out 0).trans rfl
                have hcz29_1 : wc.cell? ⟨gb107, 1, none⟩ = some (.int .i64 a0_1) := (blk_cell BK107.out 1).trans rfl
                have hcz29_2 : wc.cell? ⟨gb107, 2, none⟩ = some (.slice A0_2 l0_2.length c0_2) := (blk_cell BK107.out 2).trans rfl
                have hcz29_3 : wc.cell? ⟨gb107, 3, none⟩ = some (.slice A0_3 l0_3.length c0_3) := (blk_cell BK107.out 3).trans rfl
                have hfz29_0 := blk_frozen BK107.out 0
                have hfz29_1 := blk_frozen BK107.out 1
                have hfz29_2 := blk_frozen BK107.out 2
                have hfz29_3 := blk_frozen BK107.out 3
                go_wp2
                go_ret
                exact ⟨by first | rfl | (simp [errW_none, errW_some] <;> rfl) | (simp [*, errW_none, errW_some] <;> rfl), by repeat (first | (with_reducible first | exact HB.out | apply below_alloc | apply pw_below_drewN | apply below_drew1 | refine below_set ?_ GE107.out) | exact HB.out)⟩

end Go.Proofs.Ytkloeccbhjngiaa.PFnExactReadHyper
